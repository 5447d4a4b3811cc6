/- slices.Delete of one text: the walk. -/
import Derived.Test.YtmbaagaeobcmaaaSd
import Derived.Deep.RegionLaw
import Derived.Lib.SliceRun
import Derived.BigFrame
set_option linter.unusedVariables false
set_option linter.unusedSimpArgs false
namespace Go.Proofs.Ytmbaagaeobcmaaa.Dl
open Go.RowKit Go.Proofs.Ytmbaagaeobcmaaa.Nt Go.Proofs.Ytmbaagaeobcmaaa.Nc Go.Proofs.Ytmbaagaeobcmaaa.Sd Go.Proofs.YtmbaagaeobcmaaaW.PrintWords Go.Proofs.YtmbaagaeobcmaaaW.PrintLast
/-- Nothing but the block g may have changed. -/
structure But (g : Nat) (w w' : World) : Prop where
  os : w'.os = w.os
  tape : w'.tape = w.tape
  output : w'.output = w.output
  size : w.heap.size ≤ w'.heap.size
  block : ∀ k, k ≠ g → k < w.heap.size → w'.heap[k]? = w.heap[k]?
theorem But.refl (g : Nat) (w : World) : But g w w := ⟨rfl, rfl, rfl, Nat.le_refl _, fun _ _ _ => rfl⟩
theorem But.drew {g : Nat} {w w1 : World} (h : But g w w1) : But g w w1.drew := ⟨h.os, h.tape, h.output, h.size, h.block⟩
theorem But.cells {g : Nat} {w w1 : World} (h : But g w w1) (o : Nat) (vs : List Value) : But g w (w1.setCells g o vs) := by
  obtain ⟨a, b, c, d⟩ := setCells_same g vs o w1
  exact ⟨a.trans h.os, b.trans h.tape, c.trans h.output, by rw [d]; exact h.size, fun k hk hlt => (setCells_far vs o k hk).trans (h.block k hk hlt)⟩
/-- A row of texts: a block that begins with them. -/
structure Row (W : World) (g cap : Nat) (l : List ByteArray) : Prop where
  ex : ∃ cur, W.heap[g]? = some (.cells cur 9 (0, 0)) ∧ cur.size = cap ∧ cur.toList.take l.length = pw_strs l
  cp : l.length ≤ cap
  mx : cap ≤ maxLen
theorem Row.cell {W : World} {g cap : Nat} {l : List ByteArray} (h : Row W g cap l) (i : Nat) (hi : i < l.length) : W.cell? ⟨g, i, none⟩ = some (.string l[i]) := by
  obtain ⟨cur, h1, h2, h3⟩ := h.ex
  rw [blk_cell h1, ← Array.getElem?_toList]
  have : (cur.toList.take l.length)[i]? = some (.string l[i]) := by rw [h3]; simp [pw_strs, hi]
  rw [List.getElem?_take, if_pos hi] at this
  exact this
theorem Row.some_ {W : World} {g cap : Nat} {l : List ByteArray} (h : Row W g cap l) (i : Nat) (hi : i < cap) : (W.cell? ⟨g, i, none⟩).isSome = true := by
  obtain ⟨cur, h1, h2, h3⟩ := h.ex
  rw [blk_cell h1]
  simp [h2, hi]
theorem Row.free {W : World} {g cap : Nat} {l : List ByteArray} (h : Row W g cap l) (i : Nat) : W.frozen? ⟨g, i, none⟩ = false := by
  obtain ⟨cur, h1, h2, h3⟩ := h.ex
  exact blk_frozen h1 i
theorem Row.own {W : World} {g cap base : Nat} {l : List ByteArray} (h : Row W g cap l) (hg : base ≤ g) : W.ownsRow base 9 1 (.slice (some ⟨g, 0, none⟩) l.length cap) l.length (pw_strs l) := by
  obtain ⟨cur, h1, h2, h3⟩ := h.ex
  exact ⟨by simp [pw_strs], .inr ⟨g, cap, cur, rfl, hg, h1, h.cp, h.mx, by rw [h2, Nat.mul_one], by rw [Nat.mul_one]; exact h3⟩⟩
theorem row_of {W : World} {base n c : Nat} {A : Option Addr} {l : List ByteArray} (h : W.ownsRow base 9 1 (.slice A n c) l.length (pw_strs l)) (hl : 0 < l.length) : ∃ g, A = some ⟨g, 0, none⟩ ∧ n = l.length ∧ base ≤ g ∧ Row W g c l := by
  rcases h.2 with ⟨_, e⟩ | ⟨g, cap, cur, e, q1, q2, q3, q4, q5, q6⟩
  · omega
  · injection e with e1 e2 e3
    subst e1 e2 e3
    exact ⟨g, rfl, rfl, q1, ⟨cur, q2, by simpa using q5, by simpa using q6⟩, q3, q4⟩
theorem zero9 (w : World) : (zeroValue 9).run Try.prog w = .ok (.string ByteArray.empty) w := by kernel_rfl
def moved (l : List ByteArray) (i : Nat) : List Value := pw_strs (l.drop (i + 1))
theorem moved_length (l : List ByteArray) (i : Nat) : (moved l i).length = l.length - (i + 1) := by simp [moved, pw_strs]
set_option maxHeartbeats 1600000 in
set_option maxRecDepth 100000 in
theorem Delete_calls (g cap : Nat) (l : List ByteArray) (i : Nat) (W : World) (h : Row W g cap l) (hi : i < l.length) :
    Calls Try.prog 26 #[.slice (some ⟨g, 0, none⟩) l.length cap, .int .i64 (i : Nat), .int .i64 ((i : Int) + 1)] W fun e w' => e = .returned (.slice (some ⟨g, 0, none⟩) (l.length - 1) cap) ∧ Row w' g cap (l.eraseIdx i) ∧ But g W w' := by
  obtain ⟨i0, hi0, hz0, hz1, hz2⟩ := info_parts info9
  have hcp := h.cp
  have hmx := h.mx
  unfold maxLen at hmx
  have hR : Hid (Row W.drew g cap l) := Lib.hid ⟨h.ex, h.cp, h.mx⟩
  obtain ⟨A, hA, hnews⟩ : ∃ A : Addr, (if cap = i + 1 then some (⟨g, 0, none⟩ : Addr) else some ⟨g, i + 1, none⟩) = some A ∧ Hid (∀ j u, (moved l i)[j]? = some u → W.drew.cell? (A.add j) = some u) := by
    by_cases hc : cap = i + 1
    · refine ⟨⟨g, 0, none⟩, by simp [hc], Lib.hid (fun j u hu => ?_)⟩
      have h0 : (moved l i).length = 0 := by rw [moved_length]; omega
      rw [List.length_eq_zero_iff.1 h0] at hu
      simp at hu
    · refine ⟨⟨g, i + 1, none⟩, by simp [hc], Lib.hid (fun j u hu => ?_)⟩
      have hj : j < l.length - (i + 1) := by
        have := (List.getElem?_eq_some_iff.1 hu).1
        rwa [moved_length] at this
      have hjl : i + 1 + j < l.length := by omega
      have hu2 : (moved l i)[j]? = some (.string l[i + 1 + j]) := by simp [moved, pw_strs, hjl]
      rw [hu2] at hu
      rw [Addr.add_lit, ← Option.some.inj hu]
      exact hR.out.cell (i + 1 + j) hjl
  have s1 : Hid ((moved l i).length = (l.length - (i + 1)) * 1) := Lib.hid (by rw [Nat.mul_one]; exact moved_length l i)
  have s2 : Hid (∀ u ∈ moved l i, u.oneCell' = true) := Lib.hid (fun u hu => by
    obtain ⟨x, _, rfl⟩ := List.mem_map.1 hu
    rfl)
  have s3 : Hid (∀ j, j < (moved l i).length → (W.drew.cell? ⟨g, 0 + i * 1 + j, none⟩).isSome = true ∧ W.drew.frozen? ⟨g, 0 + i * 1 + j, none⟩ = false) := Lib.hid (fun j hj => by
    rw [moved_length] at hj
    rw [Nat.mul_one, Nat.zero_add]
    exact ⟨hR.out.some_ (i + j) (by omega), hR.out.free _⟩)
  have hic : i ≤ cap := by omega
  have hwr : IntKind.i64.wrap ((i : Int) + 1) = (i : Int) + 1 := by rw [IntKind.wrap_i64]; omega
  have hp0 : (0 : Int) ≤ (i : Int) + 1 := by omega
  have hp1 : (i : Int) + 1 ≤ (l.length : Int) := by omega
  have hp2 : ((i : Int) + 1).toNat = i + 1 := by omega
  have hne : ((i : Int) == (i : Int) + 1) = false := by simp; omega
  clear h
  go_enter Try.func26, Try.ntmps26
  go_upto_region 5 with fail
  go_region_law (refine step_append_room rfl (.tmp 22) (.tmp 25) 42 rfl 9 i0 1 Try.underlying42 hi0 hz1 g 0 i cap (by simp [Act.eval, Act.put]) A (l.length - (i + 1)) (cap - (i + 1)) (moved l i) (by simp [Act.eval, Act.put]) s1.out hnews.out s2.out (by omega) s3.out ?_)
  have hwe : W.drew.setCells g (0 + i * 1) (moved l i) = W.drew.setCells g i (moved l i) := by rw [Nat.zero_add, Nat.mul_one]
  have hR2 : Hid (Row (W.drew.setCells g i (moved l i)) g cap (l.eraseIdx i)) := by
    rw [← hwe]
    refine Lib.hid ?_
    obtain ⟨cur, h1, h2, h3⟩ := hR.out.ex
    have hcl : cur.toList.length = cap := by rw [Array.length_toList]; exact h2
    have hml := moved_length l i
    obtain ⟨cur', g1, g2, g3⟩ := setCells_row (moved l i) (0 + i * 1) W.drew cur h1 (by rw [hml]; omega)
    have hel : (l.eraseIdx i).length = l.length - 1 := by rw [List.length_eraseIdx, if_pos hi]
    refine ⟨⟨cur', g1, g2.trans h2, ?_⟩, by omega, hR.out.mx⟩
    rw [g3, hel, Nat.zero_add, Nat.mul_one]
    have e1 : cur.toList.take i = pw_strs (l.take i) := by
      have : (cur.toList.take l.length).take i = cur.toList.take i := by rw [List.take_take, Nat.min_eq_left (by omega)]
      rw [← this, h3]; simp [pw_strs, List.map_take]
    rw [e1, List.take_append_of_le_length (by simp [pw_strs, hml]; omega), List.take_of_length_le (by simp [pw_strs, hml]; omega), List.eraseIdx_eq_take_drop_succ]
    simp [pw_strs, moved]
  have hB2 : Hid (But g W (W.drew.setCells g i (moved l i))) := Lib.hid ((But.refl g W).drew.cells _ _)
  clear hnews s1 s2 s3 hR hA
  clear hwe
  generalize W.drew.setCells g i (moved l i) = w2 at hR2 hB2 ⊢
  have e1 : i + (l.length - (i + 1)) = l.length - 1 := by omega
  rw [e1]
  have hle : l.length - 1 ≤ l.length := by omega
  have hlc : l.length ≤ cap := hcp
  have hne2 : ¬ cap = l.length - 1 := by omega
  have hcl := fun ty => Lib.run_clear_slice w2 42 9 ty (.string ByteArray.empty) Try.underlying42 zero9 rfl rfl g (l.length - 1) (l.length - (l.length - 1)) (cap - (l.length - 1)) (by omega) (fun j hj => hR2.out.some_ _ (by omega)) (fun j hj => hR2.out.free _)
  have hZl : (List.replicate (l.length - (l.length - 1)) (Value.string ByteArray.empty)).length = l.length - (l.length - 1) := by simp
  generalize List.replicate (l.length - (l.length - 1)) (Value.string ByteArray.empty) = Z at hcl hZl
  have HZ := Lib.hid hZl
  clear hZl
  go_wp2_with (simp only [hcl])
  go_ret
  refine ⟨rfl, ?_, hB2.out.cells _ _⟩
  obtain ⟨cur, h1, h2, h3⟩ := hR2.out.ex
  have hel : (l.eraseIdx i).length = l.length - 1 := by rw [List.length_eraseIdx, if_pos hi]
  have hcl2 : cur.toList.length = cap := by rw [Array.length_toList]; exact h2
  obtain ⟨cur', g1, g2, g3⟩ := setCells_row Z (l.length - 1) w2 cur h1 (by rw [HZ.out]; omega)
  refine ⟨⟨cur', g1, g2.trans h2, ?_⟩, hR2.out.cp, hR2.out.mx⟩
  rw [g3, List.append_assoc, List.take_append_of_le_length (by simp [hel]; omega), List.take_take, hel, Nat.min_self, ← hel]
  exact h3
end Go.Proofs.Ytmbaagaeobcmaaa.Dl
