/- duetref05's Take: the walk. -/
import Derived.Test.YtmbaagaeobcmaaaRe
set_option linter.unusedVariables false
set_option linter.unusedSimpArgs false
namespace Go.Proofs.Ytmbaagaeobcmaaa.Rk
open Go.RowKit Go.Proofs.Ytmbaagaeobcmaaa.NtK Go.Proofs.Ytmbaagaeobcmaaa.NcK Go.Proofs.Ytmbaagaeobcmaaa.CsK Go.Proofs.Ytmbaagaeobcmaaa.Rn Go.Proofs.Ytmbaagaeobcmaaa.Ra Go.Proofs.Ytmbaagaeobcmaaa.Rc Go.Proofs.Ytmbaagaeobcmaaa.Re Go.Proofs.YtmbaagaeobcmaaaW.PrintWords Go.Proofs.YtmbaagaeobcmaaaW.PrintLast
section
variable {Kp : Nat → Option Obj} {w0 W : World} {g n : Nat} {r : Int} {B : Int → Int → List ByteArray}
theorem take_put {W1 WX w8 : World} {base gg m : Nat} {lv v7 v8 : Value} {rb : List Nat} {hd : Nat → Nat → Value} {i j b : Nat} {l : List ByteArray} (h : RN Kp W1 base gg m n r B lv rb hd) (hi : i < m) (hj : j < n) (hb : rb[i]? = some b)
    (hk : ∀ p, p < W1.heap.size → WX.heap[p]? = W1.heap[p]?) (hz : W1.heap.size ≤ WX.heap.size) (hv7 : v7.ownBlock = none ∨ ∃ p, v7.ownBlock = some p ∧ W1.heap.size ≤ p) (hg : WX.grownBy w8 v7.ownBlock)
    (hat : v8.ownBlock = v7.ownBlock ∨ ∃ p, v8.ownBlock = some p ∧ WX.heap.size ≤ p) (hown : w8.ownsRow base 9 1 v8 l.length (pw_strs l)) (hl : (l.length : Int) ≤ r) (hs : ∀ x ∈ l, x.size ≤ 5000) :
    RN Kp (w8.setCell ⟨b, j, none⟩ v8) base gg m n r (upd B (i : Nat) (j : Nat) l) lv rb (updH hd i j v8) ∧ ∀ p, p < W1.heap.size → w8.heap[p]? = W1.heap[p]? := by
  have h8 : ∀ p, p < W1.heap.size → w8.heap[p]? = W1.heap[p]? := fun p hp => (hg.block p (Nat.lt_of_lt_of_le hp hz) (fun e => by
    rcases hv7 with z | ⟨p2, z, hp2⟩
    · rw [z] at e; cases e
    · rw [z] at e; have := Option.some.inj e; omega)).trans (hk p hp)
  have hbW := (h.rw i b hb).2
  have hb8 := (h8 b (blk_lt hbW)).trans hbW
  refine ⟨h.put hi hj hb (blk_put hb8 j v8 (hdr_put n hd i j v8 hj)) (fun q h1 _ h3 => (Below.heap_setCell w8 ⟨b, j, none⟩ v8 q h1).trans (h8 q h3)) (own_setCell hown (own_ne hown hb8 (by decide)) v8) ?_ hl hs, h8⟩
  rcases hat with z | ⟨p, z, hp⟩
  · rcases hv7 with z2 | ⟨p2, z2, hp2⟩
    · exact .inr (.inl (z.trans z2))
    · exact .inr (.inr ⟨p2, z.trans z2, hp2⟩)
  · exact .inr (.inr ⟨p, z, Nat.le_trans hz hp⟩)
theorem erase_len (l : List ByteArray) (k : Nat) (hk : k < l.length) : l.take k ++ l.drop (k + 1) = l.eraseIdx k := (List.eraseIdx_eq_take_drop_succ l k).symm
set_option maxHeartbeats 4000000 in
set_option maxRecDepth 100000 in
theorem RTake_calls (h : RNet Kp w0 W g n r B) (f t i : Int) :
    Calls Try.prog 16 #[.pointer (some ⟨g, 0, none⟩), .int .i64 f, .int .i64 t, .int .i64 i] W fun e w' => e = .returned (.tuple #[.string (takeR n B f t i).1.1, .bool (takeR n B f t i).1.2]) ∧ RNet Kp w0 w' g n r (takeR n B f t i).2 := by
  have hle := RLen_calls h f t
  have hiff := hasB_iff (n := n) (B := B) f t i
  unfold takeR
  cases hh : hasB n f t i (B f t).length with
  | false =>
    rw [if_neg (by decide)]
    rw [hh] at hiff
    by_cases h0 : i < 0
    · have d0 : decide (i < 0) = true := decide_eq_true h0
      clear hle hh hiff h0
      go_enter Try.func16, Try.ntmps16
      go_wp2
      go_ret2
      exact ⟨rfl, h⟩
    · have d0 : decide (i < 0) = false := decide_eq_false h0
      have d1 : decide (((lenR n B f t : Nat) : Int) ≤ i) = true := decide_eq_true (by
        have h9 : ¬ (0 ≤ i ∧ i < ((lenR n B f t : Nat) : Int)) := fun q => by have := hiff.2 q; cases this
        omega)
      generalize lenR n B f t = ll at hle d1
      clear hh hiff h0
      go_enter Try.func16, Try.ntmps16
      go_wp2_with (go_at_call 22; refine hle.mono ?_; rintro e w1 ⟨rfl, rfl⟩)
      go_ret2
      exact ⟨rfl, h⟩
  | true =>
    rw [if_pos rfl]
    obtain ⟨p0, p1⟩ := hiff.1 hh
    have hb : isB n f t = true := by
      cases hb : isB n f t with
      | true => rfl
      | false => rw [hasB_no f t i hb] at hh; cases hh
    have hl2 : lenR n B f t = (B f t).length := by unfold lenR; rw [hb, if_pos rfl]
    obtain ⟨k, rfl⟩ : ∃ k : Nat, i = (k : Int) := ⟨i.toNat, by omega⟩
    have hk : k < (B f t).length := by omega
    obtain ⟨_, b1, b2, b3, b4⟩ := isB_spec hb
    obtain ⟨a, rfl⟩ : ∃ a : Nat, f = (a : Int) := ⟨f.toNat, by omega⟩
    obtain ⟨c, rfl⟩ : ∃ c : Nat, t = (c : Int) := ⟨t.toNat, by omega⟩
    have hi : a < n := by omega
    have hj : c < n := by omega
    have d0 : decide ((k : Int) < 0) = false := decide_eq_false (by omega)
    have d1 : decide (((lenR n B (a : Nat) (c : Nat) : Nat) : Int) ≤ (k : Int)) = false := decide_eq_false (by omega)
    have d1n : decide (lenR n B (a : Nat) (c : Nat) ≤ k) = false := decide_eq_false (by have := of_decide_eq_false d1; omega)
    have k0 : (0 : Int) ≤ (a : Int) := by omega
    have k1 : (0 : Int) ≤ (c : Int) := by omega
    have k2 : (0 : Int) ≤ (k : Int) := by omega
    have i1 : (a : Int) < (n : Int) := by omega
    have i2 : (c : Int) < (n : Int) := by omega
    have i3 : (k : Int) < ((B (a : Nat) (c : Nat)).length : Int) := by omega
    rw [show (((B (a : Nat) (c : Nat)).getD ((k : Nat) : Int).toNat ByteArray.empty) = (B (a : Nat) (c : Nat))[k]) by rw [Int.toNat_natCast, List.getD_eq_getElem?_getD, List.getElem?_eq_getElem hk]; rfl, Int.toNat_natCast]
    obtain ⟨lv, rb, hd, hN⟩ := h.ex
    have hlr := hN.len (a : Nat) (c : Nat)
    have hr1 := h.r1
    obtain ⟨q, cap, b, rfl, hrb, q1, hbl, hcc⟩ := hN.at_ a hi
    have q2 := hcc c hj
    obtain ⟨_, _, g2, _⟩ := hN.c
    have ho := hN.st a c hi hj
    obtain ⟨A, cp, e9⟩ := own_slice ho
    have hE := Lib.hid e9
    rw [e9] at q2 ho
    have hcp := own_le ho
    obtain ⟨ad, hA, q3, cs9, q9⟩ := strs_at ho k hk
    subst hA
    have hrd := strs_reads ho
    obtain ⟨j9, hj9, hs9⟩ := Option.map_eq_some_iff.1 (show (Try.prog.info? 9).map (·.size) = some 1 by kernel_rfl)
    obtain ⟨s1, s2, _⟩ := print_take_of (P := Try.prog) Value.string ByteArray.empty 42 9 .i64 Try.underlying42 hj9 hs9 (some ad) cp (B (a : Nat) (c : Nat)) (k : Int) (by omega) (by omega) hcp
    obtain ⟨A2, s3, s4, _⟩ := print_drop_of (P := Try.prog) Value.string ByteArray.empty 42 9 .i64 Try.underlying42 hj9 hs9 (some ad) cp (B (a : Nat) (c : Nat)) ((k : Int) + 1) (by omega) (by omega) hcp
    rw [Int.toNat_natCast] at s1 s2
    rw [show ((k : Int) + 1).toNat = k + 1 by omega] at s3 s4
    rw [show ((B (a : Nat) (c : Nat)).take k).length = k by rw [List.length_take]; omega] at s1 s2
    rw [show ((B (a : Nat) (c : Nat)).drop (k + 1)).length = (B (a : Nat) (c : Nat)).length - (k + 1) by rw [List.length_drop]] at s3 s4
    obtain ⟨dl, hdl⟩ : ∃ dl, dl = (B (a : Nat) (c : Nat)).length - (k + 1) := ⟨_, rfl⟩
    obtain ⟨cq, hcq⟩ : ∃ cq, cq = cp - (k + 1) := ⟨_, rfl⟩
    rw [← hdl] at s3 s4
    rw [← hcq] at s3
    have HL8 : Hid (((B (a : Nat) (c : Nat)).take k ++ (B (a : Nat) (c : Nat)).drop (k + 1)).length = k + dl) := Lib.hid (by rw [List.length_append, List.length_take, List.length_drop]; omega)
    have HDL := Lib.hid hdl
    have hkw : IntKind.i64.wrap ((k : Int) + 1) = (k : Int) + 1 := by rw [IntKind.wrap_i64]; omega
    have HRB := Lib.hid hrb
    have HS := Lib.hid h
    have HN := Lib.hid hN
    have HO := Lib.hid (And.intro ho hrd)
    have HQ9 := Lib.hid (And.intro q3 q9)
    have HLR : Hid ((((B (a : Nat) (c : Nat)).eraseIdx k).length : Int) ≤ r ∧ (∀ x ∈ (B (a : Nat) (c : Nat)).eraseIdx k, x.size ≤ 5000)) := Lib.hid ⟨by rw [List.length_eraseIdx, if_pos hk]; omega, fun x hx => hN.str _ _ x (List.mem_of_mem_eraseIdx hx)⟩
    have HER := Lib.hid (erase_len (B (a : Nat) (c : Nat)) k hk)
    have hgo1 : (([] : List ByteArray).length + k) * 16 ≤ 140737488355328 := by simp only [List.length_nil]; omega
    have hgo2 : (((B (a : Nat) (c : Nat)).take k).length + dl) * 16 ≤ 140737488355328 := by rw [List.length_take]; omega
    have HGO := Lib.hid hgo2
    clear hdl hcq
    clear h hN hh hiff hl2 ho hbl hcc e9 hlr hr1 b1 b2 b3 b4 p0 p1 hb hrb hj9 hs9 q3 q9 hgo2 hcp
    go_enter Try.func16, Try.ntmps16
    go_upto_region 5 with (go_at_call 22; refine hle.mono ?_; rintro e w1 ⟨rfl, rfl⟩)
    go_upto_region 6 with (at_builtin; go_loud (refine print_append_row_of Value.string ByteArray.empty w0.heap.size rfl _ _ 42 9 (.string ByteArray.empty) 16 rfl Try.underlying42 Rc.info9 rfl (by decide) (fun _ => rfl) (.slice none 0 0) [] ((B (a : Nat) (c : Nat)).take k) (some ad) k cp rfl rfl (own_nil _ _ _ _) (s2 _ HO.out.2) HS.out.bl HS.out.bl.size hgo1 ?_; intro v7 w7 hown hB7 hgr hat; have HW7 := Lib.hid (And.intro (show w7.ownsRow w0.heap.size 9 1 v7 ((B (a : Nat) (c : Nat)).take k).length (pw_strs ((B (a : Nat) (c : Nat)).take k)) from hown) (And.intro hB7 (And.intro hgr hat))); clear hown hB7 hgr hat))
    have hlk : ((B (a : Nat) (c : Nat)).take k).length = k := by rw [List.length_take]; omega
    have HLK := Lib.hid hlk
    rw [hlk] at HW7
    obtain ⟨A7, c7, rfl⟩ := own_slice HW7.out.1
    have h7 : ∀ p, p < w1.heap.size → w7.heap[p]? = w1.heap[p]? := fun p hp => HW7.out.2.2.1.block p hp (by simp [Value.ownBlock])
    have hz7 := HW7.out.2.2.1.size
    have HZ7 : Hid (w1.heap.size ≤ w7.heap.size ∧ (∀ p, p < w1.heap.size → w7.drew.heap[p]? = w1.heap[p]?)) := Lib.hid ⟨hz7, fun p hp => h7 p hp⟩
    have HV7 : Hid ((Value.slice A7 k c7).ownBlock = none ∨ ∃ p, (Value.slice A7 k c7).ownBlock = some p ∧ w1.heap.size ≤ p) := Lib.hid (by
      rcases HW7.out.2.2.2 with z | z
      · exact .inl (z.trans (by simp [Value.ownBlock]))
      · exact .inr z)
    have HN7 := Lib.hid (HN.out.keep h7)
    have HO7 := Lib.hid (show w7.drew.ownsRow w0.heap.size 9 1 (.slice A7 k c7) k (pw_strs ((B (a : Nat) (c : Nat)).take k)) from own_keep HW7.out.1 (fun _ _ => rfl))
    have HO7b := Lib.hid (show w7.drew.ownsRow w0.heap.size 9 1 (.slice A7 k c7) ((B (a : Nat) (c : Nat)).take k).length (pw_strs ((B (a : Nat) (c : Nat)).take k)) by rw [hlk]; exact HO7.out)
    have HB7 := Lib.hid (And.intro (below_drew HW7.out.2.1) (Nat.le_trans HS.out.bl.size hz7))
    have ho7 : w7.ownsRow w0.heap.size 9 1 (.slice (some ad) (B (a : Nat) (c : Nat)).length cp) (B (a : Nat) (c : Nat)).length (pw_strs (B (a : Nat) (c : Nat))) := by rw [← hE.out]; exact HN7.out.st a c hi hj
    have HR7 := Lib.hid (s4 w7.drew (strs_reads (own_keep ho7 (fun _ _ => rfl))))
    have g2 : w7.cell? ⟨g, 2, none⟩ = some (.slice (some ⟨q, 0, none⟩) n cap) := HN7.out.c.2.2.1
    obtain ⟨q', cap', b', hv', hrb', q1', hbl', hcc'⟩ := HN7.out.at_ a hi
    rw [HRB.out] at hrb'
    obtain rfl := Option.some.inj hrb'
    obtain ⟨rfl, rfl⟩ : q = q' ∧ cap = cap' := by injection hv' with h1 _ h2; injection h1 with h1; injection h1 with h1; exact ⟨h1, h2⟩
    have q2' := hcc' c hj
    rw [hE.out] at q2'
    obtain ⟨cs52, y52⟩ := own_typed HN.out.L q rfl
    have HY := Lib.hid (And.intro y52 (And.intro (blk_lt hbl') (blk_lt y52)))
    have hmk : min k (B (a : Nat) (c : Nat)).length = k := by omega
    have HQ1 := Lib.hid q1
    have HBW := Lib.hid (HN.out.rw a b HRB.out)
    have HQB := Lib.hid (Rn.blk_ne HQ9.out.2 HBW.out.2 (by decide))
    clear hlk q1 q2 hle d0 d1 d1n hgo1 h7 hz7 ho7 hv' hcc' s2 s4
    go_region_law (go_loud (refine step_append_of (w0 := w0) w0.heap.size rfl (.tmp 45) (.tmp 49) 42 9 16 (.string ByteArray.empty) rfl Try.underlying42 Rc.info9 rfl (by decide) (.slice A7 k c7) ((B (a : Nat) (c : Nat)).take k) ((B (a : Nat) (c : Nat)).drop (k + 1)) A2 dl cq (by kernel_rfl) (by kernel_rfl) HO7b.out HR7.out HB7.out.1 HB7.out.2 HGO.out ?_; intro v8 w8 hown hB8 hg8 hat8; have HP8 := Lib.hid (take_put (l := (B (a : Nat) (c : Nat)).eraseIdx k) HN.out hi hj HRB.out HZ7.out.2 HZ7.out.1 HV7.out hg8 hat8 (HER.out ▸ hown) HLR.out.1 HLR.out.2); have HB8 := Lib.hid (show Below w0.heap.size w0 (w8.setCell ⟨b, c, none⟩ v8) from hB8.setCell HBW.out.1 v8); rw [HL8.out] at hown; obtain ⟨A8, k8, rfl⟩ := own_slice hown; have y1 : w8.cell? ⟨g, 2, none⟩ = some (.slice (some ⟨q, 0, none⟩) n cap) := (by rw [blk_cell ((HP8.out.2 g (blk_lt HN.out.g)).trans HN.out.g)]; rfl); have y2 := (World.cell?_of_block (HP8.out.2 q HY.out.2.2)).trans HQ1.out; have y3 : w8.cell? ⟨b, c, none⟩ = some (.slice (some ad) (B (a : Nat) (c : Nat)).length cp) := (by rw [blk_cell ((HP8.out.2 b (blk_lt HBW.out.2)).trans HBW.out.2), ← hE.out]; exact hdr_get n _ c hj); have y4 := blk_frozen ((HP8.out.2 b (blk_lt HBW.out.2)).trans HBW.out.2) c; have y5 := fun v => (World.cell?_of_block ((Below.heap_setCell w8 ⟨b, c, none⟩ v _ HQB.out).trans (HP8.out.2 _ (blk_lt HQ9.out.2)))).trans HQ9.out.1; clear hown hB8 hg8 hat8))
    all_goals
      as_aux_lemma =>
        go_wp2
        go_ret2
        obtain ⟨h3, h4, h5, h6, h7⟩ := HS.out
        exact ⟨rfl, HB8.out, by assumption, by assumption, by assumption, by assumption, _, _, _, HP8.out.1⟩
end
end Go.Proofs.Ytmbaagaeobcmaaa.Rk
