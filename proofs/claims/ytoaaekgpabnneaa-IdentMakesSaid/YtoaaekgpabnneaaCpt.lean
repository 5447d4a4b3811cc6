/- slices.Clone and slices.CompactFunc over Ids: the walks. -/
import Derived.Test.YtoaaekgpabnneaaSta
import Derived.Test.YtoaaekgpabnneaaOrd
import Derived.Lib.SliceRun
import Derived.BigFrame
import Derived.IntWalk
set_option linter.unusedVariables false
set_option linter.unusedSimpArgs false
namespace Go.Proofs.Ytoaaekgpabnneaa.Ord
section
variable {α : Type} [DecidableEq α]
theorem squeeze_snoc (a : α) (l : List α) (x : α) : squeeze a (l ++ [x]) = if (a :: l).getLast? = some x then squeeze a l else squeeze a l ++ [x] := by
  induction l generalizing a with
  | nil =>
    show (if x = a then [] else [x]) = _
    by_cases h : x = a
    · rw [if_pos h, if_pos (by simp [h])]; rfl
    · rw [if_neg h, if_neg (by simpa using fun e => h e.symm)]; rfl
  | cons y l ih =>
    have e : (a :: y :: l).getLast? = (y :: l).getLast? := by rw [List.getLast?_cons_cons]
    rw [e, List.cons_append]
    unfold squeeze
    by_cases h : y = a
    · rw [if_pos h, if_pos h, ih]
    · rw [if_neg h, if_neg h, ih]
      by_cases h2 : (y :: l).getLast? = some x
      · rw [if_pos h2, if_pos h2]
      · rw [if_neg h2, if_neg h2]; rfl
theorem compact_snoc (l : List α) (x : α) : compact (l ++ [x]) = if l.getLast? = some x then compact l else compact l ++ [x] := by
  cases l with
  | nil => rfl
  | cons a l =>
    rw [List.cons_append]
    show a :: squeeze a (l ++ [x]) = if (a :: l).getLast? = some x then a :: squeeze a l else (a :: squeeze a l) ++ [x]
    rw [squeeze_snoc]
    by_cases h : (a :: l).getLast? = some x
    · rw [if_pos h, if_pos h]
    · rw [if_neg h, if_neg h]; rfl
theorem squeeze_len (a : α) (l : List α) : (squeeze a l).length ≤ l.length := by
  induction l generalizing a with
  | nil => exact Nat.le_refl _
  | cons y l ih =>
    unfold squeeze
    split
    · have := ih y; simp; omega
    · have := ih y; simp; omega
theorem compact_len (l : List α) : (compact l).length ≤ l.length := by
  cases l with
  | nil => exact Nat.le_refl _
  | cons a l => have := squeeze_len a l; simp [compact]; omega
end
end Go.Proofs.Ytoaaekgpabnneaa.Ord
namespace Go.Proofs.Ytoaaekgpabnneaa.Sta
open Go.RowKit Go.Proofs.YtoaaekgpabnneaaW.PrintWords
theorem But.refl (g : Nat) (w : World) : But g w w := ⟨rfl, rfl, rfl, Nat.le_refl _, fun _ _ _ => rfl⟩
theorem But.below {g : Nat} {w w1 w2 : World} (h : But g w w1) (hb : Below w1.heap.size w1 w2) : But g w w2 :=
  ⟨hb.os.trans h.os, hb.tape.trans h.tape, hb.output.trans h.output, Nat.le_trans h.size hb.size, fun k hk hlt => (hb.block k (by have := h.size; omega)).trans (h.block k hk hlt)⟩
theorem But.set {g : Nat} {w w1 : World} (h : But g w w1) (i : Nat) (u : Value) : But g w (w1.setCell ⟨g, i, none⟩ u) :=
  ⟨h.os, h.tape, h.output, by simpa using h.size, fun k hk hlt => (Below.heap_setCell w1 ⟨g, i, none⟩ u k hk).trans (h.block k hk hlt)⟩
theorem But.cells {g : Nat} {w w1 : World} (h : But g w w1) (o : Nat) (vs : List Value) : But g w (w1.setCells g o vs) := by
  obtain ⟨a, b, c, d⟩ := setCells_same g vs o w1
  exact ⟨a.trans h.os, b.trans h.tape, c.trans h.output, by rw [d]; exact h.size, fun k hk hlt => (setCells_far vs o k hk).trans (h.block k hk hlt)⟩
theorem But.out {g : Nat} {w0 w w1 : World} (hb : Below w0.heap.size w0 w) (hg : w0.heap.size ≤ g) (h : But g w w1) : Below w0.heap.size w0 w1 :=
  ⟨h.os.trans hb.os, h.tape.trans hb.tape, h.output.trans hb.output, Nat.le_trans hb.size h.size, fun k hk => (h.block k (by omega) (by have := hb.size; omega)).trans (hb.block k hk)⟩
end Go.Proofs.Ytoaaekgpabnneaa.Sta
namespace Go.Proofs.Ytoaaekgpabnneaa.Cpt
open Go.Proofs.YtoaaekgpabnneaaW.PrintLast Go.RowKit Go.Proofs.Ytoaaekgpabnneaa.P Go.Proofs.Ytoaaekgpabnneaa.Sta Go.Proofs.Ytoaaekgpabnneaa.Ord Go.Proofs.YtoaaekgpabnneaaW.PrintWords
instance : DecidableEq S23 := fun a b => if h : a.f0 = b.f0 ∧ a.f1 = b.f1 then isTrue (by cases a; cases b; simp at h; simp [h]) else isFalse (by intro e; subst e; exact h ⟨rfl, rfl⟩)
def flat (l : List S23) : List Value := l.flatMap fun x => [.int .i64 x.f0, .int .i64 x.f1]
theorem flat_cons (x : S23) (l : List S23) : flat (x :: l) = .int .i64 x.f0 :: .int .i64 x.f1 :: flat l := rfl
theorem flat_length (l : List S23) : (flat l).length = l.length * 2 := by
  induction l with
  | nil => rfl
  | cons x l ih => rw [flat_cons]; simp [ih]; omega
theorem flat_append (l m : List S23) : flat (l ++ m) = flat l ++ flat m := by simp [flat]
theorem flat_at (l : List S23) (r : List Value) : ∀ (i : Nat) (h : i < l.length), (flat l ++ r)[i * 2]? = some (.int .i64 l[i].f0) ∧ (flat l ++ r)[i * 2 + 1]? = some (.int .i64 l[i].f1) := by
  induction l with
  | nil => intro i h; simp at h
  | cons x l ih =>
    intro i h
    cases i with
    | zero => exact ⟨rfl, rfl⟩
    | succ i =>
      have := ih i (by simpa using h)
      rw [flat_cons, show (i + 1) * 2 = i * 2 + 1 + 1 by omega]
      exact this
theorem flat_set (l : List S23) (r : List Value) (x : S23) : ∀ (i : Nat) (h : i < l.length), ((flat l ++ r).set (i * 2) (.int .i64 x.f0)).set (i * 2 + 1) (.int .i64 x.f1) = flat (l.set i x) ++ r := by
  induction l with
  | nil => intro i h; simp at h
  | cons y l ih =>
    intro i h
    cases i with
    | zero => rfl
    | succ i =>
      have := ih i (by simpa using h)
      rw [flat_cons, show (i + 1) * 2 = i * 2 + 1 + 1 by omega, List.set_cons_succ, flat_cons]
      simp only [List.cons_append, List.set_cons_succ]
      rw [this]
/-- The block g holds l, and more behind. -/
def Holds (w : World) (g : Nat) (l : List S23) (r : List Value) : Prop := w.heap[g]? = some (.cells (flat l ++ r).toArray 23 (0, 0))
theorem Holds.lt {w : World} {g : Nat} {l : List S23} {r : List Value} (h : Holds w g l r) : g < w.heap.size := blk_lt h
theorem Holds.c0 {w : World} {g : Nat} {l : List S23} {r : List Value} (h : Holds w g l r) (i : Nat) (hi : i < l.length) : w.cell? ⟨g, i * 2, none⟩ = some (.int .i64 l[i].f0) := by
  rw [blk_cell h]; simpa using (flat_at l r i hi).1
theorem Holds.c1 {w : World} {g : Nat} {l : List S23} {r : List Value} (h : Holds w g l r) (i : Nat) (hi : i < l.length) : w.cell? ⟨g, i * 2 + 1, none⟩ = some (.int .i64 l[i].f1) := by
  rw [blk_cell h]; simpa using (flat_at l r i hi).2
theorem Holds.fr {w : World} {g : Nat} {l : List S23} {r : List Value} (h : Holds w g l r) (i : Nat) : w.frozen? ⟨g, i, none⟩ = false := blk_frozen h i
theorem Holds.below {w w1 : World} {g : Nat} {l : List S23} {r : List Value} (h : Holds w g l r) (hb : Below w.heap.size w w1) : Holds w1 g l r := (hb.block g h.lt).trans h
theorem Holds.put {w : World} {g : Nat} {l : List S23} {r : List Value} (h : Holds w g l r) (i : Nat) (hi : i < l.length) (x : S23) : Holds ((w.setCell ⟨g, i * 2, none⟩ (.int .i64 x.f0)).setCell ⟨g, i * 2 + 1, none⟩ (.int .i64 x.f1)) g (l.set i x) r := by
  have h1 := blk_set h (i * 2) (.int .i64 x.f0)
  have h2 := blk_set h1 (i * 2 + 1) (.int .i64 x.f1)
  unfold Holds
  rw [h2, ← flat_set l r x i hi]
  simp
def eqB (x y : S23) : Bool := decide (x = y)
theorem eqB_eq (x y : S23) : eqB x y = (x.f0 == y.f0 && x.f1 == y.f1) := by
  unfold eqB
  rw [Bool.eq_iff_iff]
  simp
  constructor
  · rintro rfl; exact ⟨rfl, rfl⟩
  · rintro ⟨h1, h2⟩; cases x; cases y; simp at h1 h2; simp [h1, h2]
theorem eq_calls (x y : S23) (W : World) : Calls Try.prog 31 #[.agg #[.int .i64 x.f0, .int .i64 x.f1], .agg #[.int .i64 y.f0, .int .i64 y.f1]] W fun e w' => e = .returned (.bool (eqB x y)) ∧ Below W.heap.size W w' := by
  rw [eqB_eq]
  go_enter Try.func31, Try.ntmps31
  go_wp2
  all_goals
    go_ret
    exact ⟨by simp [*], below_alloc (below_alloc (Below.refl _ _) _) _⟩
theorem info23' : (Try.prog.info? 23).map (fun i => (i.zero, i.size, i.bytes)) = some (some (.agg #[.int .i64 0, .int .i64 0]), 2, 16) := by kernel_rfl
theorem flat_one (l : List S23) : ∀ u ∈ flat l, u.oneCell' = true := by
  intro u hu
  unfold flat at hu
  obtain ⟨x, _, hx⟩ := List.mem_flatMap.1 hu
  simp at hx
  rcases hx with rfl | rfl <;> rfl
theorem flat_reads {w : World} {ad : Addr} {l : List S23} (h : Kd.C k23 w (some ad) l.length l) : ∀ j u, (flat l)[j]? = some u → w.cell? (ad.add j) = some u := by
  intro j u hj
  have hlt : j < (flat l).length := (List.getElem?_eq_some_iff.1 hj).1
  rw [flat_length] at hlt
  have hi : j / 2 < l.length := by omega
  obtain ⟨ad', e, c0, c1⟩ := at_T23 h ((j / 2 : Nat) : Int) (by omega) (by omega)
  obtain rfl := Option.some.inj e
  have hrd : rd_T23 l ((j / 2 : Nat) : Int) = l[j / 2] := by unfold rd_T23; rw [Int.toNat_natCast, List.getD_eq_getElem?_getD, List.getElem?_eq_getElem hi]; rfl
  rw [hrd, Int.toNat_natCast] at c0 c1
  rw [← add_field _ _ 1 (by omega)] at c1
  have hf := flat_at l [] (j / 2) hi
  rw [List.append_nil] at hf
  rcases Nat.mod_two_eq_zero_or_one j with hm | hm
  · have hj2 : j / 2 * 2 = j := by omega
    rw [hj2] at c0 hf
    rw [hf.1] at hj
    obtain rfl := Option.some.inj hj
    exact c0
  · have hj2 : j / 2 * 2 + 1 = j := by omega
    rw [hj2] at c1 hf
    rw [hf.2] at hj
    obtain rfl := Option.some.inj hj
    exact c1
theorem Clone_nil (n c : Nat) (w : World) : Calls Try.prog 28 #[.slice none n c] w fun e w' => e = .returned (.slice none 0 0) ∧ w' = w := by
  have q29 : ∀ (w : World) (a : Option Addr) (n c n' c' : Nat), (binOp .eql 29 (.slice a n c) (.slice none n' c')).run Try.prog w = .ok (.bool a.isNone) w := fun w a n c n' c' => Lib.run_eql_slice_nil w _ _ a n c n' c' Try.underlying29
  go_enter Try.func28, Try.ntmps28
  go_wp2
  go_ret
  exact ⟨rfl, rfl⟩
set_option maxHeartbeats 1000000 in
theorem Clone_calls (ad : Addr) (c : Nat) (l : List S23) (w : World) (h : Kd.C k23 w (some ad) l.length l) (hb : l.length * 16 ≤ 140737488351232) :
    Calls Try.prog 28 #[.slice (some ad) l.length c] w fun e w' => ∃ g cap r, e = .returned (.slice (some ⟨g, 0, none⟩) l.length cap) ∧ Holds w' g l r ∧ w.heap.size ≤ g ∧ (flat l ++ r).length = cap * 2 ∧ cap ≤ maxLen ∧ Below w.heap.size w w' := by
  have q29 : ∀ (w : World) (a : Option Addr) (n c n' c' : Nat), (binOp .eql 29 (.slice a n c) (.slice none n' c')).run Try.prog w = .ok (.bool a.isNone) w := fun w a n c n' c' => Lib.run_eql_slice_nil w _ _ a n c n' c' Try.underlying29
  obtain ⟨i0, hi, hz0, hz1, hz2⟩ := info_parts info23'
  have HR := Lib.hid (flat_reads h)
  have hl := flat_length l
  have HL := Lib.hid hl
  clear h hl
  go_enter Try.func28, Try.ntmps28
  go_wp2_with (at_builtin; refine wpList_append_own _ rfl _ _ 29 rfl w.heap.size 23 i0 (.agg #[.int .i64 0, .int .i64 0]) 2 16 Try.underlying29 hi hz0 hz1 hz2 rfl (by decide) _ _ _ rfl (World.ownsRow_made w #[] 0 (Nat.le_refl _) (Nat.zero_le _) (by simp)) ad l.length c (flat l) rfl ?qc1 ?qc2 ?qc3 ?qc4 ?qc5 ?qc6 ?_)
  case qc1 => exact HL.out
  case qc2 => intro j u hj; exact Lib.cell?_alloc_some _ (HR.out j u hj)
  case qc3 => exact flat_one l
  case qc4 => unfold maxLen; omega
  case qc5 => omega
  case qc6 => simp
  intro v' w1 hown hgrow hnil
  go_wp2
  go_ret
  have hB : Below w.heap.size w w1 := ((Below.refl _ w).alloc (Nat.le_refl _) _).grown hgrow (by simp) (by intro k hk; simp [Value.ownBlock] at hk; omega)
  obtain ⟨hlen, hor⟩ := hown
  rcases hor with ⟨e, hn⟩ | ⟨g, cap, cur, rfl, hc, hg, h1, h2, h3, h4⟩
  · exact absurd e hnil
  · refine ⟨g, cap, cur.toList.drop (l.length * 2), by simp, ?_, hc, ?_, h2, hB⟩
    · unfold Holds
      rw [hg]
      have h5 : cur.toList.take (l.length * 2) = flat l := by simpa using h4
      rw [← h5, List.take_append_drop]
    · have h6 : cur.toList.length = cap * 2 := by rw [Array.length_toList]; exact h3
      have h5 : cur.toList.take (l.length * 2) = flat l := by simpa using h4
      rw [← h5, List.take_append_drop, h6]
theorem zero23 (w : World) : (zeroValue 23).run Try.prog w = .ok (.agg #[.int .i64 0, .int .i64 0]) w := by kernel_rfl
theorem clear2 (w : World) (ty : TypeId) (g o n c : Nat) (hn : 0 < n) (hc : ∀ j, j < n * 2 → (w.cell? ⟨g, o + j, none⟩).isSome = true) (hf : ∀ j, j < n * 2 → w.frozen? ⟨g, o + j, none⟩ = false) :
    (Builtin.clear_ #[29] ty #[.slice (some ⟨g, o, none⟩) n c]).run Try.prog w = .ok (.tuple #[]) (w.setCells g o (Builtin.zeroCells #[.int .i64 0, .int .i64 0] n).toList) := by
  have hzl : (Builtin.zeroCells #[.int .i64 0, .int .i64 0] n).toList.length = n * 2 := by simp [Builtin.zeroCells]
  have hst := run_storeCells_cells (P := Try.prog) g o (Builtin.zeroCells #[.int .i64 0, .int .i64 0] n).toList 0 w (by rw [hzl]; simpa using hc) (by rw [hzl]; simpa using hf) (by
    intro v hv
    simp [Builtin.zeroCells] at hv
    obtain ⟨a, _, rfl⟩ := hv
    rcases Nat.mod_two_eq_zero_or_one a with h | h <;> rw [h] <;> rfl)
  simp only [Nat.add_zero] at hst
  obtain ⟨m, rfl⟩ : ∃ m, n = m + 1 := ⟨n - 1, by omega⟩
  simp [Builtin.clear_, run_underlying Try.underlying29, zero23, hst, Value.cells]
theorem Compact_small (A : Option Addr) (n c : Nat) (hn : n < 2) (w : World) : Calls Try.prog 30 #[.slice A n c, .func (.func 31) #[] #[]] w fun e w' => e = .returned (.slice A n c) ∧ w' = w := by
  go_enter Try.func30, Try.ntmps30
  go_wp2
  go_ret
  exact ⟨rfl, rfl⟩
theorem getE {l : List S23} {i : Nat} {x : S23} (h : l[i]? = some x) (hi : i < l.length) : l[i] = x := by rw [List.getElem?_eq_getElem hi] at h; exact Option.some.inj h
theorem last_take (l : List S23) (k : Nat) (h : 0 < k) (hk : k ≤ l.length) : (l.take k).getLast? = l[k - 1]? := by
  rw [List.getLast?_eq_getElem?, List.length_take, Nat.min_eq_left hk, List.getElem?_take, if_pos (by omega)]
theorem grow_take (l : List S23) (k : Nat) (hk : k < l.length) (j : Nat) (hj : j < l.length) (e : k = j + 1) (hx : eqB l[k] l[j] = false) (hc : compact (l.take k) = l.take k) : compact (l.take (k + 1)) = l.take (k + 1) := by
  rw [List.take_succ_eq_append_getElem hk, compact_snoc, if_neg ?_, hc]
  rw [last_take l k (by omega) (by omega), show k - 1 = j by omega, List.getElem?_eq_getElem hj]
  intro h
  have := Option.some.inj h
  simp [eqB] at hx
  exact hx this.symm
theorem same_take (l : List S23) (k : Nat) (hk : k < l.length) (m : List S23) (p : Nat) (h0 : k < m.length) (h1 : p < m.length) (e : k = p + 1) (hs : ∀ t, k ≤ t + 1 → m[t]? = l[t]?) (hx : eqB m[k] m[p] = true) : compact (l.take (k + 1)) = compact (l.take k) := by
  have a0 := hs k (by omega)
  have a1 := hs p (by omega)
  rw [List.getElem?_eq_getElem h0, List.getElem?_eq_getElem hk] at a0
  rw [List.getElem?_eq_getElem h1] at a1
  rw [List.take_succ_eq_append_getElem hk, compact_snoc, if_pos ?_]
  rw [last_take l k (by omega) (by omega), show k - 1 = p by omega, ← a1, ← Option.some.inj a0]
  simp [eqB] at hx
  rw [hx]
theorem diff_take (l : List S23) (k : Nat) (hk : k < l.length) (m : List S23) (p : Nat) (h0 : k < m.length) (h1 : p < m.length) (e : k = p + 1) (hs : ∀ t, k ≤ t + 1 → m[t]? = l[t]?) (hx : eqB m[k] m[p] = false) (q : Nat) (hq : q < m.length) (hm : m.take q = compact (l.take k)) : (m.set q m[k]).take (q + 1) = compact (l.take (k + 1)) := by
  have a0 := hs k (by omega)
  have a1 := hs p (by omega)
  rw [List.getElem?_eq_getElem h0, List.getElem?_eq_getElem hk] at a0
  rw [List.getElem?_eq_getElem h1] at a1
  rw [List.take_succ_eq_append_getElem hk, compact_snoc, if_neg ?_, ← hm, ← Option.some.inj a0, List.take_succ_eq_append_getElem (by simpa using hq)]
  · simp only [List.getElem_set_self]
    rw [List.take_set, List.set_eq_of_length_le (by simp; omega)]
  · rw [last_take l k (by omega) (by omega), show k - 1 = p by omega, ← a1, ← Option.some.inj a0]
    intro h
    simp [eqB] at hx
    exact hx (Option.some.inj h).symm
set_option maxHeartbeats 2000000 in
set_option maxRecDepth 100000 in
theorem Compact_calls (g cap : Nat) (l : List S23) (r : List Value) (w : World) (h : Holds w g l r) (hn : 2 ≤ l.length) (hc : l.length ≤ cap) (hb : cap ≤ maxLen) :
    Calls Try.prog 30 #[.slice (some ⟨g, 0, none⟩) l.length cap, .func (.func 31) #[] #[]] w fun e w' => ∃ r', e = .returned (.slice (some ⟨g, 0, none⟩) (compact l).length cap) ∧ Holds w' g (compact l) r' ∧ (flat (compact l) ++ r').length = (flat l ++ r).length ∧ But g w w' := by
  have hml : maxLen ≤ 9223372036854775807 := by decide
  have H0 := Lib.hid h
  have hlt := h.lt
  have ent : ∀ args w, (callFunc 31 args).run Try.prog w = .ok (.enter 31 args) w := fun args w => enters_ Try.func31 (by kernel_rfl) rfl args w
  clear h
  go_enter Try.func30, Try.ntmps30
  go_wp2
  go_loopw [5] (fun v wr => ∃ k : Nat, v = .int .i64 k ∧ 1 ≤ k ∧ k ≤ l.length ∧ Hid (Holds wr g l r) ∧ Hid (But g w wr) ∧ Hid (compact (l.take k) = l.take k)) (fun v _ => l.length - (intOf v).toNat)
  case atStart => exact ⟨1, rfl, Nat.le_refl _, by omega, H0, Lib.hid (But.refl g w), Lib.hid (by
    obtain ⟨x, l', rfl⟩ : ∃ x l', l = x :: l' := by
      cases l with
      | nil => simp at hn
      | cons x l' => exact ⟨x, l', rfl⟩
    rfl)⟩
  case round =>
    obtain ⟨k, rfl, h1, h2, HH, HB, HC⟩ := hrel
    by_cases hk : k < l.length
    · have c0 := HH.out.c0 k hk
      have c1 := HH.out.c1 k hk
      obtain ⟨j, hj⟩ : ∃ j, k = j + 1 := ⟨k - 1, by omega⟩
      have hjl : j < l.length := by omega
      have b0 := HH.out.c0 j hjl
      have b1 := HH.out.c1 j hjl
      have e1 : (k : Int) - 1 = (j : Int) := by omega
      have e2 : IntKind.i64.wrap (j : Int) = (j : Int) := IntWalk.i64_in _ (by omega)
      have HJ := Lib.hid hj
      clear hj
      go_upto_region 6 with fail
      refine wp_region_still_tail 10 (by kernel_rfl) (by kernel_rfl) ?_
      show wpStill _ _ wr.drew _ _ _
      simp only [List.take_succ_cons, List.take_zero, List.drop_succ_cons, List.drop_zero]
      repeat still_step
      refine wpStill_nil ?_
      show wpList _ _ _ _ _ wr.drew
      clear c0 c1 b0 b1 e1 e2
      have HW : Hid (Holds wr.drew g l r) := HH
      have HB2 : Hid (But g w wr.drew) := Lib.hid (HB.out.below (below_drew (Below.refl _ _)))
      generalize wr.drew = w2 at HW HB2 ⊢
      cases hx : eqB l[k] l[j] with
      | false =>
        have EQ := fun W => hx ▸ eq_calls l[k] l[j] W
        go_wp2_with (go_at_call 31; refine (EQ _).mono ?_; rintro e w3 ⟨rfl, hB3⟩)
        go_roundw
        case rel => exact ⟨k + 1, by go_num, by omega, by omega, Lib.hid (HW.out.below hB3), Lib.hid (HB2.out.below hB3), Lib.hid (grow_take l k hk j hjl HJ.out hx HC.out)⟩
        case measure => simp [intOf]; omega
      | true =>
        have EQ := fun W => hx ▸ eq_calls l[k] l[j] W
        go_wp2_with (go_at_call 31; refine (EQ _).mono ?_; rintro e w3 ⟨rfl, hB3⟩)
        have hW3 : Hid (Holds w3 g l r) := Lib.hid (HW.out.below hB3)
        have hB4 : Hid (But g w w3) := Lib.hid (HB2.out.below hB3)
        clear hB3 HW HB2 HH HB EQ
        have hq0 : Hid (compact (l.take (k + 1)) = l.take k) := by
          have e := List.take_succ_eq_append_getElem hk
          have hj := HJ.out
          have ex : l[k] = l[j] := by simpa [eqB] using hx
          refine Lib.hid ?_
          rw [e, compact_snoc, if_pos ?_, HC.out]
          rw [List.getLast?_eq_getElem?, List.length_take, Nat.min_eq_left (by omega), List.getElem?_take, if_pos (by omega), show k - 1 = j by omega, List.getElem?_eq_getElem hjl, ex]
        clear hx
        go_loopw [5, 7] (fun v5 v7 wr => ∃ (i q : Nat) (m : List S23), v5 = .int .i64 q ∧ v7 = .int .i64 i ∧ 1 ≤ i ∧ k + i ≤ l.length ∧ k ≤ q ∧ q + 1 ≤ k + i ∧ Hid (m.length = l.length) ∧ Hid (m.take q = compact (l.take (k + i))) ∧ Hid (∀ t, k + i ≤ t + 1 → m[t]? = l[t]?) ∧ Hid (Holds wr g m r) ∧ Hid (But g w wr)) (fun _ v7 _ => l.length - (intOf v7).toNat)
        case atStart => exact ⟨1, k, l, rfl, rfl, Nat.le_refl _, by omega, Nat.le_refl _, Nat.le_refl _, Lib.hid rfl, Lib.hid hq0.out.symm, Lib.hid (fun _ _ => rfl), hW3, hB4⟩
        case round =>
          obtain ⟨i, q, m, rfl, rfl, hi1, hi2, hq1, hq2, HML, HMT, HMS, HH, HB⟩ := hrel
          by_cases hki : k + i < l.length
          · obtain ⟨p, hp⟩ : ∃ p, i = p + 1 := ⟨i - 1, by omega⟩
            have hml2 := HML.out
            have m0 : k + i < m.length := by omega
            have m1 : k + p < m.length := by omega
            have c0 := HH.out.c0 (k + i) m0
            have c1 := HH.out.c1 (k + i) m0
            have b0 := HH.out.c0 (k + p) m1
            have b1 := HH.out.c1 (k + p) m1
            have f1 : i < l.length - k := by omega
            have f2 : p < l.length - k := by omega
            have e1 : (i : Int) - 1 = (p : Int) := by omega
            have e2 : IntKind.i64.wrap (p : Int) = (p : Int) := IntWalk.i64_in _ (by omega)
            have HP := Lib.hid hp
            rw [Nat.add_mul] at c0 c1 b0 b1
            clear hp hml2
            go_upto_region 11 with fail
            refine wp_region_still_tail 10 (by kernel_rfl) (by kernel_rfl) ?_
            show wpStill _ _ wr.drew _ _ _
            simp only [List.take_succ_cons, List.take_zero, List.drop_succ_cons, List.drop_zero]
            repeat still_step
            refine wpStill_nil ?_
            show wpList _ _ _ _ _ wr.drew
            clear c0 c1 b0 b1 e1 e2
            have HW : Hid (Holds wr.drew g m r) := HH
            have HB2 : Hid (But g w wr.drew) := Lib.hid (HB.out.below (below_drew (Below.refl _ _)))
            generalize wr.drew = w4 at HW HB2 ⊢
            cases hx : eqB m[k + i] m[k + p] with
            | true =>
              have EQ := fun W => hx ▸ eq_calls m[k + i] m[k + p] W
              go_wp2_with (go_at_call 31; refine (EQ _).mono ?_; rintro e w5 ⟨rfl, hB5⟩)
              go_roundw
              case rel => exact ⟨i + 1, q, m, rfl, by go_num, by omega, by omega, hq1, by omega, HML, Lib.hid (by rw [HMT.out]; exact (same_take l (k + i) hki m (k + p) m0 m1 (by have := HP.out; omega) (HMS.out) hx).symm), Lib.hid (fun t ht => HMS.out t (by omega)), Lib.hid (HW.out.below hB5), Lib.hid (HB2.out.below hB5)⟩
              case measure => simp [intOf]; omega
            | false =>
              have EQ := fun W => hx ▸ eq_calls m[k + i] m[k + p] W
              go_upto_region 12 with (go_at_call 31; refine (EQ _).mono ?_; rintro e w5 ⟨rfl, hB5⟩)
              have HW5 : Hid (Holds w5 g m r) := Lib.hid (HW.out.below hB5)
              have HB6 : Hid (But g w w5) := Lib.hid (HB2.out.below hB5)
              have hml2 := HML.out
              have q0 : q < m.length := by omega
              have hms := HMS.out (k + i) (by omega)
              have c0 := HW5.out.c0 (k + i) m0
              have c1 := HW5.out.c1 (k + i) m0
              have d0 := HW5.out.c0 q q0
              have d1 := HW5.out.c1 q q0
              have f0 := HW5.out.fr (q * 2)
              have f1' := HW5.out.fr (q * 2 + 1)
              have q3 : q < l.length := by omega
              rw [Nat.add_mul] at c0 c1
              clear hml2 hms hB5 HW HB2 HH HB EQ
              go_wp2
              go_roundw
              case rel =>
                have hml2 := HML.out
                refine ⟨i + 1, q + 1, m.set q m[k + i], by go_num, by go_num, by omega, by omega, by omega, by omega, Lib.hid (by simp [hml2]), Lib.hid ?_, Lib.hid (fun t ht => ?_), Lib.hid (HW5.out.put q q0 m[k + i]), Lib.hid ((HB6.out.set _ _).set _ _)⟩
                · exact diff_take l (k + i) hki m (k + p) m0 m1 (by have := HP.out; omega) (HMS.out) hx q (by omega) HMT.out
                · rw [List.getElem?_set_ne (by omega)]; exact HMS.out t (by omega)
              case measure => simp [intOf]; omega
          · have hki2 : l.length - k = i := by omega
            have hml2 := HML.out
            have q3 : q < l.length := by omega
            have hcl := fun ty => clear2 wr ty g (q * 2) (l.length - q) (cap - q) (by omega) (fun j hj => by
              rw [blk_cell HH.out]
              have hlen := flat_length m
              have hlt2 : q * 2 + j < (flat m ++ r).length := by rw [List.length_append, hlen]; omega
              simp [List.getElem?_eq_getElem hlt2]) (fun j hj => HH.out.fr _)
            have hzl : (Builtin.zeroCells #[.int .i64 0, .int .i64 0] (l.length - q)).toList.length = (l.length - q) * 2 := by simp [Builtin.zeroCells]
            generalize (Builtin.zeroCells #[.int .i64 0, .int .i64 0] (l.length - q)).toList = Z at hcl hzl
            have HZ := Lib.hid hzl
            have HK := Lib.hid hki2
            clear hzl hml2 hki2
            go_wp2_with (simp only [hcl])
            go_ret
            have hml2 := HML.out
            have hki2 := HK.out
            have hzl := HZ.out
            have hfl := flat_length m
            have hfin : m.take q = compact l := by rw [HMT.out, show k + i = l.length by omega, List.take_length]
            have hcl2 : (compact l).length = q := by rw [← hfin, List.length_take]; omega
            obtain ⟨cur', g1, g2, g3⟩ := setCells_row Z (q * 2) wr _ HH.out (by simp [hfl, hzl]; omega)
            have hsp : flat m = flat (m.take q) ++ flat (m.drop q) := by rw [← flat_append, List.take_append_drop]
            refine ⟨cur'.toList.drop (q * 2), by rw [hcl2]; rfl, ?_, ?_, HB.out.cells _ _⟩
            · unfold Holds
              rw [g1]
              congr 2
              have : cur'.toList.take (q * 2) = flat (compact l) := by
                rw [g3, List.append_assoc, List.take_append_of_le_length (by simp [hfl]; omega), List.take_of_length_le (by simp; omega)]
                show (flat m ++ r).take (q * 2) = _
                rw [hsp, List.append_assoc, ← hfin, List.take_left' (by rw [flat_length, List.length_take]; omega)]
              rw [← this, List.take_append_drop]
            · have hlc : cur'.toList.length = (flat m ++ r).length := by rw [Array.length_toList, g2]; simp
              have hfc := flat_length (compact l)
              have hfl2 := flat_length l
              simp only [List.length_append, List.length_drop] at hlc ⊢
              omega
    · obtain rfl : k = l.length := by omega
      have hcl := HC.out
      rw [List.take_length] at hcl
      have HL := Lib.hid hcl
      clear hcl
      go_wp2
      go_ret
      exact ⟨r, by rw [HL.out]; rfl, by rw [HL.out]; exact HH.out, by rw [HL.out], HB.out⟩
end Go.Proofs.Ytoaaekgpabnneaa.Cpt
