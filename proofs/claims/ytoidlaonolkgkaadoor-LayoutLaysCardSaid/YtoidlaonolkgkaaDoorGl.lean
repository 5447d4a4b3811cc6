/- The pen lays a rune. -/
import Derived.Test.YtoidlaonolkgkaaDoorGr
import Derived.Test.YtoidlaonolkgkaaDoorGiv
set_option linter.unusedVariables false
set_option linter.unusedSimpArgs false
namespace Go.Proofs.YtoidlaonolkgkaaDoor.Gl
open Go.RowKit Go.Proofs.YtoidlaonolkgkaaDoor.Giv Go.Proofs.YtoidlaonolkgkaaDoor.Gr Go.Proofs.YtoidlaonolkgkaaDoorW.PrintWords Go.Proofs.YtoidlaonolkgkaaDoorW.PrintLast
theorem rowC_succ (n : Nat) (r : Nat → Int × Bool) : rowC (n + 1) r = rowC n r ++ [.int .i64 (r n).1, .bool (r n).2] := by
  unfold rowC; rw [List.range_succ, List.flatMap_append]; rfl
theorem rowC_get (width : Nat) (r : Nat → Int × Bool) : ∀ k, k < width → (rowC width r)[2 * k]? = some (.int .i64 (r k).1) ∧ (rowC width r)[2 * k + 1]? = some (.bool (r k).2) := by
  induction width with
  | zero => intro k h; omega
  | succ n ih =>
    intro k h
    rw [rowC_succ]
    have hl := rowC_len n r
    by_cases hk : k < n
    · rw [List.getElem?_append_left (by omega), List.getElem?_append_left (by omega)]
      exact ih k hk
    · obtain rfl : k = n := by omega
      rw [List.getElem?_append_right (by omega), List.getElem?_append_right (by omega), hl, Nat.sub_self, show 2 * k + 1 - 2 * k = 1 by omega]
      exact ⟨rfl, rfl⟩
def updR (r : Nat → Int × Bool) (k : Nat) (x : Int) : Nat → Int × Bool := fun j => if j = k then (x, (r j).2) else r j
def updM (r : Nat → Int × Bool) (k : Nat) : Nat → Int × Bool := fun j => if j = k then ((r j).1, true) else r j
theorem rowC_ext (width : Nat) (r : Nat → Int × Bool) (l : List Value) (hl : l.length = 2 * width) (h : ∀ k, k < width → l[2 * k]? = some (.int .i64 (r k).1) ∧ l[2 * k + 1]? = some (.bool (r k).2)) : l = rowC width r := by
  apply List.ext_getElem?
  intro i
  by_cases hi : i < 2 * width
  · have h2 := h (i / 2) (by omega)
    have h3 := rowC_get width r (i / 2) (by omega)
    rcases Nat.mod_two_eq_zero_or_one i with e | e
    · rw [show i = 2 * (i / 2) by omega, h2.1, h3.1]
    · rw [show i = 2 * (i / 2) + 1 by omega, h2.2, h3.2]
  · rw [List.getElem?_eq_none (by omega), List.getElem?_eq_none (by rw [rowC_len]; omega)]
theorem rowC_setR (width : Nat) (r : Nat → Int × Bool) (k : Nat) (x : Int) (hk : k < width) : (rowC width r).set (2 * k) (.int .i64 x) = rowC width (updR r k x) := by
  refine rowC_ext _ _ _ (by rw [List.length_set, rowC_len]) (fun j hj => ?_)
  obtain ⟨h1, h2⟩ := rowC_get width r j hj
  unfold updR
  by_cases e : j = k
  · subst e
    rw [List.getElem?_set_self (by rw [rowC_len]; omega), List.getElem?_set_ne (by omega), h2, if_pos rfl]
    exact ⟨rfl, rfl⟩
  · rw [List.getElem?_set_ne (by omega), List.getElem?_set_ne (by omega), h1, h2, if_neg e]
    exact ⟨rfl, rfl⟩
theorem rowC_setM (width : Nat) (r : Nat → Int × Bool) (k : Nat) (hk : k < width) : (rowC width r).set (2 * k + 1) (.bool true) = rowC width (updM r k) := by
  refine rowC_ext _ _ _ (by rw [List.length_set, rowC_len]) (fun j hj => ?_)
  obtain ⟨h1, h2⟩ := rowC_get width r j hj
  unfold updM
  by_cases e : j = k
  · subst e
    rw [List.getElem?_set_ne (by omega), List.getElem?_set_self (by rw [rowC_len]; omega), h1, if_pos rfl]
    exact ⟨rfl, rfl⟩
  · rw [List.getElem?_set_ne (by omega), List.getElem?_set_ne (by omega), h1, h2, if_neg e]
    exact ⟨rfl, rfl⟩
def updG (G : Grd) (R : Nat) (r : Nat → Int × Bool) : Grd := fun i => if i = R then r else G i
/-- The address of a row. -/
theorem Grid.at_ {base : Nat} {wr : World} {v : Value} {width n : Nat} {G : Grd} {bs : List Nat} (h : Grid base wr v width n G bs) (R : Nat) (hR : R < n) :
    ∃ q cap b, v = .slice (some ⟨q, 0, none⟩) n cap ∧ bs[R]? = some b ∧ wr.cell? ⟨q, R, none⟩ = some (.slice (some ⟨b, 0, none⟩) width width) ∧ base ≤ b ∧ wr.heap[b]? = some (.cells (rowC width (G R)).toArray 47 (0, 0)) := by
  rcases h.own.2 with ⟨_, h0⟩ | ⟨q, cap, cur, e, _, hq, _, _, _, ht⟩
  · omega
  · have hb : R < bs.length := by rw [h.len]; exact hR
    refine ⟨q, cap, bs[R], e, List.getElem?_eq_getElem hb, ?_, h.blk R _ (List.getElem?_eq_getElem hb)⟩
    rw [blk_cell hq]
    have hm : (bs.map fun b : Nat => Value.slice (some ⟨b, 0, none⟩) width width)[R]? = some (.slice (some ⟨bs[R], 0, none⟩) width width) := by rw [List.getElem?_map, List.getElem?_eq_getElem hb]; rfl
    rw [← ht, List.getElem?_take] at hm
    split at hm
    · simpa using hm
    · cases hm
/-- A row's cells are others. -/
theorem Pen.row {base : Nat} {W wr w1 : World} {p width row col n : Nat} {G : Grd} {bs : List Nat} {v : Value} {b R : Nat} {r : Nat → Int × Bool} (h : Pen base W wr p width row col n G bs v) (hb : bs[R]? = some b) (hbb : base ≤ b) (hR : R < n) (hw : w1.heap[b]? = some (.cells (rowC width r).toArray 47 (0, 0)))
    (hk : ∀ j, j ≠ b → w1.heap[j]? = wr.heap[j]?) (hbel : Below base W w1) : Pen base W w1 p width row col n (updG G R r) bs v := by
  have hbt := (h.grid.blk R b hb).2
  have ne : ∀ (j : Nat) (t : TypeId) (cells : Array Value), t ≠ 47 → wr.heap[j]? = some (.cells cells t (0, 0)) → j ≠ b := fun j t cells ht hj e => by
    rw [e, hbt] at hj; have h2 := Option.some.inj hj; injection h2 with _ h3; exact ht h3.symm
  refine ⟨(hk p (ne p 54 _ (by decide) h.b)).trans h.b, h.hp, ⟨h.grid.len, own_keep h.grid.own (fun j hj => ?_), fun i c hi => ?_, h.grid.nd, fun i k hi => ?_⟩, hbel⟩
  · obtain ⟨cs, hc⟩ := own_typed h.grid.own j hj
    exact hk j (ne j 45 _ (by decide) hc)
  · obtain ⟨x1, x2⟩ := h.grid.blk i c hi
    refine ⟨x1, ?_⟩
    unfold updG
    by_cases e : i = R
    · subst e
      rw [hb] at hi
      obtain rfl := Option.some.inj hi
      rw [if_pos rfl]; exact hw
    · rw [if_neg e]
      have hcb : c ≠ b := fun e2 => by
        subst e2
        have l1 := (List.getElem?_eq_some_iff.1 hi)
        have l2 := (List.getElem?_eq_some_iff.1 hb)
        obtain ⟨a1, a2⟩ := l1
        obtain ⟨b1, b2⟩ := l2
        have hp := List.pairwise_iff_getElem.1 h.grid.nd
        rcases Nat.lt_or_ge i R with q | q
        · exact hp i R a1 b1 q (a2.trans b2.symm)
        · exact hp R i b1 a1 (by omega) (b2.trans a2.symm)
      exact (hk c hcb).trans x2
  · unfold updG
    rw [if_neg (by omega)]
    exact h.grid.zero i k hi
theorem width_le (n : Int) : 0 ≤ widthN n ∧ widthN n ≤ 2 := by unfold widthN; split <;> (try split) <;> omega
theorem Pen.setR {base : Nat} {W wr : World} {p width row col n : Nat} {G : Grd} {bs : List Nat} {v : Value} {b R C : Nat} (x : Int) (h : Pen base W wr p width row col n G bs v) (hb : bs[R]? = some b) (hR : R < n) (hC : C < width) (i : Nat) (hi : i = C * 2) :
    Pen base W (wr.setCell ⟨b, i, none⟩ (.int .i64 x)) p width row col n (updG G R (updR (G R) C x)) bs v ∧ ∀ (j : Nat) (t : TypeId) (cells : Array Value), t ≠ 47 → wr.heap[j]? = some (.cells cells t (0, 0)) → (wr.setCell ⟨b, i, none⟩ (.int .i64 x)).heap[j]? = some (.cells cells t (0, 0)) := by
  subst hi
  obtain ⟨x1, x2⟩ := h.grid.blk R b hb
  have hk : ∀ j, j ≠ b → (wr.setCell ⟨b, C * 2, none⟩ (.int .i64 x)).heap[j]? = wr.heap[j]? := fun j hj => Below.heap_setCell wr ⟨b, C * 2, none⟩ _ j hj
  refine ⟨Pen.row h hb x1 hR (blk_put x2 (C * 2) _ ?_) hk (h.bel.setCell x1 _), fun j t cells ht hc => (hk j (fun e => ?_)).trans hc⟩
  · rw [List.setIfInBounds_toArray, Nat.mul_comm, rowC_setR _ _ _ _ hC]
  · rw [e, x2] at hc; have h2 := Option.some.inj hc; injection h2 with _ h3; exact ht h3.symm
/-- A cell of a row. -/
theorem Pen.cellR {base : Nat} {W wr : World} {p width row col n : Nat} {G : Grd} {bs : List Nat} {v : Value} {b R C : Nat} (h : Pen base W wr p width row col n G bs v) (hb : bs[R]? = some b) (hC : C < width) : wr.cell? ⟨b, C * 2, none⟩ = some (.int .i64 (G R C).1) ∧ wr.cell? ⟨b, C * 2 + 1, none⟩ = some (.bool (G R C).2) ∧ ∀ i, wr.frozen? ⟨b, i, none⟩ = false := by
  obtain ⟨x1, x2⟩ := h.grid.blk R b hb
  obtain ⟨y1, y2⟩ := rowC_get width (G R) C hC
  refine ⟨?_, ?_, fun i => blk_frozen x2 i⟩
  · rw [blk_cell x2, Nat.mul_comm]; simpa using y1
  · rw [blk_cell x2, Nat.mul_comm]; simpa using y2
/-- What is laid. -/
def layG (G : Grd) (R C : Nat) (x w : Int) : Grd := if w = 2 then updG (updG G R (updR (G R) C x)) R (updR (updG G R (updR (G R) C x) R) (C + 1) (-1)) else updG G R (updR (G R) C x)
theorem room_fits (width row col w R C : Nat) (h2 : 2 ≤ width) (hc : col ≤ width) (hw : w ≤ 2) (h : roomP width (row, col) w = (R, C)) : C + w ≤ width ∧ R ≤ row + 1 := by
  unfold roomP at h
  split at h
  · injection h with a b; omega
  · injection h with a b; simp at *; omega
def Keep2 (p : Nat) (w w' : World) : Prop := ∀ j t cells, t ≠ 45 → t ≠ 47 → j ≠ p → w.heap[j]? = some (.cells cells t (0, 0)) → w'.heap[j]? = some (.cells cells t (0, 0))
set_option maxHeartbeats 4000000 in
set_option maxRecDepth 100000 in
theorem lay_calls {base : Nat} {W wr : World} {p width row col n : Nat} {G : Grd} {bs : List Nat} {v : Value} (hL : Laid wr) (h : Pen base W wr p width row col n G bs v) (hw : width ≤ 600) (hw0 : 2 ≤ width) (hr : row ≤ 99990) (hc : col ≤ width) (hn : n ≤ 100001) (x : Int) (R C : Nat) (hRC : roomP width (row, col) (widthN x).toNat = (R, C)) :
    Calls Tryd.prog 23 #[.pointer (some ⟨p, 0, none⟩), .int .i64 x] wr fun e w' => e = .returned (.tuple #[]) ∧
      if widthN x = 0 then ∃ v2, Pen base W w' p width row col n G bs v2 ∧ Keep2 p wr w' else ∃ bs2 v2, Pen base W w' p width R (C + (widthN x).toNat) (max n (R + 1)) (layG G R C x (widthN x)) bs2 v2 ∧ Keep2 p wr w' := by
  obtain ⟨z0, z2⟩ := width_le x
  have hfit := room_fits width row col _ R C hw0 hc (by omega) hRC
  have hWd := width_calls x wr hL
  have HP := Lib.hid h
  clear h hL
  generalize widthN x = wd at *
  by_cases h0 : wd = 0
  · subst h0
    go_enter Tryd.func23, Tryd.ntmps23
    go_wp2_with (go_at_call 38; refine hWd.mono ?_; rintro e w2 ⟨rfl, hB2⟩)
    refine bodyPost_ret (results_none rfl _ _ _) rfl ⟨rfl, ?_⟩
    first
      | exact ⟨⟨v, HP.out.below hB2⟩, fun j t cells _ _ _ hc => (hB2.block j (blk_lt hc)).trans hc⟩
      | (rw [if_pos rfl]; exact ⟨v, HP.out.below hB2, fun j t cells _ _ _ hc => (hB2.block j (blk_lt hc)).trans hc⟩)
  · obtain ⟨k, rfl⟩ : ∃ k : Nat, wd = (k : Int) := ⟨wd.toNat, by omega⟩
    rw [Int.toNat_natCast] at hfit hRC ⊢
    have hRm : (fun wq => @room_calls base W wq p width row col n G bs v) = (fun wq => @room_calls base W wq p width row col n G bs v) := rfl
    have e0 : ((k : Int) == 0) = false := by simp only [beq_eq_false_iff_ne]; omega
    clear hRm
    go_enter Tryd.func23, Tryd.ntmps23
    go_upto_region 3 with (first
      | (go_at_call 38; refine hWd.mono ?_; rintro e w2 ⟨rfl, hB2⟩; have HP2 := Lib.hid (HP.out.below hB2); have hKB := Lib.hid (keep_below (p := p) hB2); clear hB2)
      | (go_at_call 22; go_loud (refine (room_calls HP2.out hw (by omega) (by omega) hn k (by omega) R C hRC).mono ?_; rintro e w3 ⟨rfl, bs3, v3, hP3, hK3⟩; have HP3 := Lib.hid hP3; have HK3 := Lib.hid (hKB.out.trans hK3); clear hP3 hK3)))
    obtain ⟨q, cap, b, rfl, hb, hq, hbb, hrow⟩ := Grid.at_ HP3.out.grid R (by omega)
    obtain ⟨c0, c1, c2, c3, f0⟩ := HP3.out.c
    obtain ⟨d0, _, f1⟩ := Pen.cellR HP3.out hb (C := C) (by omega)
    have c1' : (0 : Int) ≤ (R : Int) := by omega
    have m1 : (R : Int) < ((max n (R + 1) : Nat) : Int) := by omega
    have m2 : (C : Int) < (width : Int) := by omega
    have HS := Lib.hid (Pen.setR x HP3.out hb (by omega) (C := C) (by omega) (C * 2) rfl)
    go_region
    have hbd := below_drew (Below.refl w3.heap.size (w3.setCell ⟨b, C * 2, none⟩ (.int .i64 x)))
    have hK4 : Keep2 p wr (w3.setCell ⟨b, C * 2, none⟩ (.int .i64 x)).drew := fun j t cells h1 h2 h3 hc => HS.out.2 j t cells h2 (HK3.out j t cells h1 h3 hc)
    have hP4 : Pen base W (w3.setCell ⟨b, C * 2, none⟩ (.int .i64 x)).drew p width R C (max n (R + 1)) (updG G R (updR (G R) C x)) bs3 (.slice (some ⟨q, 0, none⟩) (max n (R + 1)) cap) := HS.out.1.below (below_drew (Below.refl _ _))
    have HP4 := Lib.hid hP4
    have HK4 := Lib.hid hK4
    clear hP4 hK4 hbd HS hq c0 c1 c2 c3 f0 d0 f1 hrow HP3 HK3
    generalize (w3.setCell ⟨b, C * 2, none⟩ (.int .i64 x)).drew = w4 at HP4 HK4 ⊢
    obtain ⟨q4, cap4, b4, hv4, hb4, hq, _, _⟩ := Grid.at_ HP4.out.grid R (by omega)
    rw [hb] at hb4
    obtain rfl := Option.some.inj hb4
    injection hv4 with hv4 _ _
    injection hv4 with hv4
    injection hv4 with hv4
    subst hv4
    obtain ⟨c0, c1, c2, c3, f0⟩ := HP4.out.c
    by_cases hk2 : k = 2
    · have e2 : ((k : Int) == 2) = true := by rw [hk2]; rfl
      obtain ⟨d0, _, f1⟩ := Pen.cellR HP4.out hb (C := C + 1) (by omega)
      have m2 : ((C + 1 : Nat) : Int) < (width : Int) := by omega
      have HS := Lib.hid (Pen.setR (-1) HP4.out hb (by omega) (C := C + 1) (by omega) ((C + 1) * 2) rfl)
      have hwc : IntKind.i64.wrap ((C : Int) + 1) = ((C + 1 : Nat) : Int) := by rw [IntKind.wrap_i64]; omega
      go_upto_region 5 with fail
      go_region
      have hP5 : Pen base W (w4.setCell ⟨b, (C + 1) * 2, none⟩ (.int .i64 (-1))).drew p width R C (max n (R + 1)) (updG (updG G R (updR (G R) C x)) R (updR (updG G R (updR (G R) C x) R) (C + 1) (-1))) bs3 (.slice (some ⟨q, 0, none⟩) (max n (R + 1)) cap) := HS.out.1.below (below_drew (Below.refl _ _))
      have hK5 : Keep2 p wr (w4.setCell ⟨b, (C + 1) * 2, none⟩ (.int .i64 (-1))).drew := fun j t cells h1 h2 h3 hc => HS.out.2 j t cells h2 (HK4.out j t cells h1 h2 h3 hc)
      have HP5 := Lib.hid hP5
      have HK5 := Lib.hid hK5
      clear hP5 hK5 HS HP4 HK4 c0 c1 c2 c3 f0 d0 f1 hq
      generalize (w4.setCell ⟨b, (C + 1) * 2, none⟩ (.int .i64 (-1))).drew = w5 at HP5 HK5 ⊢
      obtain ⟨c0, c1, c2, c3, f0⟩ := HP5.out.c
      have HP6 := Lib.hid (HP5.out.set (row2 := R) (col2 := C + k) 2 (.int .i64 ((C : Int) + (k : Int))) (by rw [show ((C : Int) + (k : Int)) = ((C + k : Nat) : Int) by omega]; rfl))
      have hwk : IntKind.i64.wrap ((C : Int) + (k : Int)) = (C : Int) + (k : Int) := by rw [IntKind.wrap_i64]; omega
      have HG : Hid (layG G R C x (k : Int) = updG (updG G R (updR (G R) C x)) R (updR (updG G R (updR (G R) C x) R) (C + 1) (-1))) := Lib.hid (by unfold layG; rw [if_pos (by omega)])
      clear hk2
      go_wp2
      go_end0
      rw [HG.out]
      exact ⟨rfl, ⟨bs3, _, HP6.out⟩, fun j t cells h1 h2 h3 hc => keep_set j t cells h1 h3 (HK5.out j t cells h1 h2 h3 hc)⟩
    · have e2 : ((k : Int) == 2) = false := by simp only [beq_eq_false_iff_ne]; omega
      have HP5 := Lib.hid (HP4.out.set (row2 := R) (col2 := C + k) 2 (.int .i64 ((C : Int) + (k : Int))) (by rw [show ((C : Int) + (k : Int)) = ((C + k : Nat) : Int) by omega]; rfl))
      have hwk : IntKind.i64.wrap ((C : Int) + (k : Int)) = (C : Int) + (k : Int) := by rw [IntKind.wrap_i64]; omega
      have HG : Hid (layG G R C x (k : Int) = updG G R (updR (G R) C x)) := Lib.hid (by unfold layG; rw [if_neg (by omega)])
      go_wp2
      go_end0
      rw [HG.out]
      exact ⟨rfl, ⟨bs3, _, HP5.out⟩, fun j t cells h1 h2 h3 hc => keep_set j t cells h1 h3 (HK4.out j t cells h1 h2 h3 hc)⟩
end Go.Proofs.YtoidlaonolkgkaaDoor.Gl
