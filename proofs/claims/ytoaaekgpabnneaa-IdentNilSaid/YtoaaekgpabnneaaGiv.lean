/- live of the identities' laws: the walk. -/
import Derived.Test.YtoaaekgpabnneaaRnk
import Derived.Test.YtoaaekgpabnneaaPx2
set_option linter.unusedVariables false
set_option linter.unusedSimpArgs false
namespace Go.Proofs.Ytoaaekgpabnneaa.Giv
open Go.RowKit Go.Proofs.Ytoaaekgpabnneaa.P Go.Proofs.Ytoaaekgpabnneaa.Sta Go.Proofs.Ytoaaekgpabnneaa.Cmp Go.Proofs.Ytoaaekgpabnneaa.Cpt Go.Proofs.Ytoaaekgpabnneaa.Odr Go.Proofs.Ytoaaekgpabnneaa.Rnk Go.Proofs.YtoaaekgpabnneaaW.PrintWords Go.Proofs.YtoaaekgpabnneaaW.PrintLast
theorem holds_C {w : World} {g : Nat} {l : List S23} {r : List Value} (h : Cpt.Holds w g l r) (hl : l.length ≤ 9223372036854775807) : Kd.C k23 w (some ⟨g, 0, none⟩) l.length l := by
  refine ⟨rfl, hl, fun _ => ⟨_, rfl, fun j p hp => ?_⟩⟩
  have hj : j < l.length := (List.getElem?_eq_some_iff.1 hp).1
  obtain rfl : l[j] = p := by rw [List.getElem?_eq_getElem hj] at hp; exact Option.some.inj hp
  refine ⟨_, rfl, k23_mk w l[j], fun i u hu => ?_⟩
  have c0 := h.c0 j hj
  have c1 := h.c1 j hj
  show w.cell? ((⟨g, 0, none⟩ : Addr).add (j * 2 + i)) = some u
  rw [add_plain]
  rcases i with _ | _ | i
  · simp at hu; subst hu; exact c0
  · simp at hu; subst hu; exact c1
  · simp at hu
theorem Mk.below {w w1 : World} {g : Nat} {t s : Int} (h : Mk w g t s) (hb : Below w.heap.size w w1) : Mk w1 g t s := (hb.block g (blk_lt h)).trans h
def liveL : List S23 := [⟨2, 1⟩, ⟨1, 5⟩, ⟨2, 0⟩, ⟨2, 1⟩]
def liveO : List S23 := [⟨1, 5⟩, ⟨2, 0⟩, ⟨2, 1⟩]
theorem live_order : Ord.orderL ltI liveL = liveO := Ord.order_of strict _ _ (by simp [Ord.Rising, liveO, ltI]) (by intro x; simp only [liveL, liveO, List.mem_cons, List.not_mem_nil, or_false]; constructor <;> (intro h; first | (rcases h with h | h | h | h <;> simp [h]; done) | (rcases h with h | h | h <;> simp [h])))
theorem id_calls (a b : Int) (w : World) : Calls Try.prog 27 #[.int .i64 a, .int .i64 b] w fun e w' => e = .returned (.agg #[.int .i64 a, .int .i64 b]) ∧ Below w.heap.size w w' := duetlaw10_id.calls a b a b w rfl
theorem less_calls (x y : S23) (w : World) : Calls Try.prog 9 #[.agg #[.int .i64 x.f0, .int .i64 x.f1], .agg #[.int .i64 y.f0, .int .i64 y.f1]] w fun e w' => e = .returned (.bool (ltI x y)) ∧ Below w.heap.size w w' := by
  have hneg := ord_neg x y
  have HN := Lib.hid hneg
  clear hneg
  go_enter Try.func9, Try.ntmps9
  go_wp2_with (go_at_call 26; refine (order_below x y _).mono ?_; rintro e w1 ⟨rfl, hB⟩)
  go_ret
  exact ⟨by rw [← HN.out]; rfl, below_then (below_alloc (below_alloc (Below.refl _ _) _) _) (by simp; omega) (by simpa using hB)⟩
theorem new_holds (W : World) (l : List S23) (t : TypeId) (h : t = 23) : Cpt.Holds (W.alloc (.cells (flat l).toArray t)) W.heap.size l [] := by
  subst h
  unfold Cpt.Holds
  rw [List.append_nil]
  exact heap_alloc_new _ _
theorem order_live (W : World) : Calls Try.prog 14 #[.slice (some ⟨W.heap.size, 0, none⟩) 4 4] (W.alloc (.cells #[.int .i64 2, .int .i64 1, .int .i64 1, .int .i64 5, .int .i64 2, .int .i64 0, .int .i64 2, .int .i64 1] 23)) fun e w' => ∃ g r, e = .returned (.slice (some ⟨g, 0, none⟩) 3 r) ∧ 3 ≤ r ∧ Kd.C k23 w' (some ⟨g, 0, none⟩) liveO.length liveO ∧ Below W.heap.size W w' := by
  have hH : Cpt.Holds (W.alloc (.cells #[.int .i64 2, .int .i64 1, .int .i64 1, .int .i64 5, .int .i64 2, .int .i64 0, .int .i64 2, .int .i64 1] 23)) W.heap.size liveL [] := new_holds W liveL 23 rfl
  refine (Order_calls ⟨W.heap.size, 0, none⟩ 4 liveL _ (holds_C hH (by decide)) (by decide)).mono ?_
  rintro e w' ⟨g, cap, r, rfl, h1, h2, h3, h4, h5, h6⟩
  rw [live_order] at h1 h5 ⊢
  exact ⟨g, cap, rfl, h5, holds_C h1 (by decide), below_then (below_alloc (Below.refl _ _) _) (by simp) h6⟩
theorem rise_live : Ord.Rising ltI liveO := by simp [Ord.Rising, liveO, ltI]
theorem rank_live1 (g c : Nat) (W : World) (h : Kd.C k23 W (some ⟨g, 0, none⟩) liveO.length liveO) : Calls Try.prog 17 #[.slice (some ⟨g, 0, none⟩) 3 c, .agg #[.int .i64 2, .int .i64 1]] W fun e w' => e = .returned (.tuple #[.int .i64 2, .bool true]) ∧ Below W.heap.size W w' := by
  refine (Rank_calls ⟨g, 0, none⟩ c liveO ⟨2, 1⟩ W h (by decide) rise_live).mono ?_
  rintro e w' ⟨rfl, hB⟩
  exact ⟨by rw [show rankI liveO ⟨2, 1⟩ = 2 by decide, show decide ((⟨2, 1⟩ : S23) ∈ liveO) = true by decide]; rfl, hB⟩
theorem rank_live2 (g c : Nat) (W : World) (h : Kd.C k23 W (some ⟨g, 0, none⟩) liveO.length liveO) : Calls Try.prog 17 #[.slice (some ⟨g, 0, none⟩) 3 c, .agg #[.int .i64 1, .int .i64 6]] W fun e w' => e = .returned (.tuple #[.int .i64 1, .bool false]) ∧ Below W.heap.size W w' := by
  refine (Rank_calls ⟨g, 0, none⟩ c liveO ⟨1, 6⟩ W h (by decide) rise_live).mono ?_
  rintro e w' ⟨rfl, hB⟩
  exact ⟨by rw [show rankI liveO ⟨1, 6⟩ = 1 by decide, show decide ((⟨1, 6⟩ : S23) ∈ liveO) = false by decide]; rfl, hB⟩
theorem cells_below {w w1 : World} {g : Nat} {o : Obj} (h : w.heap[g]? = some o) (hb : Below w.heap.size w w1) : w1.heap[g]? = some o := (hb.block g (blk_lt h)).trans h
theorem same_live (g c : Nat) (W : World) (h : Kd.C k23 (W.alloc (.cells #[.int .i64 1, .int .i64 5, .int .i64 2, .int .i64 0, .int .i64 2, .int .i64 1] 23)) (some ⟨g, 0, none⟩) liveO.length liveO) (hc : 3 ≤ c) : Calls Try.prog 15 #[.slice (some ⟨g, 0, none⟩) 3 c, .slice (some ⟨W.heap.size, 0, none⟩) 3 3] (W.alloc (.cells #[.int .i64 1, .int .i64 5, .int .i64 2, .int .i64 0, .int .i64 2, .int .i64 1] 23)) fun e w' => e = .returned (.bool true) ∧ Below (W.alloc (.cells #[.int .i64 1, .int .i64 5, .int .i64 2, .int .i64 0, .int .i64 2, .int .i64 1] 23)).heap.size (W.alloc (.cells #[.int .i64 1, .int .i64 5, .int .i64 2, .int .i64 0, .int .i64 2, .int .i64 1] 23)) w' := by
  have hH : Cpt.Holds (W.alloc (.cells #[.int .i64 1, .int .i64 5, .int .i64 2, .int .i64 0, .int .i64 2, .int .i64 1] 23)) W.heap.size liveO [] := new_holds W liveO 23 rfl
  refine (duetref10_Same.calls 5 (some ⟨g, 0, none⟩) c liveO (some ⟨W.heap.size, 0, none⟩) 3 liveO true _ h hc (holds_C hH (by decide)) (by decide) (by kernel_rfl)).mono ?_
  rintro e w' ⟨rfl, hD⟩
  exact ⟨rfl, hD.below⟩
theorem chk_live (W : World) : Calls Try.prog 11 #[.agg #[.int .i64 1, .int .i64 15]] W fun e w' => e = .returned (.int .i64 0) ∧ Below W.heap.size W w' := Check_calls 1 15 W
theorem less_live (W : World) : Calls Try.prog 9 #[.agg #[.int .i64 1, .int .i64 5], .agg #[.int .i64 2, .int .i64 0]] W fun e w' => e = .returned (.bool true) ∧ Below W.heap.size W w' := less_calls ⟨1, 5⟩ ⟨2, 0⟩ W
structure LiveS (w W : World) (g g2 : Nat) : Prop where
  m : Mk W g 6 0
  c : Kd.C k23 W (some ⟨g2, 0, none⟩) liveO.length liveO
  b : Below w.heap.size w W
theorem LiveS.below {w W W1 : World} {g g2 : Nat} (h : LiveS w W g g2) (hb : Below W.heap.size W W1) : LiveS w W1 g g2 := ⟨Mk.below h.m hb, Kd.C_below h.c hb, below_then h.b h.b.size hb⟩
theorem LiveS.time {w W : World} {g g2 : Nat} (h : LiveS w W g g2) : Calls Try.prog 23 #[.pointer (some ⟨g, 0, none⟩)] W fun e w' => e = .returned (.int .i64 6) ∧ w' = W := Time_calls W g 6 0 h.m
theorem LiveS.same {w W : World} {g g2 : Nat} (h : LiveS w (W.alloc (.cells #[.int .i64 1, .int .i64 5, .int .i64 2, .int .i64 0, .int .i64 2, .int .i64 1] 23)) g g2) (c : Nat) (hc : 3 ≤ c) : Calls Try.prog 15 #[.slice (some ⟨g2, 0, none⟩) 3 c, .slice (some ⟨W.heap.size, 0, none⟩) 3 3] (W.alloc (.cells #[.int .i64 1, .int .i64 5, .int .i64 2, .int .i64 0, .int .i64 2, .int .i64 1] 23)) fun e w' => e = .returned (.bool true) ∧ Below (W.alloc (.cells #[.int .i64 1, .int .i64 5, .int .i64 2, .int .i64 0, .int .i64 2, .int .i64 1] 23)).heap.size (W.alloc (.cells #[.int .i64 1, .int .i64 5, .int .i64 2, .int .i64 0, .int .i64 2, .int .i64 1] 23)) w' := same_live g2 c W h.c hc
set_option maxHeartbeats 4000000 in
set_option maxRecDepth 100000 in
theorem live_calls (w : World) : Calls Try.prog 13 #[] w fun e w' => e = .returned (.bool true) ∧ Below w.heap.size w w' := by
  go_enter Try.func13, Try.ntmps13
  go_upto_region 5 with (first
    | (go_at_call 19; with_reducible refine (New_ok 0 rfl _).mono ?_; rintro e w1 ⟨g, rfl, hg, hM1, hB1⟩)
    | (go_at_call 19; with_reducible refine (New_bad 16 rfl _).mono ?_; rintro e w2 ⟨rfl, hB2⟩))
  have hM : Hid (Mk w2 g 0 0) := Lib.hid (Mk.below hM1 hB2)
  have hB : Hid (Below w.heap.size w w2) := Lib.hid (below_then hB1 hB1.size hB2)
  clear hM1 hB1 hB2
  go_upto_region 6 with (first
    | (go_at_call 27; with_reducible refine (id_calls 5 1 _).mono ?_; rintro e w3 ⟨rfl, hB3⟩; have hM3 := Mk.below hM.out hB3)
    | (go_at_call 21; with_reducible refine (See_ok g 5 1 0 0 rfl _ hM3).mono ?_; rintro e w4 ⟨rfl, hM4, hX4⟩))
  replace hB : Hid (Below w.heap.size w w4) := Lib.hid (But.out (below_then hB.out hB.out.size hB3) hg hX4)
  replace hM : Hid (Mk w4 g 5 0) := Lib.hid (by simpa using hM4)
  clear hM3 hM4 hX4 hB3
  go_upto_region 7 with (first
    | (go_at_call 27; with_reducible refine (id_calls 0 1 _).mono ?_; rintro e w5 ⟨rfl, hB5⟩)
    | (go_at_call 21; with_reducible refine (See_bad g 0 1 rfl _).mono ?_; rintro e w6 ⟨rfl, hB6⟩))
  replace hB : Hid (Below w.heap.size w w6) := Lib.hid (below_then (below_then hB.out hB.out.size hB5) (below_then hB.out hB.out.size hB5).size hB6)
  replace hM : Hid (Mk w6 g 5 0) := Lib.hid (Mk.below (Mk.below hM.out hB5) hB6)
  clear hB5 hB6
  go_upto_region 8 with (go_at_call 24; with_reducible refine (Make_ok g 5 0 (by decide) (by decide) (by decide) _ hM.out).mono ?_; rintro e w7 ⟨rfl, hM7, hX7⟩)
  replace hB : Hid (Below w.heap.size w w7) := Lib.hid (But.out hB.out hg hX7)
  replace hM : Hid (Mk w7 g 6 0) := Lib.hid (by simpa using hM7)
  clear hM7 hX7
  have hX : Hid ((w7.alloc (.cells #[.int .i64 6, .int .i64 0] 23)).heap[w7.heap.size]? = some (.cells #[.int .i64 6, .int .i64 0] 23 (0, 0))) := Lib.hid (heap_alloc_new _ _)
  replace hB := Lib.hid (below_alloc hB.out (.cells #[.int .i64 6, .int .i64 0] 23))
  replace hM := Lib.hid (Mk.below hM.out (below_alloc (Below.refl _ w7) (.cells #[.int .i64 6, .int .i64 0] 23)))
  generalize w7.heap.size = p at hX ⊢
  generalize w7.alloc (.cells #[.int .i64 6, .int .i64 0] 23) = w8 at hX hB hM ⊢
  go_upto_region 9 with (first
    | (go_at_call 27; with_reducible refine (id_calls _ _ _).mono ?_; rintro e wx ⟨rfl, hBx⟩; replace hB := Lib.hid (below_then hB.out hB.out.size hBx); replace hM := Lib.hid (Mk.below hM.out hBx); replace hX := Lib.hid (cells_below hX.out hBx); clear hBx)
    | (go_at_call 14; with_reducible refine (order_live _).mono ?_; rintro e w9 ⟨g2, c2, rfl, hc2, hC, hBx⟩; replace hB := Lib.hid (below_then hB.out hB.out.size hBx); replace hM := Lib.hid (Mk.below hM.out hBx); replace hX := Lib.hid (cells_below hX.out hBx); clear hBx))
  have HC := Lib.hid hC
  clear hC
  go_upto_region 11 with (first
    | (go_at_call 27; with_reducible refine (id_calls _ _ _).mono ?_; rintro e wx ⟨rfl, hBx⟩; replace hB := Lib.hid (below_then hB.out hB.out.size hBx); replace hM := Lib.hid (Mk.below hM.out hBx); replace hX := Lib.hid (cells_below hX.out hBx); replace HC := Lib.hid (Kd.C_below HC.out hBx); clear hBx)
    | (go_at_call 17; with_reducible refine (rank_live1 g2 c2 _ HC.out).mono ?_; rintro e wx ⟨rfl, hBx⟩; replace hB := Lib.hid (below_then hB.out hB.out.size hBx); replace hM := Lib.hid (Mk.below hM.out hBx); replace hX := Lib.hid (cells_below hX.out hBx); replace HC := Lib.hid (Kd.C_below HC.out hBx); clear hBx)
    | (go_at_call 17; with_reducible refine (rank_live2 g2 c2 _ HC.out).mono ?_; rintro e wx ⟨rfl, hBx⟩; replace hB := Lib.hid (below_then hB.out hB.out.size hBx); replace hM := Lib.hid (Mk.below hM.out hBx); replace hX := Lib.hid (cells_below hX.out hBx); replace HC := Lib.hid (Kd.C_below HC.out hBx); clear hBx))

  have x0 : wx.cell? ⟨p, 0, none⟩ = some (.int .i64 6) := by unfold World.cell?; rw [hX.out]; rfl
  have x1 : wx.cell? ⟨p, 1, none⟩ = some (.int .i64 0) := by unfold World.cell?; rw [hX.out]; rfl
  have hS0 : LiveS w wx g g2 := ⟨hM.out, HC.out, hB.out⟩
  clear hX hM hB HC
  go_region_held3 (fun w' => w'.cell? ⟨p, 0, none⟩ = some (.int .i64 6) ∧ w'.cell? ⟨p, 1, none⟩ = some (.int .i64 0) ∧ LiveS w w' g g2)
    (first | exact ⟨x0, x1, hS0.below (below_drew (Below.refl _ _))⟩ | (go_split_ands; refine ⟨?_, ?_, ?_⟩ <;> first | exact pw_cell_below hBx (by assumption) | exact LiveS.below (by assumption) hBx | assumption | exact pw_cell_below (below_alloc (Below.refl _ _) _) (by assumption) | exact LiveS.below (by assumption) (below_alloc (Below.refl _ _) _)) | go_keep | (trace_state; fail))
    ((first
      | (go_at_call 27; with_reducible refine (id_calls _ _ _).mono ?_; rintro e wx ⟨rfl, hBx⟩)
      | (go_at_call 23; go_split_ands; with_reducible refine (LiveS.time (by assumption)).mono ?_; rintro e wx ⟨rfl, rfl⟩)
      | (go_at_call 15; go_split_ands; with_reducible refine (LiveS.same (by assumption) c2 hc2).mono ?_; rintro e wx ⟨rfl, hBx⟩)
      | (go_at_call 9; with_reducible refine (less_live _).mono ?_; rintro e wx ⟨rfl, hBx⟩)
      | (go_at_call 11; with_reducible refine (chk_live _).mono ?_; rintro e wx ⟨rfl, hBx⟩)))
  all_goals
    go_split_ands
    go_wp2
    go_ret
    exact ⟨rfl, LiveS.b (by assumption)⟩
theorem SortNone_calls (c : Nat) (w : World) : Calls Try.prog 29 #[.slice none 0 c, .func (.func 26) #[] #[]] w fun e w' => e = .returned (.tuple #[]) ∧ w' = w := by
  have h := AnyF.slices_SortFunc_none Try.sortId none c (.func (.func 26) #[] #[]) w
  exact h
theorem Order_nil (n c : Nat) (w : World) : Calls Try.prog 14 #[.slice none n c] w fun e w' => e = .returned (.slice none 0 0) ∧ Below w.heap.size w w' := by
  go_enter Try.func14, Try.ntmps14
  go_wp2_with (first
    | (go_at_call 28; with_reducible refine (Clone_nil _ _ _).mono ?_; rintro e w1 ⟨rfl, rfl⟩)
    | (go_at_call 29; with_reducible refine (SortNone_calls _ _).mono ?_; rintro e w1 ⟨rfl, rfl⟩)
    | (go_at_call 30; with_reducible refine (Compact_small _ _ _ (by decide) _).mono ?_; rintro e w1 ⟨rfl, rfl⟩))
  go_ret
  exact ⟨rfl, Below.refl _ _⟩
/-- What live answers, in the printed functions' form. -/
def duetlaw10_live.f : Option Bool := some true
theorem duetlaw10_live.calls (r : Bool) (w : World) (hr_ : Aside0 (r = true)) (h : duetlaw10_live.f = some r) : Calls Try.prog 13 #[] w fun e w' => e = .returned (.bool r) ∧ Below w.heap.size w w' := by
  obtain rfl := Option.some.inj h
  exact live_calls w
theorem R_holds {w : World} {g base cap : Nat} {l : List S23} {r : List Value} (h : Cpt.Holds w g l r) (hg : base ≤ g) (hc : l.length ≤ cap) (hm : cap ≤ maxLen) (hs : (flat l ++ r).length = cap * 2) : Kd.R k23 23 w base (fun _ => True) (.slice (some ⟨g, 0, none⟩) l.length cap) l := by
  refine ⟨fun _ _ => trivial, flat l, ⟨flat_length l, .inr ⟨g, cap, _, rfl, hg, h, hc, hm, (by show (flat l ++ r).toArray.size = cap * 2; simpa using hs), ?_⟩⟩, ⟨flat_length l, fun j p hp => ?_⟩⟩
  · show (flat l ++ r).take (l.length * 2) = flat l
    rw [List.take_left' (flat_length l)]
  · have hj : j < l.length := (List.getElem?_eq_some_iff.1 hp).1
    obtain rfl : l[j] = p := by rw [List.getElem?_eq_getElem hj] at hp; exact Option.some.inj hp
    have hf := flat_at l [] j hj
    rw [List.append_nil] at hf
    have hl := flat_length l
    have e : ((flat l).drop (j * 2)).take 2 = [.int .i64 l[j].f0, .int .i64 l[j].f1] := by
      apply List.ext_getElem?
      intro i
      rw [List.getElem?_take, List.getElem?_drop]
      rcases i with _ | _ | i
      · rw [if_pos (by omega), Nat.add_zero, hf.1]; rfl
      · rw [if_pos (by omega), hf.2]; rfl
      · rw [if_neg (by omega)]; rfl
    show k23.M _ _ _ _ (((flat l).drop (j * 2)).take 2)
    rw [e]
    exact k23_mkM _ _ _ _
def ident_Order.f (l0 : List S23) : Option (List S23) := if l0.length * 16 ≤ 140737488351232 then some (Ord.orderL ltI l0) else none
theorem ident_Order.calls (A0 : Option Addr) (c0 : Nat) (l0 : List S23) (r : List S23) (w : World) (hr0 : Kd.C k23 w A0 l0.length l0) (hc0 : l0.length ≤ c0) (h : ident_Order.f l0 = some r) :
    Calls Try.prog 14 #[.slice A0 l0.length c0] w fun e w' => ∃ v0_ : Value, e = .returned (v0_) ∧ Kd.R k23 23 w' w.heap.size (fun _ => True) v0_ r ∧ Below w.heap.size w w' := by
  unfold ident_Order.f at h
  by_cases hb : l0.length * 16 ≤ 140737488351232
  · rw [if_pos hb] at h
    obtain rfl := Option.some.inj h
    cases A0 with
    | none =>
      have hl : l0 = [] := by
        cases l0 with
        | nil => rfl
        | cons x l => obtain ⟨ad, e, _⟩ := hr0.2.2 (by simp); cases e
      subst hl
      refine (Order_nil _ _ _).mono ?_
      rintro e w' ⟨rfl, hB⟩
      rw [show Ord.orderL ltI ([] : List S23) = [] by simp [Ord.orderL, Ord.sorted, Ord.compact]]
      exact ⟨_, rfl, Kd.R_nil _ _ _ _ _, hB⟩
    | some ad =>
      refine (Order_calls ad c0 l0 w hr0 hb).mono ?_
      rintro e w' ⟨g, cap, r, rfl, h1, h2, h3, h4, h5, h6⟩
      exact ⟨_, rfl, R_holds h1 h2 h5 h4 h3, h6⟩
  · rw [if_neg hb] at h; exact absurd h (by simp)
instance (l : List S23) : Decidable (Ord.Rising ltI l) := inferInstanceAs (Decidable (l.Pairwise fun a b => ltI a b = true))
def ident_Rank.f (l0 : List S23) (a1_0 : Int) (a1_1 : Int) : Option (Int × Bool) := if l0.length * 16 ≤ 140737488351232 ∧ Ord.Rising ltI l0 then some (((rankI l0 ⟨a1_0, a1_1⟩ : Nat) : Int), decide ((⟨a1_0, a1_1⟩ : S23) ∈ l0)) else none
theorem ident_Rank.calls (A0 : Option Addr) (c0 : Nat) (l0 : List S23) (a1_0 : Int) (a1_1 : Int) (r1 : Int) (r2 : Bool) (w : World) (hr0 : Kd.C k23 w A0 l0.length l0) (hc0 : l0.length ≤ c0) (h : ident_Rank.f l0 a1_0 a1_1 = some (r1, r2)) :
    Calls Try.prog 17 #[.slice A0 l0.length c0, .agg #[.int .i64 a1_0, .int .i64 a1_1]] w fun e w' => e = .returned (.tuple #[.int .i64 r1, .bool r2]) ∧ Below w.heap.size w w' := by
  unfold ident_Rank.f at h
  by_cases hb : l0.length * 16 ≤ 140737488351232 ∧ Ord.Rising ltI l0
  · rw [if_pos hb] at h
    obtain ⟨rfl, rfl⟩ := Prod.mk.inj (Option.some.inj h)
    cases A0 with
    | none =>
      have hl : l0 = [] := by
        cases l0 with
        | nil => rfl
        | cons x l => obtain ⟨ad, e, _⟩ := hr0.2.2 (by simp); cases e
      subst hl
      refine (Rank_nil _ ⟨a1_0, a1_1⟩ _).mono ?_
      rintro e w' ⟨rfl, hB⟩
      exact ⟨by simp [rankI], hB⟩
    | some ad =>
      refine (Rank_calls ad c0 l0 ⟨a1_0, a1_1⟩ w hr0 hb.1 hb.2).mono ?_
      rintro e w' ⟨rfl, hB⟩
      exact ⟨by congr, hB⟩
  · rw [if_neg hb] at h; exact absurd h (by simp)
end Go.Proofs.Ytoaaekgpabnneaa.Giv
