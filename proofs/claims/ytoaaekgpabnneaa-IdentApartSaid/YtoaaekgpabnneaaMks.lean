/- The laws of the makers of Ids: IdentNil, IdentMakes: the walks. -/
import Derived.Test.YtoaaekgpabnneaaRst
set_option linter.unusedVariables false
set_option linter.unusedSimpArgs false
namespace Go.Proofs.Ytoaaekgpabnneaa.Mks
open Go.RowKit Go.Proofs.Ytoaaekgpabnneaa.P Go.Proofs.Ytoaaekgpabnneaa.Sta Go.Proofs.Ytoaaekgpabnneaa.Giv Go.Proofs.Ytoaaekgpabnneaa.Rnk Go.Proofs.YtoaaekgpabnneaaW.PrintWords Go.Proofs.YtoaaekgpabnneaaW.PrintLast
set_option maxHeartbeats 1000000 in
theorem nil_law (x : S23) (w : World) : Calls Try.prog 6 #[.agg #[.int .i64 x.f0, .int .i64 x.f1]] w fun e w' => e = .returned (.bool true) ∧ Below w.heap.size w w' := by
  go_enter Try.func6, Try.ntmps6
  go_upto_region 1 with fail
  have hX : Hid ((w.alloc (.cells #[.int .i64 x.f0, .int .i64 x.f1] 23)).heap[w.heap.size]? = some (.cells #[.int .i64 x.f0, .int .i64 x.f1] 23 (0, 0))) := Lib.hid (heap_alloc_new _ _)
  have hB := Lib.hid (below_alloc (Below.refl _ w) (.cells #[.int .i64 x.f0, .int .i64 x.f1] 23))
  generalize w.alloc (.cells #[.int .i64 x.f0, .int .i64 x.f1] 23) = w0 at hX hB ⊢
  go_upto_region 3 with (first
    | (go_at_call 19; with_reducible refine (New_bad (-1) rfl _).mono ?_; rintro e w1 ⟨rfl, hBx⟩; replace hB := Lib.hid (below_then hB.out hB.out.size hBx); replace hX := Lib.hid (cells_below hX.out hBx); clear hBx)
    | (go_at_call 24; with_reducible refine (Make_nil _).mono ?_; rintro e w2 ⟨rfl, hBx⟩; replace hB := Lib.hid (below_then hB.out hB.out.size hBx); replace hX := Lib.hid (cells_below hX.out hBx); clear hBx))
  have hY : Hid ((w2.alloc (.cells #[.int .i64 0, .int .i64 0] 23)).heap[w2.heap.size]? = some (.cells #[.int .i64 0, .int .i64 0] 23 (0, 0))) := Lib.hid (heap_alloc_new _ _)
  replace hB := Lib.hid (below_alloc hB.out (.cells #[.int .i64 0, .int .i64 0] 23))
  replace hX := Lib.hid (cells_below hX.out (below_alloc (Below.refl _ w2) (.cells #[.int .i64 0, .int .i64 0] 23)))
  generalize w2.heap.size = q at hY ⊢
  generalize w2.alloc (.cells #[.int .i64 0, .int .i64 0] 23) = w3 at hX hY hB ⊢
  have x0 : w3.cell? ⟨w.heap.size, 0, none⟩ = some (.int .i64 x.f0) := by unfold World.cell?; rw [hX.out]; rfl
  have x1 : w3.cell? ⟨w.heap.size, 1, none⟩ = some (.int .i64 x.f1) := by unfold World.cell?; rw [hX.out]; rfl
  have y0 : w3.cell? ⟨q, 0, none⟩ = some (.int .i64 0) := by unfold World.cell?; rw [hY.out]; rfl
  have y1 : w3.cell? ⟨q, 1, none⟩ = some (.int .i64 0) := by unfold World.cell?; rw [hY.out]; rfl
  go_wp2_with (first
    | (go_at_call 21; with_reducible refine (See_nil _ _ _).mono ?_; rintro e w4 ⟨rfl, hB4⟩; have z0 := pw_cell_below hB4 y0; have z1 := pw_cell_below hB4 y1)
    | (go_at_call 23; with_reducible refine (Time_nil _).mono ?_; rintro e w5 ⟨rfl, rfl⟩)
    | (go_at_call 13; with_reducible refine (live_calls _).mono ?_; rintro e w6 ⟨rfl, hB6⟩))
  go_ret
  have b4 := below_then hB.out hB.out.size hB4
  exact ⟨rfl, below_then b4 b4.size hB6⟩
/-- Two makers, side by side. -/
structure Two (w0 W : World) (g k : Nat) (tm tk s : Int) : Prop where
  m : Mk W g tm s
  r : RMk W k s tk
  b : Below w0.heap.size w0 W
  hg : w0.heap.size ≤ g
  hk : w0.heap.size ≤ k
theorem Two.ne {w0 W : World} {g k : Nat} {tm tk s : Int} (h : Two w0 W g k tm tk s) : g ≠ k := blk_ne h.m h.r (by decide)
theorem Two.below {w0 W W1 : World} {g k : Nat} {tm tk s : Int} (h : Two w0 W g k tm tk s) (hb : Below W.heap.size W W1) : Two w0 W1 g k tm tk s :=
  ⟨Mk.below h.m hb, h.r.below hb, below_then h.b h.b.size hb, h.hg, h.hk⟩
theorem Two.but {w0 W W1 : World} {g k : Nat} {tm tm' tk s : Int} (h : Two w0 W g k tm tk s) (hm : Mk W1 g tm' s) (hb : But g W W1) : Two w0 W1 g k tm' tk s :=
  ⟨hm, (hb.block k (fun e => h.ne e.symm) (blk_lt h.r)).trans h.r, But.out h.b h.hg hb, h.hg, h.hk⟩
theorem Two.butr {w0 W W1 : World} {g k : Nat} {tm tk tk' s : Int} (h : Two w0 W g k tm tk s) (hm : RMk W1 k s tk') (hb : But k W W1) : Two w0 W1 g k tm tk' s :=
  ⟨(hb.block g h.ne (blk_lt h.m)).trans h.m, hm, But.out h.b h.hk hb, h.hg, h.hk⟩
def mxt (t0 t : Int) : Int := if t0 < t then t else t0
theorem Two.see {w0 W : World} {g k : Nat} {tm tk s : Int} (h : Two w0 W g k tm tk s) (t s' : Int) (hc : chk t s' = 0) : Calls Try.prog 21 #[.pointer (some ⟨g, 0, none⟩), .agg #[.int .i64 t, .int .i64 s']] W fun e w' => e = .returned (.int .i64 0) ∧ Two w0 w' g k (mxt tm t) tk s :=
  (See_ok g t s' tm s hc W h.m).mono fun _ _ ⟨he, hm, hb⟩ => ⟨he, h.but hm hb⟩
theorem Two.rsee {w0 W : World} {g k : Nat} {tm tk s : Int} (h : Two w0 W g k tm tk s) (t s' : Int) (hc : chk t s' = 0) : Calls Try.prog 22 #[.pointer (some ⟨k, 0, none⟩), .agg #[.int .i64 t, .int .i64 s']] W fun e w' => e = .returned (.int .i64 0) ∧ Two w0 w' g k tm (mxt tk t) s :=
  (RSee_ok k t s' tk s hc W h.r).mono fun _ _ ⟨he, hm, hb⟩ => ⟨he, h.butr hm hb⟩
theorem Two.cell {w0 W : World} {g k : Nat} {tm tk s : Int} (h : Two w0 W g k tm tk s) {a : Addr} {v : Value} (hc : w0.cell? a = some v) : W.cell? a = some v := pw_cell_below h.b hc
theorem Two.drew {w0 W : World} {g k : Nat} {tm tk s : Int} (h : Two w0 W g k tm tk s) : Two w0 W.drew g k tm tk s := h.below (below_drew (Below.refl _ _))
theorem chk_two (t s : Int) : chk t s = 0 ∨ chk t s = 1 := by unfold chk; repeat (first | exact .inl rfl | exact .inr rfl | split)
theorem chk_le (t s : Int) (h : chk t s = 0) : 1 ≤ t ∧ t ≤ 4294967295 := by
  unfold chk at h
  by_cases h1 : t < 1
  · rw [if_pos h1] at h; cases h
  · rw [if_neg h1] at h
    by_cases h2 : 4294967295 < t
    · rw [if_pos h2] at h; cases h
    · omega
theorem chk_mk (t s : Int) (h1 : 1 ≤ t) (h2 : t ≤ 4294967295) (h3 : 0 ≤ s) (h4 : s ≤ 15) : chk t s = 0 := by
  unfold chk; rw [if_neg (by omega), if_neg (by omega), if_neg (by omega), if_neg (by omega)]
set_option maxHeartbeats 1000000 in
theorem makes_bad (s : Int) (h : chk 1 s = 1) (h2 : s < 0 ∨ 15 < s) (A : Option Addr) (c n : Nat) (hn : n ≤ 9223372036854775807) (w : World) : Calls Try.prog 5 #[.int .i64 s, .slice A n c] w fun e w' => e = .returned (.bool true) ∧ Below w.heap.size w w' := by
  have HA := Lib.hid h
  have HB := Lib.hid h2
  clear h h2
  by_cases h0 : 0 < n
  · go_enter Try.func5, Try.ntmps5
    go_wp2_with (first
      | (go_at_call 19; with_reducible refine (New_bad s HA.out _).mono ?_; rintro e w1 ⟨rfl, hB1⟩)
      | (go_at_call 20; with_reducible refine (RNew_bad s HB.out _).mono ?_; rintro e w2 ⟨rfl, hB2⟩))
    refine wp_loop_rounds 1 ?_
    rw [rounds_succ]
    go_wp2_with (go_at_call 13; with_reducible refine (live_calls _).mono ?_; rintro e w6 ⟨rfl, hB6⟩)
    go_ret
    have b4 := below_then hB1 hB1.size hB2
    exact ⟨rfl, below_then b4 b4.size hB6⟩
  · obtain rfl : n = 0 := by omega
    go_enter Try.func5, Try.ntmps5
    go_wp2_with (first
      | (go_at_call 19; with_reducible refine (New_bad s HA.out _).mono ?_; rintro e w1 ⟨rfl, hB1⟩)
      | (go_at_call 20; with_reducible refine (RNew_bad s HB.out _).mono ?_; rintro e w2 ⟨rfl, hB2⟩))
    refine wp_loop_rounds 1 ?_
    rw [rounds_succ]
    go_wp2_with (go_at_call 13; with_reducible refine (live_calls _).mono ?_; rintro e w6 ⟨rfl, hB6⟩)
    go_ret
    have b4 := below_then hB1 hB1.size hB2
    exact ⟨rfl, below_then b4 b4.size hB6⟩
set_option maxHeartbeats 4000000 in
set_option maxRecDepth 100000 in
theorem makes_ok (s : Int) (h : chk 1 s = 0) (hs0 : 0 ≤ s) (hs1 : s ≤ 15) (A : Option Addr) (c : Nat) (l : List S23) (w : World) (hC : Kd.C k23 w A l.length l) : Calls Try.prog 5 #[.int .i64 s, .slice A l.length c] w fun e w' => e = .returned (.bool true) ∧ Below w.heap.size w w' := by
  have HA := Lib.hid h
  have hml := Kd.C_max hC
  have HC := Lib.hid hC
  clear h hC
  go_enter Try.func5, Try.ntmps5
  go_wp2_with (first
    | (go_at_call 19; with_reducible refine (New_ok s HA.out _).mono ?_; rintro e w1 ⟨g, rfl, hg, hM1, hB1⟩)
    | (go_at_call 20; with_reducible refine (RNew_ok s hs0 hs1 _).mono ?_; rintro e w2 ⟨k, rfl, hk, hM2, hB2⟩))
  have hT : Hid (Two w w2 g k 0 0 s) := Lib.hid ⟨Mk.below hM1 hB2, hM2, below_then hB1 hB1.size hB2, hg, Nat.le_trans hB1.size hk⟩
  clear hM1 hB1 hM2 hB2 hg hk
  go_loopw [9] (fun v wr => ∃ (i : Nat) (t : Int), v = .int .i64 i ∧ i ≤ 60 ∧ Hid (Two w wr g k t t s) ∧ 0 ≤ t ∧ t ≤ 4294967295) (fun v _ => 60 - (intOf v).toNat)
  case atStart => exact ⟨0, 0, rfl, by omega, hT, by omega, by omega⟩
  case round =>
    obtain ⟨i, t, rfl, hi60, HT, ht0, ht1⟩ := hrel
    clear hT
    by_cases hi : i < l.length ∧ i < 60
    · obtain ⟨hil, hi6⟩ := hi
      obtain ⟨ad, rfl, c0, c1⟩ := at_T23 HC.out (i : Int) (by omega) (by omega)
      have hrd : rd_T23 l (i : Int) = l[i] := by unfold rd_T23; rw [Int.toNat_natCast, List.getD_eq_getElem?_getD, List.getElem?_eq_getElem hil]; rfl
      rw [hrd, Int.toNat_natCast] at c0 c1
      clear hrd
      have d0 := HT.out.cell c0
      have d1 := HT.out.cell c1
      have hC0 := Lib.hid c0
      have hC1 := Lib.hid c1
      clear c0 c1
      generalize l[i] = x at hC0 hC1 d0 d1
      rcases chk_two x.f0 x.f1 with hx | hx
      · have hr := RCheck_calls x.f0 x.f1
        rw [hx] at hr
        have HX := Lib.hid hx
        have hxl := chk_le _ _ hx
        clear hx
        go_upto_region 9 with (go_at_call 12; with_reducible refine (hr _).mono ?_; rintro e w3 ⟨rfl, hB3⟩)
        have hT3 : Two w w3 g k t t s := HT.out.below hB3
        clear d0 d1 hB3
        have d0 := hT3.cell hC0.out
        have d1 := hT3.cell hC1.out
        have hT0 : Two w w3.drew g k t t s := hT3.drew
        go_region_held3 (fun w' => w'.cell? (ad.add (i * 2)) = some (.int .i64 x.f0) ∧ w'.cell? ⟨(ad.add (i * 2)).block, (ad.add (i * 2)).off + 1, none⟩ = some (.int .i64 x.f1))
          (first | exact ⟨d0, d1⟩ | exact ⟨hTc.cell hC0.out, hTc.cell hC1.out⟩ | exact ⟨hTa.cell hC0.out, hTa.cell hC1.out⟩ | exact ⟨hTb.cell hC0.out, hTb.cell hC1.out⟩)
          ((first
            | (go_at_call 21; with_reducible refine (Two.see hT0 x.f0 x.f1 HX.out).mono ?_; rintro e w4 ⟨rfl, hTa⟩)
            | (go_at_call 21; with_reducible refine (Two.see hTb x.f0 x.f1 HX.out).mono ?_; rintro e w5 ⟨rfl, hTc⟩)
            | (go_at_call 22; with_reducible refine (Two.rsee hT0 x.f0 x.f1 HX.out).mono ?_; rintro e w4 ⟨rfl, hTb⟩)
            | (go_at_call 22; with_reducible refine (Two.rsee hTa x.f0 x.f1 HX.out).mono ?_; rintro e w5 ⟨rfl, hTc⟩)))
        all_goals
          go_split_ands
          go_wp2
          have k1 := hTc.r.c1
          have HTC := Lib.hid hTc
          clear hTc
          go_quiet ((go_at_call 23; exact Calls.quiet_of_same (Time_calls _ g _ s HTC.out.m)))
          clear k1
          go_wp2
          go_roundw
          case rel => exact ⟨i + 1, mxt t x.f0, by go_num, by omega, Lib.hid (HTC.out.below (pw_below_drewN (Below.refl _ _) _)), by unfold mxt; split <;> omega, by unfold mxt; split <;> omega⟩
          case measure => simp [intOf]; omega
      · have hr := RCheck_calls x.f0 x.f1
        rw [hx] at hr
        have HX := Lib.hid hx
        clear hx
        go_upto_region 11 with (go_at_call 12; with_reducible refine (hr _).mono ?_; rintro e w3 ⟨rfl, hB3⟩)
        have hT3 : Two w w3 g k t t s := HT.out.below hB3
        clear d0 d1 hB3
        have d0 := hT3.cell hC0.out
        have d1 := hT3.cell hC1.out
        go_upto_region 13 with (go_at_call 21; with_reducible refine (See_bad g x.f0 x.f1 HX.out _).mono ?_; rintro e w4 ⟨rfl, hB4⟩)
        have hT4 : Two w w4 g k t t s := hT3.below hB4
        clear d0 d1 hB4 hT3
        go_upto_region 14 with (go_at_call 23; with_reducible refine (Time_calls _ g t s hT4.m).mono ?_; rintro e w5 ⟨rfl, rfl⟩)
        by_cases htm : t = 4294967295
        · subst htm
          go_upto_region 15 with (go_at_call 24; with_reducible refine (Make_full g s _ hT4.m).mono ?_; rintro e w5 ⟨rfl, hB5⟩)
          have hT5 : Two w (w5.alloc (.cells #[.int .i64 0, .int .i64 0] 23)) g k 4294967295 4294967295 s := (hT4.below hB5).below (below_alloc (Below.refl _ _) _)
          have hX5 : Hid ((w5.alloc (.cells #[.int .i64 0, .int .i64 0] 23)).heap[w5.heap.size]? = some (.cells #[.int .i64 0, .int .i64 0] 23 (0, 0))) := Lib.hid (heap_alloc_new _ _)
          generalize w5.heap.size = p at hX5 ⊢
          generalize w5.alloc (.cells #[.int .i64 0, .int .i64 0] 23) = w6 at hT5 hX5 ⊢
          go_upto_region 16 with (go_at_call 25; with_reducible refine (RMake_full k s _ hT5.r).mono ?_; rintro e w7 ⟨rfl, hB7⟩)
          have hT7 : Two w (w7.alloc (.cells #[.int .i64 0, .int .i64 0] 23)) g k 4294967295 4294967295 s := (hT5.below hB7).below (below_alloc (Below.refl _ _) _)
          have hX7 := cells_below (cells_below hX5.out hB7) (below_alloc (Below.refl _ _) (.cells #[.int .i64 0, .int .i64 0] 23))
          have hY7 : (w7.alloc (.cells #[.int .i64 0, .int .i64 0] 23)).heap[w7.heap.size]? = some (.cells #[.int .i64 0, .int .i64 0] 23 (0, 0)) := heap_alloc_new _ _
          generalize w7.heap.size = q at hY7 ⊢
          generalize w7.alloc (.cells #[.int .i64 0, .int .i64 0] 23) = w8 at hT7 hX7 hY7 ⊢
          have x0 : w8.cell? ⟨p, 0, none⟩ = some (.int .i64 0) := by unfold World.cell?; rw [hX7]; rfl
          have x1 : w8.cell? ⟨p, 1, none⟩ = some (.int .i64 0) := by unfold World.cell?; rw [hX7]; rfl
          have y0 : w8.cell? ⟨q, 0, none⟩ = some (.int .i64 0) := by unfold World.cell?; rw [hY7]; rfl
          have y1 : w8.cell? ⟨q, 1, none⟩ = some (.int .i64 0) := by unfold World.cell?; rw [hY7]; rfl
          clear hX7 hY7 hX5 hB5 hB7 hT5 hT4
          have HT7 := Lib.hid hT7
          clear hT7
          go_upto_region 18 with fail
          clear x0 x1 y0 y1
          have k1 := HT7.out.r.c1
          go_quiet ((go_at_call 23; exact Calls.quiet_of_same (Time_calls _ g _ s HT7.out.m)))
          clear k1
          go_wp2
          go_roundw
          case rel => exact ⟨i + 1, 4294967295, by go_num, by omega, Lib.hid (HT7.out.below (pw_below_drewN (Below.refl _ _) _)), by omega, by omega⟩
          case measure => simp [intOf]; omega
        · have ht2 : t < 4294967295 := by omega
          go_upto_region 15 with (go_at_call 24; with_reducible refine (Make_ok g t s htm ht0 ht2 _ hT4.m).mono ?_; rintro e w5 ⟨rfl, hM5, hB5⟩)
          have hT5 : Two w (w5.alloc (.cells #[.int .i64 (t + 1), .int .i64 s] 23)) g k (t + 1) t s := (hT4.but hM5 hB5).below (below_alloc (Below.refl _ _) _)
          have hX5 : Hid ((w5.alloc (.cells #[.int .i64 (t + 1), .int .i64 s] 23)).heap[w5.heap.size]? = some (.cells #[.int .i64 (t + 1), .int .i64 s] 23 (0, 0))) := Lib.hid (heap_alloc_new _ _)
          generalize w5.heap.size = p at hX5 ⊢
          generalize w5.alloc (.cells #[.int .i64 (t + 1), .int .i64 s] 23) = w6 at hT5 hX5 ⊢
          go_upto_region 16 with (go_at_call 25; with_reducible refine (RMake_ok k t s ht0 ht2 _ hT5.r).mono ?_; rintro e w7 ⟨rfl, hM7, hB7⟩)
          have hT7 : Two w (w7.alloc (.cells #[.int .i64 (t + 1), .int .i64 s] 23)) g k (t + 1) (t + 1) s := (hT5.butr hM7 hB7).below (below_alloc (Below.refl _ _) _)
          have hpk : p ≠ k := blk_ne hX5.out hT5.r (by decide)
          have hX6 : w7.heap[p]? = some (.cells #[.int .i64 (t + 1), .int .i64 s] 23 (0, 0)) := (hB7.block p hpk (blk_lt hX5.out)).trans hX5.out
          have hX7 := cells_below hX6 (below_alloc (Below.refl _ _) (.cells #[.int .i64 (t + 1), .int .i64 s] 23))
          have hY7 : (w7.alloc (.cells #[.int .i64 (t + 1), .int .i64 s] 23)).heap[w7.heap.size]? = some (.cells #[.int .i64 (t + 1), .int .i64 s] 23 (0, 0)) := heap_alloc_new _ _
          generalize w7.heap.size = q at hY7 ⊢
          generalize w7.alloc (.cells #[.int .i64 (t + 1), .int .i64 s] 23) = w8 at hT7 hX7 hY7 ⊢
          have x0 : w8.cell? ⟨p, 0, none⟩ = some (.int .i64 (t + 1)) := by unfold World.cell?; rw [hX7]; rfl
          have x1 : w8.cell? ⟨p, 1, none⟩ = some (.int .i64 s) := by unfold World.cell?; rw [hX7]; rfl
          have y0 : w8.cell? ⟨q, 0, none⟩ = some (.int .i64 (t + 1)) := by unfold World.cell?; rw [hY7]; rfl
          have y1 : w8.cell? ⟨q, 1, none⟩ = some (.int .i64 s) := by unfold World.cell?; rw [hY7]; rfl
          clear hX7 hY7 hX5 hX6 hM5 hM7 hB5 hB7 hT5 hT4 hpk
          have HT7 := Lib.hid hT7
          clear hT7
          have hck := chk_mk (t + 1) s (by omega) (by omega) hs0 hs1
          have hcr := Check_calls (t + 1) s
          rw [hck] at hcr
          clear hck
          have hlt : decide (t + 1 ≤ t) = false := decide_eq_false (by omega)
          go_upto_region 18 with (go_at_call 11; with_reducible refine (hcr _).mono ?_; rintro e w9 ⟨rfl, hB9⟩)
          clear x0 x1 y0 y1 hlt hcr
          have HT9 := Lib.hid (HT7.out.below hB9)
          clear hB9 HT7
          have k1 := HT9.out.r.c1
          go_quiet ((go_at_call 23; exact Calls.quiet_of_same (Time_calls _ g _ s HT9.out.m)))
          clear k1
          go_wp2
          go_roundw
          case rel => exact ⟨i + 1, t + 1, by go_num, by omega, Lib.hid (HT9.out.below (pw_below_drewN (Below.refl _ _) _)), by omega, by omega⟩
          case measure => simp [intOf]; omega
    · go_wp2_with (go_at_call 13; with_reducible refine (live_calls _).mono ?_; rintro e w6 ⟨rfl, hB6⟩)
      all_goals
        go_ret
        exact ⟨rfl, below_then HT.out.b HT.out.b.size hB6⟩
theorem makes_law (s : Int) (A : Option Addr) (c : Nat) (l : List S23) (w : World) (hC : Kd.C k23 w A l.length l) : Calls Try.prog 5 #[.int .i64 s, .slice A l.length c] w fun e w' => e = .returned (.bool true) ∧ Below w.heap.size w w' := by
  rcases chk_site s with ⟨h, h2⟩ | ⟨h, h1, h2⟩
  · exact makes_bad s h h2 A c l.length (Kd.C_max hC) w
  · exact makes_ok s h h1 h2 A c l w hC
end Go.Proofs.Ytoaaekgpabnneaa.Mks
