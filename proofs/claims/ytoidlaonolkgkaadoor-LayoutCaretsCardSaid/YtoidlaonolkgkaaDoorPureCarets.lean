/- LayoutCarets: the walk. -/
import Derived.Test.YtoidlaonolkgkaaDoorCa
import Derived.Test.YtoidlaonolkgkaaDoorGw
set_option linter.unusedVariables false
set_option linter.unusedSimpArgs false
namespace Go.Proofs.YtoidlaonolkgkaaDoor.PureCarets
open Go.RowKit Go.Proofs.YtoidlaonolkgkaaDoor.Giv Go.Proofs.YtoidlaonolkgkaaDoor.Gr Go.Proofs.YtoidlaonolkgkaaDoor.Gl Go.Proofs.YtoidlaonolkgkaaDoor.Gn Go.Proofs.YtoidlaonolkgkaaDoor.Gy Go.Proofs.YtoidlaonolkgkaaDoor.Gz Go.Proofs.YtoidlaonolkgkaaDoor.Gp Go.Proofs.YtoidlaonolkgkaaDoor.Gk Go.Proofs.YtoidlaonolkgkaaDoor.Gb Go.Proofs.YtoidlaonolkgkaaDoor.Gc Go.Proofs.YtoidlaonolkgkaaDoor.Gd Go.Proofs.YtoidlaonolkgkaaDoor.Gq Go.Proofs.YtoidlaonolkgkaaDoor.Ca Go.Proofs.YtoidlaonolkgkaaDoorW.PrintWords Go.Proofs.YtoidlaonolkgkaaDoorW.PrintLast Go.Proofs.YtoidlaonolkgkaaDoor.P
/-- What a page of Lay's is, in memory. -/
def PagePost (w : World) (rows : List (List S47)) (r c e : Int) (en : Ending) (w' : World) : Prop := ∃ A k, en = .returned (.tuple #[.agg #[.slice A rows.length k, .int .i64 r, .int .i64 c], .int .i64 e]) ∧ rows.length ≤ k ∧ Kd.C (Kd.slice 47 k47) w' A rows.length rows ∧ Below w.heap.size w w'
theorem page_calls (a0 : Int) (A1 : Option Addr) (c1 : Nat) (l1 : List Int) (A2 : Option Addr) (c2 : Nat) (l2 : List Int) (a3 : Int) (A4 : Option Addr) (c4 : Nat) (l4 : List Int) (r0 : List (List S47)) (r1 r2 r3 : Int) (w : World) (hL : Laid w)
    (hr1 : Kd.C (Kd.int .i64) w A1 l1.length l1) (hc1 : l1.length ≤ c1) (hr2 : Kd.C (Kd.int .i64) w A2 l2.length l2) (hc2 : l2.length ≤ c2) (hr4 : Kd.C (Kd.int .i64) w A4 l4.length l4) (hc4 : l4.length ≤ c4) (h : layout_Lay.f a0 l1 l2 a3 l4 = some (r0, r1, r2, r3)) :
    Calls Tryd.prog 10 #[.int .i64 a0, .slice A1 l1.length c1, .slice A2 l2.length c2, .int .i64 a3, .slice A4 l4.length c4] w (PagePost w r0 r1 r2 r3) := by
  refine (layout_Lay.calls a0 A1 c1 l1 A2 c2 l2 a3 A4 c4 l4 r0 r1 r2 r3 w hL hr1 hc1 hr2 hc2 hr4 hc4 h).mono ?_
  rintro e w' ⟨v, rfl, hS, hB⟩
  obtain ⟨A, k, rfl, hk, hC⟩ := Kd.R_reads (Kd.S_R hS)
  exact ⟨A, k, rfl, hk, hC, hB⟩
theorem cell_mk (xs : List S47) (i : Nat) (x : S47) (h : xs[i]? = some x) : rd_T47 xs (i : Int) = x := by unfold rd_T47; rw [Int.toNat_natCast, List.getD_eq_getElem?_getD, h]; rfl
theorem row_mk (xs : List (List S47)) (i : Nat) (x : List S47) (h : xs[i]? = some x) : rd_L6 xs (i : Int) = x := by unfold rd_L6; rw [Int.toNat_natCast, List.getD_eq_getElem?_getD, h]; rfl
/-- The case in its box, and where it lies. -/
abbrev caseO (a0 : Int) (A1 : Option Addr) (c1 : Nat) (l1 : List Int) (A2 : Option Addr) (c2 : Nat) (l2 : List Int) (a3 : Int) (A4 : Option Addr) (c4 : Nat) (l4 : List Int) : Array Value := #[.int .i64 a0, .slice A1 l1.length c1, .slice A2 l2.length c2, .int .i64 a3, .slice A4 l4.length c4]
theorem still_op {P : Program} {ops : Array Oper} {w : World} {Q : Act → Prop} {l : List Oper} {a : Act}
    (h : ∀ F : List Oper → Act → Prop, (∀ o rest a, (∀ K : Act → Prop, (∀ a, F rest a → K a) → if Region.wanted o (yielded ops a.tmps) then o.still P a w K else K (a.put o.dst undef)) → F (o :: rest) a) → (∀ a, Q a → F [] a) → F l a) : wpStill P ops w Q l a :=
  h (wpStill P ops w Q) (fun _ _ _ h => wpStill_step h) (fun _ h => h)
/-- What is known of the third page. -/
structure M3 (rows : List (List S47)) (wd R C w : Nat) : Prop where
  row : R < rows.length
  len : ∀ i, i < rows.length → (rd_L6 rows (i : Int)).length = wd
  le : rows.length ≤ 200
  cnt : cntM rows = w
  two : w = 1 ∨ w = 2
  fit : C + w ≤ wd
  mark : ∀ k, C ≤ k → k < C + w → (rd_T47 (rd_L6 rows (R : Int)) (k : Int)).f1 = true
theorem m3_of {wd ct : Nat} {ps ls : List Int} {w R C : Nat} (h2 : 2 ≤ wd) (h : Cts wd ct ps ls w) (hR : R = (finL wd ps ls ct []).2.1) (hC : C = (finL wd ps ls ct []).2.2) : M3 (gridL wd (finL wd ps ls 0 [(ct : Int)]).1.n (finL wd ps ls 0 [(ct : Int)]).1.G) wd R C w := by
  subst hR hC
  have hg : ∀ i, i < (finL wd ps ls 0 [(ct : Int)]).1.n → rd_L6 (gridL wd (finL wd ps ls 0 [(ct : Int)]).1.n (finL wd ps ls 0 [(ct : Int)]).1.G) (i : Int) = rowS wd ((finL wd ps ls 0 [(ct : Int)]).1.G i) := fun i hi => row_mk _ i _ (gridL_get _ _ _ i hi)
  refine ⟨by rw [gridL_len]; exact h.row, fun i hi => ?_, by rw [gridL_len]; exact h.size, cntM_page h, h.two, h.fit, fun k h3 h4 => ?_⟩
  · rw [gridL_len] at hi
    rw [hg i hi, rowS_len]
  · rw [hg _ h.row, cell_mk _ k _ (rowS_get wd _ k (by have := h.fit; omega))]
    exact (h.mark _ k).2 ⟨rfl, h3, h4⟩
set_option maxHeartbeats 8000000 in
set_option maxRecDepth 100000 in
theorem law (a0 : Int) (A1 : Option Addr) (c1 : Nat) (l1 : List Int) (A2 : Option Addr) (c2 : Nat) (l2 : List Int) (a3 : Int) (A4 : Option Addr) (c4 : Nat) (l4 : List Int) (w : World) (hL : Laid w) (hr1 : Kd.C (Kd.int .i64) w A1 l1.length l1) (hc1 : l1.length ≤ c1) (hr2 : Kd.C (Kd.int .i64) w A2 l2.length l2) (hc2 : l2.length ≤ c2) (hr4 : Kd.C (Kd.int .i64) w A4 l4.length l4) (hc4 : l4.length ≤ c4) :
    Calls Tryd.prog 8 #[.agg #[.int .i64 a0, .slice A1 l1.length c1, .slice A2 l2.length c2, .int .i64 a3, .slice A4 l4.length c4]] w fun e w' => e = .returned (.bool true) ∧ Below w.heap.size w w' := by
  have HL := Lib.hid hL
  have H1 := Lib.hid hr1
  have H2 := Lib.hid hr2
  have HB := Lib.hid (below_alloc (Below.refl w.heap.size w) (.cells (caseO a0 A1 c1 l1 A2 c2 l2 a3 A4 c4 l4) 24))
  clear hL hr1 hr2 hr4 hc4
  by_cases g0 : (200 : Int) < (l1.length : Int)
  · have d0 : decide ((200 : Int) < (l1.length : Int)) = true := decide_eq_true g0
    clear g0
    go_enter Tryd.func8, Tryd.ntmps8
    go_wp2_with (go_at_call 9; go_loud (refine (duetlaw21_live.calls true _ (HL.out.below HB.out) rfl).mono ?_; rintro e w9 ⟨rfl, hB9⟩))
    go_ret
    exact ⟨rfl, below_then' HB.out hB9⟩
  have d0 : decide ((200 : Int) < (l1.length : Int)) = false := decide_eq_false g0
  by_cases g1 : (300 : Int) < (l2.length : Int)
  · have d1 : decide ((300 : Int) < (l2.length : Int)) = true := decide_eq_true g1
    clear g0 g1
    go_enter Tryd.func8, Tryd.ntmps8
    go_wp2_with (go_at_call 9; go_loud (refine (duetlaw21_live.calls true _ (HL.out.below HB.out) rfl).mono ?_; rintro e w9 ⟨rfl, hB9⟩))
    go_ret
    exact ⟨rfl, below_then' HB.out hB9⟩
  have d1 : decide ((300 : Int) < (l2.length : Int)) = false := decide_eq_false g1
  by_cases g2 : (l2.length : Int) ≤ a3
  · have d2 : decide ((l2.length : Int) ≤ a3) = true := decide_eq_true g2
    clear g0 g1 g2
    go_enter Tryd.func8, Tryd.ntmps8
    go_wp2_with (go_at_call 9; go_loud (refine (duetlaw21_live.calls true _ (HL.out.below HB.out) rfl).mono ?_; rintro e w9 ⟨rfl, hB9⟩))
    go_ret
    exact ⟨rfl, below_then' HB.out hB9⟩
  have d2 : decide ((l2.length : Int) ≤ a3) = false := decide_eq_false g2
  -- the first page
  have hf1 : (∃ e : Int, e ≠ 0 ∧ layout_Lay.f a0 l1 l2 a3 [] = some ([], 0, 0, e)) ∨ ∃ wd ct : Nat, a0 = wd ∧ a3 = ct ∧ 2 ≤ wd ∧ wd ≤ 512 ∧ ct < l2.length ∧ (finL wd l1 l2 ct []).1.n ≤ 200 := by
    by_cases hb : badArgs a0 a3 l1.length l2.length 0
    · exact .inl ⟨1, by decide, by unfold layout_Lay.f; rw [if_pos (show badArgs a0 a3 l1.length l2.length ([] : List Int).length from hb)]⟩
    · by_cases hn : 200 < (finL a0.toNat l1 l2 a3 []).1.n
      · exact .inl ⟨5, by decide, by unfold layout_Lay.f; rw [if_neg (show ¬ badArgs a0 a3 l1.length l2.length ([] : List Int).length from hb), if_pos hn]⟩
      · unfold badArgs at hb
        refine .inr ⟨a0.toNat, a3.toNat, by omega, by omega, by omega, by omega, by omega, ?_⟩
        rw [show ((a3.toNat : Nat) : Int) = a3 by omega]; omega
  rcases hf1 with ⟨ec, hec, hlay⟩ | ⟨wd, ct, rfl, rfl, h2, h5, hct, hn1⟩
  · have hp1 := fun W h ha hb => page_calls a0 A1 c1 l1 A2 c2 l2 a3 none 0 [] [] 0 0 ec W h ha hc1 hb hc2 (Kd.C_nil _ _) (Nat.le_refl _) hlay
    have dec : (ec != 0) = true := by simp [hec]
    clear g0 g1 g2 hlay
    go_enter Tryd.func8, Tryd.ntmps8
    go_wp2_with (first
      | (go_at_call 10; go_loud (refine (hp1 _ (HL.out.below HB.out) (Kd.C_below H1.out HB.out) (Kd.C_below H2.out HB.out)).mono ?_; rintro e w2 ⟨A, k, rfl, _, _, hB2⟩; have HB2 := Lib.hid (below_alloc (below_then' HB.out hB2) (.cells #[.slice A ([] : List (List S47)).length k, .int .i64 0, .int .i64 0] 28)); clear hB2))
      | (go_at_call 9; go_loud (refine (duetlaw21_live.calls true _ (HL.out.below HB2.out) rfl).mono ?_; rintro e w9 ⟨rfl, hB9⟩)))
    go_ret
    exact ⟨rfl, below_then' HB2.out hB9⟩
  obtain ⟨R1, hR1⟩ : ∃ R1 : Nat, R1 = (finL wd l1 l2 ct []).2.1 := ⟨_, rfl⟩
  obtain ⟨C1, hC1⟩ : ∃ C1 : Nat, C1 = (finL wd l1 l2 ct []).2.2 := ⟨_, rfl⟩
  obtain ⟨wk, hcts⟩ := cts wd ct h2 l1 l2 hct hn1
  have HCT := Lib.hid hcts
  have hlay1 : layout_Lay.f (wd : Int) l1 l2 (ct : Int) [] = some (gridL wd (finL wd l1 l2 ct []).1.n (finL wd l1 l2 ct []).1.G, (R1 : Int), (C1 : Int), 0) := by
    unfold layout_Lay.f
    rw [if_neg (by unfold badArgs; simp; omega), Int.toNat_natCast, if_neg (by omega), hR1, hC1]
  have HRC := Lib.hid (And.intro hR1 hC1)
  generalize gridL wd (finL wd l1 l2 ct []).1.n (finL wd l1 l2 ct []).1.G = rows1 at hlay1
  have hp1 := fun W h ha hb => page_calls wd A1 c1 l1 A2 c2 l2 ct none 0 [] rows1 R1 C1 0 W h ha hc1 hb hc2 (Kd.C_nil _ _) (Nat.le_refl _) hlay1
  have HK0 := Lib.hid (heap_alloc_new w (.cells (caseO wd A1 c1 l1 A2 c2 l2 ct A4 c4 l4) 24))
  have hn3 : (finL wd l1 l2 0 [(ct : Int)]).1.n ≤ 200 := hcts.size
  have hlay3 : layout_Lay.f (wd : Int) l1 l2 0 [(ct : Int)] = some (gridL wd (finL wd l1 l2 0 [(ct : Int)]).1.n (finL wd l1 l2 0 [(ct : Int)]).1.G, ((finL wd l1 l2 0 [(ct : Int)]).2.1 : Int), ((finL wd l1 l2 0 [(ct : Int)]).2.2 : Int), 0) := by
    unfold layout_Lay.f
    rw [if_neg (by unfold badArgs; simp; omega), Int.toNat_natCast, if_neg (by omega)]
  have HL3 := Lib.hid hlay3
  have HG := Lib.hid (And.intro g0 (And.intro g1 hct))
  clear hR1 hC1 hcts hlay1 hn3 hlay3 g0 g1 g2
  go_enter Tryd.func8, Tryd.ntmps8
  go_upto_region 4 with (go_at_call 10; go_loud (refine (hp1 _ (HL.out.below HB.out) (Kd.C_below H1.out HB.out) (Kd.C_below H2.out HB.out)).mono ?_; rintro e w2 ⟨A, k, rfl, _, _, hB2⟩; have HB2 := Lib.hid (below_then' HB.out hB2); have HK2 := Lib.hid ((hB2.block _ (blk_lt HK0.out)).trans HK0.out); clear hB2))
  have HB3 := Lib.hid (below_alloc HB2.out (.cells #[.slice A rows1.length k, .int .i64 R1, .int .i64 C1] 28))
  have HK3 := Lib.hid ((heap_alloc_old w2 (.cells #[.slice A rows1.length k, .int .i64 R1, .int .i64 C1] 28) (blk_lt HK2.out)).trans HK2.out)
  have HP3 := Lib.hid (heap_alloc_new w2 (.cells #[.slice A rows1.length k, .int .i64 R1, .int .i64 C1] 28))
  clear HK2 HB2 HK0 HB d0 d1 d2 hp1
  generalize w2.alloc (.cells #[.slice A rows1.length k, .int .i64 R1, .int .i64 C1] 28) = w3 at HB3 HK3 HP3 ⊢
  generalize w2.heap.size = p1 at HP3 ⊢
  -- the second page
  have hg := HG.out
  have hf2 : layout_Lay.f (wd : Int) l1 l2 ((ct + 1 : Nat) : Int) [] = some ([], 0, 0, 5) ∨ ∃ rows2, layout_Lay.f (wd : Int) l1 l2 ((ct + 1 : Nat) : Int) [] = some (rows2, ((finL wd l1 l2 ((ct + 1 : Nat) : Int) []).2.1 : Int), ((finL wd l1 l2 ((ct + 1 : Nat) : Int) []).2.2 : Int), 0) := by
    by_cases hn : 200 < (finL wd l1 l2 ((ct + 1 : Nat) : Int) []).1.n
    · exact .inl (by unfold layout_Lay.f; rw [if_neg (by unfold badArgs; simp; omega), Int.toNat_natCast, if_pos hn])
    · exact .inr ⟨_, by unfold layout_Lay.f; rw [if_neg (by unfold badArgs; simp; omega), Int.toNat_natCast, if_neg hn]⟩
  have y0 : w3.cell? ⟨w.heap.size, 0, none⟩ = some (.int .i64 wd) := by rw [blk_cell HK3.out]; rfl
  have y1 : w3.cell? ⟨w.heap.size, 1, none⟩ = some (.slice A1 l1.length c1) := by rw [blk_cell HK3.out]; rfl
  have y2 : w3.cell? ⟨w.heap.size, 2, none⟩ = some (.slice A2 l2.length c2) := by rw [blk_cell HK3.out]; rfl
  have y3 : w3.cell? ⟨w.heap.size, 3, none⟩ = some (.int .i64 ct) := by rw [blk_cell HK3.out]; rfl
  have hwc : IntKind.i64.wrap ((ct : Int) + 1) = ((ct + 1 : Nat) : Int) := by rw [IntKind.wrap_i64]; omega
  clear hg
  rcases hf2 with hlay2 | ⟨rows2, hlay2⟩
  · have hp2 := fun W h ha hb => page_calls wd A1 c1 l1 A2 c2 l2 ((ct + 1 : Nat) : Int) none 0 [] [] 0 0 5 W h ha hc1 hb hc2 (Kd.C_nil _ _) (Nat.le_refl _) hlay2
    clear hlay2 hct hn1
    go_wp2_with (first
      | (go_at_call 10; go_loud (refine (hp2 _ (HL.out.below HB3.out) (Kd.C_below H1.out HB3.out) (Kd.C_below H2.out HB3.out)).mono ?_; rintro e w4 ⟨A, k, rfl, _, _, hB4⟩; have HB4 := Lib.hid (below_alloc (below_then' HB3.out hB4) (.cells #[.slice A ([] : List (List S47)).length k, .int .i64 0, .int .i64 0] 28)); clear hB4))
      | (go_at_call 9; go_loud (refine (duetlaw21_live.calls true _ (HL.out.below HB4.out) rfl).mono ?_; rintro e w9 ⟨rfl, hB9⟩)))
    go_ret
    exact ⟨rfl, below_then' HB4.out hB9⟩
  obtain ⟨R2, C2, hRC2⟩ : ∃ R2 C2 : Nat, (finL wd l1 l2 ((ct + 1 : Nat) : Int) []).2 = (R2, C2) := ⟨_, _, rfl⟩
  rw [hRC2] at hlay2
  have hup := HCT.out.up
  rw [hRC2] at hup
  unfold lexLe at hup
  simp only at hup
  rw [← HRC.out.1, ← HRC.out.2] at hup
  have hp2 := fun W h ha hb => page_calls wd A1 c1 l1 A2 c2 l2 ((ct + 1 : Nat) : Int) none 0 [] rows2 R2 C2 0 W h ha hc1 hb hc2 (Kd.C_nil _ _) (Nat.le_refl _) hlay2
  clear hlay2 hRC2
  go_upto_region 9 with (go_at_call 10; go_loud (refine (hp2 _ (HL.out.below HB3.out) (Kd.C_below H1.out HB3.out) (Kd.C_below H2.out HB3.out)).mono ?_; rintro e w4 ⟨A', k', rfl, _, _, hB4⟩; have HB4 := Lib.hid (below_then' HB3.out hB4); have HK4 := Lib.hid ((hB4.block _ (blk_lt HK3.out)).trans HK3.out); have HP4 := Lib.hid ((hB4.block _ (blk_lt HP3.out)).trans HP3.out); clear hB4))
  have HB5 := Lib.hid (below_alloc HB4.out (.cells #[.slice A' rows2.length k', .int .i64 R2, .int .i64 C2] 28))
  have HK5 := Lib.hid ((heap_alloc_old w4 (.cells #[.slice A' rows2.length k', .int .i64 R2, .int .i64 C2] 28) (blk_lt HK4.out)).trans HK4.out)
  have HP5 := Lib.hid ((heap_alloc_old w4 (.cells #[.slice A' rows2.length k', .int .i64 R2, .int .i64 C2] 28) (blk_lt HP4.out)).trans HP4.out)
  have HQ5 := Lib.hid (heap_alloc_new w4 (.cells #[.slice A' rows2.length k', .int .i64 R2, .int .i64 C2] 28))
  clear HK4 HP4 HB4 HB3 HK3 HP3 hp2 y0 y1 y2 y3 hwc
  generalize w4.alloc (.cells #[.slice A' rows2.length k', .int .i64 R2, .int .i64 C2] 28) = w5 at HB5 HK5 HP5 HQ5 ⊢
  generalize w4.heap.size = p2 at HQ5 ⊢
  have y0 : w5.cell? ⟨w.heap.size, 0, none⟩ = some (.int .i64 wd) := by rw [blk_cell HK5.out]; rfl
  have y1 : w5.cell? ⟨w.heap.size, 1, none⟩ = some (.slice A1 l1.length c1) := by rw [blk_cell HK5.out]; rfl
  have y2 : w5.cell? ⟨w.heap.size, 2, none⟩ = some (.slice A2 l2.length c2) := by rw [blk_cell HK5.out]; rfl
  have y3 : w5.cell? ⟨w.heap.size, 3, none⟩ = some (.int .i64 ct) := by rw [blk_cell HK5.out]; rfl
  have x1 : w5.cell? ⟨p1, 1, none⟩ = some (.int .i64 R1) := by rw [blk_cell HP5.out]; rfl
  have x2 : w5.cell? ⟨p1, 2, none⟩ = some (.int .i64 C1) := by rw [blk_cell HP5.out]; rfl
  have z1 : w5.cell? ⟨p2, 1, none⟩ = some (.int .i64 R2) := by rw [blk_cell HQ5.out]; rfl
  have z2 : w5.cell? ⟨p2, 2, none⟩ = some (.int .i64 C2) := by rw [blk_cell HQ5.out]; rfl
  have q0 : R1 ≤ R2 := by omega
  -- the third page
  have hlay3 := HL3.out
  have HM3 := Lib.hid (m3_of h2 HCT.out HRC.out.1 HRC.out.2)
  obtain ⟨rows3, hrows3⟩ : ∃ r, r = gridL wd (finL wd l1 l2 0 [(ct : Int)]).1.n (finL wd l1 l2 0 [(ct : Int)]).1.G := ⟨_, rfl⟩
  rw [← hrows3] at hlay3 HM3
  have HR3 := Lib.hid hrows3
  obtain ⟨R3, hR3⟩ : ∃ r : Int, r = ((finL wd l1 l2 0 [(ct : Int)]).2.1 : Int) := ⟨_, rfl⟩
  obtain ⟨C3, hC3⟩ : ∃ r : Int, r = ((finL wd l1 l2 0 [(ct : Int)]).2.2 : Int) := ⟨_, rfl⟩
  rw [← hR3, ← hC3] at hlay3
  have hone : ∀ W : World, Kd.C (Kd.int .i64) (W.alloc (.cells #[.int .i64 (ct : Int)] 3)) (some ⟨W.heap.size, 0, none⟩) 1 [(ct : Int)] := fun W => ⟨rfl, by omega, fun _ => ⟨_, rfl, fun j p hj => by
    match j, hj with
    | 0, hj =>
      obtain rfl := Option.some.inj hj
      refine ⟨[.int .i64 (ct : Int)], rfl, rfl, fun i u hu => ?_⟩
      match i, hu with
      | 0, hu =>
        obtain rfl := Option.some.inj hu
        show (W.alloc (.cells #[.int .i64 (ct : Int)] 3)).cell? ⟨W.heap.size, 0, none⟩ = _
        rw [blk_cell (heap_alloc_new W _)]; rfl
      | i + 1, hu => simp at hu
    | j + 1, hj => simp at hj⟩⟩
  have hp3 : ∀ W : World, Laid W → Kd.C (Kd.int .i64) W A1 l1.length l1 → Kd.C (Kd.int .i64) W A2 l2.length l2 → Calls Tryd.prog 10 #[.int .i64 (wd : Int), .slice A1 l1.length c1, .slice A2 l2.length c2, .int .i64 0, .slice (some ⟨W.heap.size, 0, none⟩) 1 1] (W.alloc (.cells #[.int .i64 (ct : Int)] 3)) (PagePost (W.alloc (.cells #[.int .i64 (ct : Int)] 3)) rows3 R3 C3 0) := fun W h ha hb =>
    page_calls wd A1 c1 l1 A2 c2 l2 0 (some ⟨W.heap.size, 0, none⟩) 1 [(ct : Int)] rows3 R3 C3 0 _ (h.below (below_alloc (Below.refl _ _) _)) (Kd.C_below ha (below_alloc (Below.refl _ _) _)) hc1 (Kd.C_below hb (below_alloc (Below.refl _ _) _)) hc2 (hone W) (Nat.le_refl _) hlay3
  clear hlay3 hone hR3 hC3 hrows3
  rcases hup with hup | ⟨rfl, hup2⟩
  all_goals
    go_upto_region 12 with (go_at_call 10; go_loud (refine (hp3 w5 (HL.out.below HB5.out) (Kd.C_below H1.out HB5.out) (Kd.C_below H2.out HB5.out)).mono ?_; rintro e w6 ⟨A3, k3, rfl, hk3, hC3, hB6⟩; have HB6 := Lib.hid (below_then' HB5.out (below_then' (below_alloc (Below.refl _ _) (.cells #[.int .i64 (ct : Int)] 3)) hB6)); have HP6 := Lib.hid ((hB6.block _ (blk_lt ((heap_alloc_old _ _ (blk_lt HP5.out)).trans HP5.out))).trans ((heap_alloc_old _ _ (blk_lt HP5.out)).trans HP5.out)); have HC6 := Lib.hid hC3; clear hB6 hC3))
    have HB7 := Lib.hid (below_alloc HB6.out (.cells #[.slice A3 rows3.length k3, .int .i64 R3, .int .i64 C3] 28))
    have HP7 := Lib.hid ((heap_alloc_old w6 (.cells #[.slice A3 rows3.length k3, .int .i64 R3, .int .i64 C3] 28) (blk_lt HP6.out)).trans HP6.out)
    have HM7 := Lib.hid (heap_alloc_new w6 (.cells #[.slice A3 rows3.length k3, .int .i64 R3, .int .i64 C3] 28))
    have HC7 := Lib.hid (Kd.C_below HC6.out (below_alloc (Below.refl _ _) (.cells #[.slice A3 rows3.length k3, .int .i64 R3, .int .i64 C3] 28)))
    clear HB6 HP6 HC6 HK5 HP5 HQ5 y0 y1 y2 y3 x1 x2 z1 z2 q0 hp3
    (try clear hup)
    (try clear hup2)
    generalize w6.alloc (.cells #[.slice A3 rows3.length k3, .int .i64 R3, .int .i64 C3] 28) = w7 at HB7 HP7 HM7 HC7 ⊢
    generalize w6.heap.size = p3 at HM7 ⊢
    clear HR3 HL3 HCT HRC
    have hm1 := HM3.out
    obtain ⟨ad, A0, k0, rfl, cw, hk0, hC0⟩ := at_L6 HC7.out (R1 : Int) (by omega) (by have := hm1.row; omega)
    rw [hm1.len R1 hm1.row] at cw hk0 hC0
    rw [Int.toNat_natCast] at cw
    have x1 : w7.cell? ⟨p1, 1, none⟩ = some (.int .i64 R1) := by rw [blk_cell HP7.out]; rfl
    have x2 : w7.cell? ⟨p1, 2, none⟩ = some (.int .i64 C1) := by rw [blk_cell HP7.out]; rfl
    have u0 : w7.cell? ⟨p3, 0, none⟩ = some (.slice (some ad) rows3.length k3) := by rw [blk_cell HM7.out]; rfl
    have e1 : R1 < rows3.length := hm1.row
    have e2 : C1 < wd := by have := hm1.fit; have := hm1.two; omega
    have e3 : (0 : Int) ≤ (R1 : Int) := by omega
    have e4 : decide (rows3.length ≤ R1) = false := decide_eq_false (by omega)
    have e5 : decide (wd ≤ C1) = false := decide_eq_false (by omega)
    have e6 : (R1 : Int) < (rows3.length : Int) := by omega
    have HC0 := Lib.hid hC0
    clear hm1 hC0
    go_upto_region 12 with fail
    go_region
    all_goals
      go_upto_region 16 with fail
      have hbd := below_drew (Below.refl w7.heap.size w7)
      have HB8 := Lib.hid (below_then' HB7.out hbd)
      have HP8 := Lib.hid ((hbd.block _ (blk_lt HP7.out)).trans HP7.out)
      have HM8 := Lib.hid ((hbd.block _ (blk_lt HM7.out)).trans HM7.out)
      have HC8 := Lib.hid (Kd.C_below HC7.out hbd)
      have HD8 := Lib.hid (Kd.C_below HC0.out hbd)
      have HW8 := Lib.hid (pw_cell_below hbd cw)
      clear hbd HB7 HP7 HM7 HC7 HC0 cw x1 x2 u0 e4 e5 hk0
      generalize w7.drew = w8 at HB8 HP8 HM8 HC8 HD8 HW8 ⊢
      have hle := HM3.out.le
      go_loopw [9, 10] (fun v9 v10 wr => ∃ (c i : Nat), v9 = .int .i64 c ∧ v10 = .int .i64 i ∧ i ≤ rows3.length ∧ c ≤ i * 512 ∧ Hid (c + ((rows3.drop i).flatMap fun r => r.flatMap mkF).length = wk) ∧ wr = w8) (fun _ v10 _ => rows3.length - (intOf v10).toNat)
      case atStart => exact ⟨0, 0, rfl, rfl, Nat.zero_le _, Nat.zero_le _, Lib.hid (by rw [List.drop_zero, Nat.zero_add]; exact HM3.out.cnt), rfl⟩
      case round =>
        obtain ⟨c, i, rfl, rfl, hi, hcb, HCN, rfl⟩ := hrel
        have u0 : wr.cell? ⟨p3, 0, none⟩ = some (.slice (some ad) rows3.length k3) := by rw [blk_cell HM8.out]; rfl
        by_cases hlt : i < rows3.length
        · have dl : decide ((i : Int) < (rows3.length : Int)) = true := decide_eq_true (by omega)
          obtain ⟨ad', A2', k2', hA, rw2, hk2, hC2⟩ := at_L6 HC8.out (i : Int) (by omega) (by omega)
          obtain rfl := Option.some.inj hA
          rw [HM3.out.len i hlt] at rw2 hk2 hC2
          rw [Int.toNat_natCast] at rw2
          have HRW := Lib.hid rw2
          have HC2 := Lib.hid hC2
          have hi0 : (0 : Int) ≤ (i : Int) := by omega
          have hi1 : (i : Int) < (rows3.length : Int) := by omega
          have hri : rd_L6 rows3 (i : Int) = rows3[i] := rdL6 rows3 i hlt
          have hll := HM3.out.len i hlt
          rw [hri] at HC2 hll
          have HIN : Hid (rows3.drop i = rows3[i] :: rows3.drop (i + 1)) := Lib.hid (List.drop_eq_getElem_cons hlt)
          generalize rows3[i] = row at HC2 hll HIN
          have HLL := Lib.hid hll
          clear hri hC2 hll
          go_upto_region 19 with fail
          go_loopw [9, 11] (fun v9 v11 wi => ∃ (c2 j : Nat), v9 = .int .i64 c2 ∧ v11 = .int .i64 j ∧ j ≤ wd ∧ c2 ≤ i * 512 + j ∧ Hid (c2 + ((row.drop j).flatMap mkF).length + ((rows3.drop (i + 1)).flatMap fun r => r.flatMap mkF).length = wk) ∧ wi = wr) (fun _ v11 _ => wd - (intOf v11).toNat)
          case atStart => exact ⟨c, 0, rfl, rfl, Nat.zero_le _, hcb, Lib.hid (by have h9 := HCN.out; rw [HIN.out, List.flatMap_cons, List.length_append] at h9; rw [List.drop_zero]; omega), rfl⟩
          case round =>
            clear HCN
            obtain ⟨c2, j, rfl, rfl, hj, hcb2, HCJ, rfl⟩ := hrel
            have rw3 := HRW.out
            by_cases hlj : j < wd
            · obtain ⟨ad2, rfl, tw, tm⟩ := at_T47 HC2.out (j : Int) (by omega) (by omega)
              have hjr : j < row.length := by rw [HLL.out]; exact hlj
              rw [rd47 row j hjr, Int.toNat_natCast] at tw tm
              have HJN : Hid (row.drop j = row[j] :: row.drop (j + 1)) := Lib.hid (List.drop_eq_getElem_cons hjr)
              generalize row[j] = x at tw tm HJN
              obtain ⟨x0, x1⟩ := x
              dsimp only at tw tm
              have hj0 : (0 : Int) ≤ (j : Int) := by omega
              have hj1 : (j : Int) < (wd : Int) := by omega
              cases x1 with
              | true =>
                have HBT : Hid (mkF ⟨x0, true⟩ = [()]) := Lib.hid rfl
                go_wp2
                go_roundw
                case rel => first | exact ⟨c2 + 1, j + 1, by go_num, by go_num, by omega, by omega, Lib.hid (by have h9 := HCJ.out; rw [HJN.out, List.flatMap_cons, List.length_append, HBT.out, List.length_cons, List.length_nil] at h9; omega), by first | rfl | trivial⟩ | repeat (first | (refine And.intro ?_ rfl; exact ⟨c2 + 1, j + 1, by go_num, by go_num, by omega, by omega, Lib.hid (by have h9 := HCJ.out; rw [HJN.out, List.flatMap_cons, List.length_append, HBT.out, List.length_cons, List.length_nil] at h9; omega), by first | rfl | trivial⟩) | apply Exists.intro)
                case measure => simp [intOf]; omega
              | false =>
                have HBT : Hid (mkF ⟨x0, false⟩ = []) := Lib.hid rfl
                go_wp2
                go_roundw
                case rel => first | exact ⟨c2, j + 1, rfl, by go_num, by omega, by omega, Lib.hid (by have h9 := HCJ.out; rw [HJN.out, List.flatMap_cons, List.length_append, HBT.out, List.length_nil] at h9; omega), by first | rfl | trivial⟩ | repeat (first | (refine And.intro ?_ rfl; exact ⟨c2, j + 1, rfl, by go_num, by omega, by omega, Lib.hid (by have h9 := HCJ.out; rw [HJN.out, List.flatMap_cons, List.length_append, HBT.out, List.length_nil] at h9; omega), by first | rfl | trivial⟩) | apply Exists.intro)
                case measure => simp [intOf]; omega
            · obtain rfl : j = wd := by omega
              go_wp2
              go_roundw
              case rel => first | exact ⟨c2, i + 1, rfl, by go_num, by omega, by omega, Lib.hid (by have h9 := HCJ.out; rw [List.drop_eq_nil_of_le (by rw [HLL.out]; exact Nat.le_refl _), List.flatMap_nil, List.length_nil] at h9; omega), by first | rfl | trivial⟩ | repeat (first | (refine And.intro ?_ rfl; exact ⟨c2, i + 1, rfl, by go_num, by omega, by omega, Lib.hid (by have h9 := HCJ.out; rw [List.drop_eq_nil_of_le (by rw [HLL.out]; exact Nat.le_refl _), List.flatMap_nil, List.length_nil] at h9; omega), by first | rfl | trivial⟩) | apply Exists.intro)
              case measure => simp [intOf]; omega
        · obtain rfl : i = rows3.length := by omega
          have hcw : c = wk := by have h9 := HCN.out; rw [List.drop_eq_nil_of_le (Nat.le_refl _)] at h9; simpa using h9
          subst hcw
          have htwo := HM3.out.two
          have hfit := HM3.out.fit
          obtain ⟨ad0, hA0, tw, tm⟩ := at_T47 HD8.out (C1 : Int) (by omega) (by omega)
          subst hA0
          have hmk := HM3.out.mark C1 (Nat.le_refl _) (by omega)
          rw [hmk, Int.toNat_natCast] at tm
          have x1 : wr.cell? ⟨p1, 1, none⟩ = some (.int .i64 R1) := by rw [blk_cell HP8.out]; rfl
          have x2 : wr.cell? ⟨p1, 2, none⟩ = some (.int .i64 C1) := by rw [blk_cell HP8.out]; rfl
          have cw := HW8.out
          have e7 : (C1 : Int) < (wd : Int) := by omega
          have e8 : (0 : Int) ≤ (C1 : Int) := by omega
          go_upto_region 23 with fail
          have HB9 := Lib.hid (below_drew HB8.out)
          rcases htwo with hc | hc
          · have q1 : ((c : Nat) : Int) = 1 := by rw [hc]; rfl
            rw [q1]
            clear q1 hc hfit hmk
            refine wp_region_still_tail 34 (by kernel_rfl) (by kernel_rfl) ?_
            show wpStill _ _ wr.drew _ _ _
            simp only [List.take_succ_cons, List.take_zero, List.drop_succ_cons, List.drop_zero]
            refine still_op (fun F hF hN => ?_)
            have HF := Lib.hid hF
            have HE := Lib.hid hN
            clear hF hN
            repeat
              (refine HF.out _ _ _ (fun K hK => ?_)
               have HK := Lib.hid hK
               clear hK
               go_simp
               refine HK.out _ ?_
               clear HK K)
            refine HE.out _ ?_
            clear HE HF F
            show wpList _ _ _ _ _ wr.drew
            generalize wr.drew = w9 at HB9 ⊢
            go_wp2_with (go_at_call 9; go_loud (refine (duetlaw21_live.calls true _ (HL.out.below HB9.out) rfl).mono ?_; rintro e wf ⟨rfl, hBf⟩))
            go_ret
            exact ⟨rfl, below_then' HB9.out hBf⟩
          · have q1 : ((c : Int) == 1) = false := by rw [hc]; rfl
            have q2 : ((c : Int) == 2) = true := by rw [hc]; rfl
            obtain ⟨ad1, hA1, tw2, tm2⟩ := at_T47 HD8.out ((C1 + 1 : Nat) : Int) (by omega) (by omega)
            obtain rfl := Option.some.inj hA1
            have hmk2 := HM3.out.mark (C1 + 1) (by omega) (by omega)
            rw [hmk2, Int.toNat_natCast] at tm2
            have e9 : ((C1 + 1 : Nat) : Int) < (wd : Int) := by omega
            have e10 : IntKind.i64.wrap ((C1 : Int) + 1) = ((C1 + 1 : Nat) : Int) := by rw [IntKind.wrap_i64]; omega
            have e11 : (0 : Int) ≤ (C1 : Int) + 1 := by omega
            have e12 : (C1 : Int) + 1 < (wd : Int) := by omega
            clear hc hfit hmk2
            refine wp_region_still_tail 34 (by kernel_rfl) (by kernel_rfl) ?_
            show wpStill _ _ wr.drew _ _ _
            simp only [List.take_succ_cons, List.take_zero, List.drop_succ_cons, List.drop_zero]
            refine still_op (fun F hF hN => ?_)
            have HF := Lib.hid hF
            have HE := Lib.hid hN
            clear hF hN
            repeat
              (refine HF.out _ _ _ (fun K hK => ?_)
               have HK := Lib.hid hK
               clear hK
               go_simp
               refine HK.out _ ?_
               clear HK K)
            refine HE.out _ ?_
            clear HE HF F
            show wpList _ _ _ _ _ wr.drew
            generalize wr.drew = w9 at HB9 ⊢
            go_wp2_with (go_at_call 9; go_loud (refine (duetlaw21_live.calls true _ (HL.out.below HB9.out) rfl).mono ?_; rintro e wf ⟨rfl, hBf⟩))
            go_ret
            exact ⟨rfl, below_then' HB9.out hBf⟩
end Go.Proofs.YtoidlaonolkgkaaDoor.PureCarets
