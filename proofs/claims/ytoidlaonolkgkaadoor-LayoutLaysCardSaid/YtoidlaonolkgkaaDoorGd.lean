/- Check: the walk. -/
import Derived.Test.YtoidlaonolkgkaaDoorGn
import Derived.Test.YtoidlaonolkgkaaDoorPx0
import Derived.Test.YtoidlaonolkgkaaDoorGc
set_option linter.unusedVariables false
set_option linter.unusedSimpArgs false
namespace Go.Proofs.YtoidlaonolkgkaaDoor.Gd
open Go.RowKit Go.Proofs.YtoidlaonolkgkaaDoor.Giv Go.Proofs.YtoidlaonolkgkaaDoor.Gr Go.Proofs.YtoidlaonolkgkaaDoor.Gl Go.Proofs.YtoidlaonolkgkaaDoor.Gn Go.Proofs.YtoidlaonolkgkaaDoorW.PrintWords Go.Proofs.YtoidlaonolkgkaaDoorW.PrintLast Go.Proofs.YtoidlaonolkgkaaDoor.P Go.Proofs.YtoidlaonolkgkaaDoor.Gc
theorem clo35_calls (A : Option Addr) (c q : Nat) (row : List S47) (width : Int) (w : World) (hL : Laid w) (hC : Kd.C k47 w A row.length row) (hl : row.length ≤ 1000000) (hq : w.cell? ⟨q, 0, none⟩ = some (.int .i64 width)) :
    Calls Tryd.prog 35 #[.slice A row.length c, .pointer (some ⟨q, 0, none⟩)] w fun e w' => e = .returned (.bool (!(rowOK width row))) ∧ Below w.heap.size w w' := by
  have hR := row_calls A c row width w hL hC hl
  clear hL hC
  go_enter Tryd.func35, Tryd.ntmps35
  go_wp2_with (go_at_call 36; refine hR.mono ?_; rintro e w2 ⟨rfl, hB2⟩)
  go_ret
  exact ⟨rfl, hB2⟩
def rowsOK (width : Int) (rows : List (List S47)) : Bool := rows.all (rowOK width)
theorem rdL6 (xs : List (List S47)) (i : Nat) (h : i < xs.length) : rd_L6 xs (i : Int) = xs[i] := by unfold rd_L6; rw [Int.toNat_natCast, List.getD_eq_getElem?_getD, List.getElem?_eq_getElem h]; rfl
set_option maxHeartbeats 4000000 in
set_option maxRecDepth 100000 in
/-- The place of the first row that may not be, or -1. -/
theorem index48_calls (A : Option Addr) (c q : Nat) (rows : List (List S47)) (width : Int) (w : World) (hL : Laid w) (hC : Kd.C (Kd.slice 47 k47) w A rows.length rows) (hl : rows.length ≤ 1000000) (hr : ∀ r ∈ rows, r.length ≤ 1000000) (hq : w.cell? ⟨q, 0, none⟩ = some (.int .i64 width)) :
    Calls Tryd.prog 48 #[.slice A rows.length c, .func (.func 35) #[] #[.pointer (some ⟨q, 0, none⟩)]] w fun e w' => Below w.heap.size w w' ∧
      ∃ i : Int, e = .returned (.int .i64 i) ∧ decide (0 ≤ i) = !(rowsOK width rows) := by
  have HL := Lib.hid hL
  have HC := Lib.hid hC
  have HQ := Lib.hid hq
  have HRr := Lib.hid hr
  clear hL hC hq hr
  go_enter Tryd.func48, Tryd.ntmps48
  go_upto_region 2 with fail
  go_loopw [8] (fun v8 wr => ∃ k : Nat, v8 = .int .i64 k ∧ k ≤ rows.length ∧ Hid (rowsOK width (rows.take k) = true) ∧ Hid (Below w.heap.size w wr)) (fun v8 _ => rows.length - (intOf v8).toNat)
  case atStart => exact ⟨0, rfl, Nat.zero_le _, Lib.hid rfl, Lib.hid (Below.refl _ _)⟩
  case round =>
    obtain ⟨k, rfl, hk, HN, HB⟩ := hrel
    by_cases hlt : k < rows.length
    · obtain ⟨ad, A0, c0, rfl, cw, hc0, hCr⟩ := at_L6 (Kd.C_below HC.out HB.out) (k : Int) (by omega) (by omega)
      rw [rdL6 rows k hlt] at cw hc0 hCr
      rw [Int.toNat_natCast] at cw
      have HT : Hid (rows.take (k + 1) = rows.take k ++ [rows[k]] ∧ rows[k] ∈ rows ∧ rows = rows.take k ++ rows[k] :: rows.drop (k + 1)) := Lib.hid ⟨List.take_succ_eq_append_getElem hlt, List.getElem_mem hlt, by rw [← List.drop_eq_getElem_cons hlt, List.take_append_drop]⟩
      generalize rows[k] = r at cw hc0 hCr HT
      have hCl := clo35_calls A0 c0 q r width wr (HL.out.below HB.out) hCr (HRr.out r HT.out.2.1) (pw_cell_below HB.out HQ.out)
      clear hCr
      by_cases hp : rowOK width r = true
      · have HN2 : Hid (rowsOK width (rows.take (k + 1)) = true) := Lib.hid (by
          rw [HT.out.1]; have := HN.out; unfold rowsOK at *; rw [List.all_append, this, List.all_cons, hp]; rfl)
        rw [hp] at hCl
        clear hp
        go_wp2_with (go_at_call 35; go_loud (refine hCl.mono ?_; rintro e w5 ⟨rfl, hB5⟩; have HB5 := Lib.hid (below_then' HB.out hB5); clear hB5))
        go_roundw
        case rel => exact ⟨k + 1, by go_num, by omega, HN2, HB5⟩
        case measure => simp [intOf]; omega
      · have hp2 : rowOK width r = false := by cases h : rowOK width r with | true => exact absurd h hp | false => rfl
        have HF : Hid (rowsOK width rows = false) := Lib.hid (by
          rw [HT.out.2.2]; unfold rowsOK; rw [List.all_append, List.all_cons, hp2, Bool.false_and, Bool.and_false])
        rw [hp2] at hCl
        clear hp hp2
        go_wp2_with (go_at_call 35; go_loud (refine hCl.mono ?_; rintro e w5 ⟨rfl, hB5⟩; have HB5 := Lib.hid (below_then' HB.out hB5); clear hB5))
        go_ret
        exact ⟨HB5.out, k, rfl, by rw [HF.out, decide_eq_true (by omega)]; rfl⟩
    · obtain rfl : k = rows.length := by omega
      have hF := HN.out
      rw [List.take_length] at hF
      have HF := Lib.hid hF
      clear hF
      go_wp2
      go_ret
      exact ⟨HB.out, -1, rfl, by rw [HF.out]; rfl⟩
theorem contains34_calls (A : Option Addr) (c q : Nat) (rows : List (List S47)) (width : Int) (w : World) (hL : Laid w) (hC : Kd.C (Kd.slice 47 k47) w A rows.length rows) (hl : rows.length ≤ 1000000) (hr : ∀ r ∈ rows, r.length ≤ 1000000) (hq : w.cell? ⟨q, 0, none⟩ = some (.int .i64 width)) :
    Calls Tryd.prog 34 #[.slice A rows.length c, .func (.func 35) #[] #[.pointer (some ⟨q, 0, none⟩)]] w fun e w' => e = .returned (.bool (!(rowsOK width rows))) ∧ Below w.heap.size w w' := by
  have hR := index48_calls A c q rows width w hL hC hl hr hq
  clear hL hC hr hq
  go_enter Tryd.func34, Tryd.ntmps34
  go_wp2_with (go_at_call 48; refine hR.mono ?_; rintro e w2 ⟨hB2, i, rfl, hi⟩)
  go_ret
  exact ⟨by rw [← hi]; rfl, hB2⟩
def checkBad (width : Int) (n : Nat) (row col : Int) : Prop := width < 2 ∨ 512 < width ∨ 200 < n ∨ row < 0 ∨ (n : Int) ≤ row ∨ col < 0 ∨ width ≤ col
instance (width : Int) (n : Nat) (row col : Int) : Decidable (checkBad width n row col) := by unfold checkBad; infer_instance
/-- What Check answers. -/
def checkN (rows : List (List S47)) (row col width : Int) : Int := if checkBad width rows.length row col then 1 else if rowsOK width rows = true then 0 else 1
set_option maxHeartbeats 4000000 in
set_option maxRecDepth 100000 in
theorem check_calls (A : Option Addr) (c : Nat) (rows : List (List S47)) (row col width : Int) (w : World) (hL : Laid w) (hC : Kd.C (Kd.slice 47 k47) w A rows.length rows) (hl : rows.length ≤ 1000000) (hr : ∀ r ∈ rows, r.length ≤ 1000000) :
    Calls Tryd.prog 17 #[.agg #[.slice A rows.length c, .int .i64 row, .int .i64 col], .int .i64 width] w fun e w' => e = .returned (.int .i64 (checkN rows row col width)) ∧ Below w.heap.size w w' := by
  have HL := Lib.hid hL
  have HC := Lib.hid hC
  have HRr := Lib.hid hr
  have HB0 := Lib.hid (below_alloc (below_alloc (Below.refl w.heap.size w) (.cells #[.slice A rows.length c, .int .i64 row, .int .i64 col] 28)) (.cells #[.int .i64 width] 3))
  clear hL hC hr
  by_cases hb : checkBad width rows.length row col
  · have HX : Hid (checkN rows row col width = 1) := Lib.hid (by unfold checkN; rw [if_pos hb])
    unfold checkBad at hb
    by_cases g0 : width < 2
    · have d0 : decide (width < 2) = true := decide_eq_true g0
      clear hb g0
      go_enter Tryd.func17, Tryd.ntmps17
      go_wp2
      go_ret
      rw [HX.out]
      exact ⟨rfl, HB0.out⟩
    have d0 : decide (width < 2) = false := decide_eq_false g0
    by_cases g1 : 512 < width
    · have d1 : decide (512 < width) = true := decide_eq_true g1
      clear hb g1
      go_enter Tryd.func17, Tryd.ntmps17
      go_wp2
      go_ret
      rw [HX.out]
      exact ⟨rfl, HB0.out⟩
    have d1 : decide (512 < width) = false := decide_eq_false g1
    by_cases g2 : (200 : Int) < (rows.length : Int)
    · have d2 : decide ((200 : Int) < (rows.length : Int)) = true := decide_eq_true g2
      clear hb g2
      go_enter Tryd.func17, Tryd.ntmps17
      go_wp2
      go_ret
      rw [HX.out]
      exact ⟨rfl, HB0.out⟩
    have d2 : decide ((200 : Int) < (rows.length : Int)) = false := decide_eq_false g2
    by_cases g3 : row < 0
    · have d3 : decide (row < 0) = true := decide_eq_true g3
      clear hb g3
      go_enter Tryd.func17, Tryd.ntmps17
      go_wp2
      go_ret
      rw [HX.out]
      exact ⟨rfl, HB0.out⟩
    have d3 : decide (row < 0) = false := decide_eq_false g3
    by_cases g4 : (rows.length : Int) ≤ row
    · have d4 : decide ((rows.length : Int) ≤ row) = true := decide_eq_true g4
      clear hb g4
      go_enter Tryd.func17, Tryd.ntmps17
      go_wp2
      go_ret
      rw [HX.out]
      exact ⟨rfl, HB0.out⟩
    have d4 : decide ((rows.length : Int) ≤ row) = false := decide_eq_false g4
    by_cases g5 : col < 0
    · have d5 : decide (col < 0) = true := decide_eq_true g5
      clear hb g5
      go_enter Tryd.func17, Tryd.ntmps17
      go_wp2
      go_ret
      rw [HX.out]
      exact ⟨rfl, HB0.out⟩
    have d5 : decide (col < 0) = false := decide_eq_false g5
    by_cases g6 : width ≤ col
    · have d6 : decide (width ≤ col) = true := decide_eq_true g6
      clear hb g6
      go_enter Tryd.func17, Tryd.ntmps17
      go_wp2
      go_ret
      rw [HX.out]
      exact ⟨rfl, HB0.out⟩
    have d6 : decide (width ≤ col) = false := decide_eq_false g6
    omega
  · have HX : Hid (checkN rows row col width = if rowsOK width rows = true then 0 else 1) := Lib.hid (by unfold checkN; rw [if_neg hb])
    unfold checkBad at hb
    have d1 : decide (width < 2) = false := decide_eq_false (by omega)
    have d2 : decide (512 < width) = false := decide_eq_false (by omega)
    have d3 : decide ((200 : Int) < (rows.length : Int)) = false := decide_eq_false (by omega)
    have d4 : decide (row < 0) = false := decide_eq_false (by omega)
    have d5 : decide ((rows.length : Int) ≤ row) = false := decide_eq_false (by omega)
    have d6 : decide (col < 0) = false := decide_eq_false (by omega)
    have d7 : decide (width ≤ col) = false := decide_eq_false (by omega)
    go_enter Tryd.func17, Tryd.ntmps17
    clear hb
    go_upto_region 3 with fail
    have hc0 := (heap_alloc_old _ (.cells #[.int .i64 width] 3) (by simp)).trans (heap_alloc_new w (.cells #[.slice A rows.length c, .int .i64 row, .int .i64 col] 28))
    have hq0 := heap_alloc_new (w.alloc (.cells #[.slice A rows.length c, .int .i64 row, .int .i64 col] 28)) (.cells #[.int .i64 width] 3)
    have z0 : ((w.alloc (.cells #[.slice A rows.length c, .int .i64 row, .int .i64 col] 28)).alloc (.cells #[.int .i64 width] 3)).cell? ⟨w.heap.size, 0, none⟩ = some (.slice A rows.length c) := by rw [blk_cell hc0]; rfl
    have zq : ((w.alloc (.cells #[.slice A rows.length c, .int .i64 row, .int .i64 col] 28)).alloc (.cells #[.int .i64 width] 3)).cell? ⟨w.heap.size + 1, 0, none⟩ = some (.int .i64 width) := by
      rw [show w.heap.size + 1 = (w.alloc (.cells #[.slice A rows.length c, .int .i64 row, .int .i64 col] 28)).heap.size by simp, blk_cell hq0]; rfl
    have hB1 : Below w.heap.size w ((w.alloc (.cells #[.slice A rows.length c, .int .i64 row, .int .i64 col] 28)).alloc (.cells #[.int .i64 width] 3)) := HB0.out
    clear hc0 hq0 d1 d2 d3 d4 d5 d6 d7
    generalize (w.alloc (.cells #[.slice A rows.length c, .int .i64 row, .int .i64 col] 28)).alloc (.cells #[.int .i64 width] 3) = w1 at z0 zq hB1 ⊢
    have HBB := Lib.hid hB1
    have hR := contains34_calls A c (w.heap.size + 1) rows width w1 (HL.out.below hB1) (Kd.C_below HC.out hB1) hl HRr.out zq
    clear hB1
    by_cases hk : rowsOK width rows = true
    · have HK := Lib.hid hk
      rw [hk] at hR
      clear hk
      go_wp2_with (go_at_call 34; refine hR.mono ?_; rintro e w2 ⟨rfl, hB2⟩)
      go_ret
      rw [HX.out, HK.out]
      exact ⟨rfl, below_then' HBB.out hB2⟩
    · have hk2 : rowsOK width rows = false := by cases h : rowsOK width rows with | true => exact absurd h hk | false => rfl
      have HK := Lib.hid hk2
      rw [hk2] at hR
      clear hk hk2
      go_wp2_with (go_at_call 34; refine hR.mono ?_; rintro e w2 ⟨rfl, hB2⟩)
      go_ret
      rw [HX.out, HK.out]
      exact ⟨rfl, below_then' HBB.out hB2⟩
end Go.Proofs.YtoidlaonolkgkaaDoor.Gd
