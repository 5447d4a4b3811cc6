/- CellsMost: the walk of the law's own function. -/
import Derived.Test.YtmhnldlfknbocaaDoorLem
import Derived.Lib.Hide
set_option linter.unusedVariables false
set_option linter.unusedSimpArgs false
namespace Go.Proofs.YtmhnldlfknbocaaDoor.Most
open Go.RowKit Go.Proofs.YtmhnldlfknbocaaDoor.P Go.Proofs.YtmhnldlfknbocaaDoor.Giv Go.Proofs.YtmhnldlfknbocaaDoor.Lem Go.Proofs.YtmhnldlfknbocaaDoorW.PrintWords Go.Proofs.YtmhnldlfknbocaaDoorW.PrintLast Go.Proofs.YtmhnldlfknbocaaDoorW.PrintMore
theorem live_yes (w : World) (hL : Laid w) : Calls Tryd.prog 11 #[] w fun e w' => e = .returned (.bool true) ∧ Below w.heap.size w w' := duetlaw20_live.calls 10 true w hL (live_f 10 (by omega))
theorem total_yes (A : Option Addr) (c m : Nat) (l : List Int) (w : World) (hL : Laid w) (hr : Kd.C (Kd.int .i64) w A l.length l) (hc : l.length ≤ c) (hl : l.length ≤ 200) (hm : m ≤ l.length) :
    Calls Tryd.prog 14 #[.slice A m c] w fun e w' => e = .returned (.int .i64 (totalN (l.take m))) ∧ Below w.heap.size w w' := by
  have hlen : (l.take m).length = m := by rw [List.length_take]; omega
  have := cells_Total.calls 1000 A c (l.take m) _ w hL (Kd.C_take hr hm) (by omega) (Total_f _ (by omega) 1000 (by omega))
  rw [hlen] at this
  exact this
theorem fit_yes (A : Option Addr) (c : Nat) (l : List Int) (most : Int) (w : World) (hL : Laid w) (hr : Kd.C (Kd.int .i64) w A l.length l) (hc : l.length ≤ c) (n : Nat) (m : Int) (h : cells_Fit.f 1000 l most = some ((n : Int), m)) :
    Calls Tryd.prog 12 #[.slice A l.length c, .int .i64 most] w fun e w' => e = .returned (.tuple #[.int .i64 (n : Int), .int .i64 m]) ∧ Below w.heap.size w w' :=
  cells_Fit.calls 1000 A c l most _ _ w hL hr hc h
set_option maxRecDepth 100000 in
set_option maxHeartbeats 1000000 in
theorem long_calls (A : Option Addr) (c : Nat) (l : List Int) (most : Int) (w : World) (hL : Laid w) (hl : ¬ l.length ≤ 200) :
    Calls Tryd.prog 6 #[.slice A l.length c, .int .i64 most] w fun e w' => e = .returned (.bool true) ∧ Below w.heap.size w w' := by
  have d0 : decide (200 < (l.length : Int)) = true := decide_eq_true (by omega)
  have HL := Lib.hid hL
  clear hL
  go_enter Tryd.func6, Tryd.ntmps6
  go_wp2_with (go_at_call 11; refine (live_yes _ HL.out).mono ?_; rintro e w3 ⟨rfl, hB3⟩)
  go_ret
  exact ⟨rfl, hB3⟩
set_option maxRecDepth 100000 in
set_option maxHeartbeats 1000000 in
/-- What fits leaves some out. -/
theorem some_calls (A : Option Addr) (c : Nat) (l : List Int) (most : Int) (w : World) (hL : Laid w) (hr : Kd.C (Kd.int .i64) w A l.length l) (hc : l.length ≤ c) (hl : l.length ≤ 200)
    (n : Nat) (m : Int) (hF : cells_Fit.f 1000 l most = some ((n : Int), m)) (hn : n < l.length) (hm : totalN (l.take n) = m) (h1 : 0 ≤ most → m ≤ most) (h2 : 0 ≤ most → most < totalN (l.take (n + 1))) :
    Calls Tryd.prog 6 #[.slice A l.length c, .int .i64 most] w fun e w' => e = .returned (.bool true) ∧ Below w.heap.size w w' := by
  have d0 : decide (200 < (l.length : Int)) = false := decide_eq_false (by omega)
  have d1 : decide ((n : Int) < (l.length : Int)) = true := decide_eq_true (by omega)
  have d2 : decide (n < l.length) = true := decide_eq_true hn
  have d3 : decide ((l.length : Int) < (n : Int)) = false := decide_eq_false (by omega)
  have d4 : decide (l.length < n) = false := decide_eq_false (by omega)
  have HR := Lib.hid hr
  have HL := Lib.hid hL
  have HF := Lib.hid hF
  have T1 : ∀ w, Laid w → Kd.C (Kd.int .i64) w A l.length l → Calls Tryd.prog 14 #[.slice A n c] w fun e w' => e = .returned (.int .i64 m) ∧ Below w.heap.size w w' := by
    intro w a b; rw [← hm]; exact total_yes A c n l w a b hc hl (by omega)
  have T2 : ∀ w, Laid w → Kd.C (Kd.int .i64) w A l.length l → Calls Tryd.prog 14 #[.slice A (n + 1) c] w fun e w' => e = .returned (.int .i64 (totalN (l.take (n + 1)))) ∧ Below w.heap.size w w' :=
    fun w a b => total_yes A c (n + 1) l w a b hc hl (by omega)
  generalize totalN (l.take (n + 1)) = q at T2 h2
  have H1 := Lib.hid T1
  have H2 := Lib.hid T2
  clear hr hL hF hm T1 T2
  by_cases hneg : most < 0
  · have e1 : decide (most < 0) = true := decide_eq_true hneg
    have e2 : decide (0 ≤ most) = false := decide_eq_false (by omega)
    clear h1 h2
    go_enter Tryd.func6, Tryd.ntmps6
    go_wp2_with fail
    refine (fit_yes A c l most _ HL.out HR.out hc n m HF.out).mono ?_
    rintro e w1 ⟨rfl, hB1⟩
    go_wp2_with fail
    refine (H1.out _ (HL.out.below hB1) (Kd.C_below HR.out hB1)).mono ?_
    rintro e w2 ⟨rfl, hB2⟩
    go_wp2_with fail
    refine (live_yes _ (HL.out.below (below_then' hB1 hB2))).mono ?_
    rintro e w3 ⟨rfl, hB3⟩
    go_wp2
    go_ret
    exact ⟨rfl, below_then' (below_then' hB1 hB2) hB3⟩
  · have e1 : decide (most < 0) = false := decide_eq_false hneg
    have e2 : decide (0 ≤ most) = true := decide_eq_true (by omega)
    have h1' := h1 (by omega)
    have h2' := h2 (by omega)
    have e3 : decide (most < m) = false := decide_eq_false (by omega)
    have e4 : decide (most < q) = true := decide_eq_true h2'
    clear h1 h2
    go_enter Tryd.func6, Tryd.ntmps6
    go_wp2_with fail
    refine (fit_yes A c l most _ HL.out HR.out hc n m HF.out).mono ?_
    rintro e w1 ⟨rfl, hB1⟩
    go_wp2_with fail
    refine (H1.out _ (HL.out.below hB1) (Kd.C_below HR.out hB1)).mono ?_
    rintro e w2 ⟨rfl, hB2⟩
    go_wp2_with fail
    refine (H2.out _ (HL.out.below (below_then' hB1 hB2)) (Kd.C_below HR.out (below_then' hB1 hB2))).mono ?_
    rintro e w3 ⟨rfl, hB3⟩
    go_wp2_with fail
    refine (live_yes _ (HL.out.below (below_then' (below_then' hB1 hB2) hB3))).mono ?_
    rintro e w4 ⟨rfl, hB4⟩
    go_wp2
    go_ret
    exact ⟨rfl, below_then' (below_then' (below_then' hB1 hB2) hB3) hB4⟩
set_option maxRecDepth 100000 in
set_option maxHeartbeats 1000000 in
/-- All fit. -/
theorem all_calls (A : Option Addr) (c : Nat) (l : List Int) (most : Int) (w : World) (hL : Laid w) (hr : Kd.C (Kd.int .i64) w A l.length l) (hc : l.length ≤ c) (hl : l.length ≤ 200)
    (m : Int) (hF : cells_Fit.f 1000 l most = some ((l.length : Int), m)) (hm : totalN l = m) (h1 : 0 ≤ most → m ≤ most) :
    Calls Tryd.prog 6 #[.slice A l.length c, .int .i64 most] w fun e w' => e = .returned (.bool true) ∧ Below w.heap.size w w' := by
  have d0 : decide (200 < (l.length : Int)) = false := decide_eq_false (by omega)
  have HR := Lib.hid hr
  have HL := Lib.hid hL
  have HF := Lib.hid hF
  have T1 : ∀ w, Laid w → Kd.C (Kd.int .i64) w A l.length l → Calls Tryd.prog 14 #[.slice A l.length c] w fun e w' => e = .returned (.int .i64 m) ∧ Below w.heap.size w w' := by
    intro w a b
    have := total_yes A c l.length l w a b hc hl (by omega)
    rw [List.take_length, hm] at this
    exact this
  have H1 := Lib.hid T1
  clear hr hL hF hm T1
  by_cases hneg : most < 0
  · have e1 : decide (most < 0) = true := decide_eq_true hneg
    have e2 : decide (0 ≤ most) = false := decide_eq_false (by omega)
    clear h1
    go_enter Tryd.func6, Tryd.ntmps6
    go_wp2_with fail
    refine (fit_yes A c l most _ HL.out HR.out hc l.length m HF.out).mono ?_
    rintro e w1 ⟨rfl, hB1⟩
    go_wp2_with fail
    refine (H1.out _ (HL.out.below hB1) (Kd.C_below HR.out hB1)).mono ?_
    rintro e w2 ⟨rfl, hB2⟩
    go_wp2_with fail
    refine (live_yes _ (HL.out.below (below_then' hB1 hB2))).mono ?_
    rintro e w3 ⟨rfl, hB3⟩
    go_wp2
    go_ret
    exact ⟨rfl, below_then' (below_then' hB1 hB2) hB3⟩
  · have e1 : decide (most < 0) = false := decide_eq_false hneg
    have e2 : decide (0 ≤ most) = true := decide_eq_true (by omega)
    have h1' := h1 (by omega)
    have e3 : decide (most < m) = false := decide_eq_false (by omega)
    have e4 : decide (m ≤ most) = true := decide_eq_true h1'
    clear h1
    go_enter Tryd.func6, Tryd.ntmps6
    go_wp2_with fail
    refine (fit_yes A c l most _ HL.out HR.out hc l.length m HF.out).mono ?_
    rintro e w1 ⟨rfl, hB1⟩
    go_wp2_with fail
    refine (H1.out _ (HL.out.below hB1) (Kd.C_below HR.out hB1)).mono ?_
    rintro e w2 ⟨rfl, hB2⟩
    go_wp2_with fail
    refine (H1.out _ (HL.out.below (below_then' hB1 hB2)) (Kd.C_below HR.out (below_then' hB1 hB2))).mono ?_
    rintro e w3 ⟨rfl, hB3⟩
    go_wp2_with fail
    refine (live_yes _ (HL.out.below (below_then' (below_then' hB1 hB2) hB3))).mono ?_
    rintro e w4 ⟨rfl, hB4⟩
    go_wp2
    go_ret
    exact ⟨rfl, below_then' (below_then' (below_then' hB1 hB2) hB3) hB4⟩
theorem walk (a0 : Option Addr) (len0 cap0 : Nat) (z0 : List Int) (most : Int) (w : World) (hL : Laid w) (w0 : (a0 = none ∧ len0 = 0 ∧ cap0 = 0 ∧ z0 = []) ∨ ∃ x, a0 = some x ∧ len0 ≤ cap0 ∧ cap0 ≤ maxLen ∧ z0.length = cap0 ∧ (∀ i, i < z0.length → w.cell? (x.add i) = some (.int .i64 (z0.getD i 0))) ∧ ∀ n ∈ z0, (Lit.int .i64 n).wf = true) (_ : len0 * 8 ≤ 140737488351232) (_ : (Lit.int .i64 most).wf = true) :
    Calls Tryd.prog 6 #[.slice a0 len0 cap0, .int .i64 most] w fun e w' => e = .returned (.bool true) ∧ Below w.heap.size w w' := by
  obtain ⟨l, rfl, hr0, hm0, hw0, hc0⟩ := ReadsInt.ofRowC w0
  have hr := Kd.C_of_reads (d := (0 : Int)) (h1 := fun _ => rfl) hr0
  by_cases hl : l.length ≤ 200
  · by_cases hneg : most < 0
    · by_cases h0 : 0 < l.length
      · exact some_calls a0 cap0 l most w hL hr hc0 hl 0 0 (Fit_neg l most hneg 1000) h0 rfl (fun h => by omega) (fun h => by omega)
      · obtain rfl : l = [] := List.eq_nil_of_length_eq_zero (by omega)
        exact all_calls a0 cap0 [] most w hL hr hc0 hl 0 (Fit_neg [] most hneg 1000) rfl (fun h => by omega)
    · obtain ⟨f1, f2, f3⟩ := fit_fits l most (by omega)
      have hF := Fit_f l (by omega) most (by omega) 1000 (by omega)
      by_cases hk : fitN l most < l.length
      · exact some_calls a0 cap0 l most w hL hr hc0 hl _ _ hF hk rfl (fun _ => f2) (fun _ => f3 _ (by omega) (by omega))
      · have e : fitN l most = l.length := by omega
        rw [e, List.take_length] at hF
        rw [e, List.take_length] at f2
        exact all_calls a0 cap0 l most w hL hr hc0 hl _ hF rfl (fun _ => f2)
  · exact long_calls a0 cap0 l most w hL hl
end Go.Proofs.YtmhnldlfknbocaaDoor.Most
