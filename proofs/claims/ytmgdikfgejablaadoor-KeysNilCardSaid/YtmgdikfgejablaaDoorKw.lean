/- KeysNil: the walk. -/
import Derived.Test.YtmgdikfgejablaaDoorKv
set_option linter.unusedVariables false
set_option linter.unusedSimpArgs false
namespace Go.Proofs.YtmgdikfgejablaaDoor.Kw
open Go.RowKit Go.Proofs.YtmgdikfgejablaaDoor.Kn Go.Proofs.YtmgdikfgejablaaDoor.Ko Go.Proofs.YtmgdikfgejablaaDoor.Kv Go.Proofs.YtmgdikfgejablaaDoorW.PrintWords Go.Proofs.YtmgdikfgejablaaDoorW.PrintLast
theorem nil_law (s : ByteArray) (w : World) (hL : Laid w) : Calls Tryd.prog 4 #[.string s] w fun e w' => e = .returned (.bool true) ∧ Below w.heap.size w w' := by
  have HL := Lib.hid hL
  clear hL
  by_cases h : (300 : Int) < (s.size : Nat)
  · have d : decide ((300 : Int) < (s.size : Nat)) = true := decide_eq_true h
    clear h
    go_enter Tryd.func4, Tryd.ntmps4
    go_wp2_with (go_at_call 9; refine (live_calls _ HL.out).mono ?_; rintro e w1 ⟨rfl, hB⟩)
    go_ret
    exact ⟨rfl, hB⟩
  · have d : decide ((300 : Int) < (s.size : Nat)) = false := decide_eq_false h
    clear h
    go_enter Tryd.func4, Tryd.ntmps4
    go_wp2_with (first
      | (go_at_call 15; refine (Feed_nil _ _).mono ?_; rintro e w1 ⟨rfl, hw1⟩; subst hw1)
      | (go_at_call 13; refine (Flush_nil _).mono ?_; rintro e w1 ⟨rfl, hw1⟩; subst hw1)
      | (go_at_call 17; refine (Waits_nil _).mono ?_; rintro e w1 ⟨rfl, hw1⟩; subst hw1)
      | (go_at_call 9; refine (live_calls _ HL.out).mono ?_; rintro e w1 ⟨rfl, hB⟩))
    go_ret
    exact ⟨rfl, hB⟩
end Go.Proofs.YtmgdikfgejablaaDoor.Kw
