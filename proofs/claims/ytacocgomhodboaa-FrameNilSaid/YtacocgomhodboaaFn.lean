/- FrameNil: the walk. -/
import Derived.Test.YtacocgomhodboaaLq
set_option linter.unusedVariables false
set_option linter.unusedSimpArgs false
namespace Go.Proofs.Ytacocgomhodboaa.Fn
open Go.RowKit Go.Proofs.Ytacocgomhodboaa.Rd Go.Proofs.Ytacocgomhodboaa.Fd Go.Proofs.Ytacocgomhodboaa.Lq Go.Proofs.YtacocgomhodboaaW.PrintWords Go.Proofs.YtacocgomhodboaaW.PrintLast
theorem nil_law (s : ByteArray) (w : World) : Calls Try.prog 5 #[.string s] w fun e w' => e = .returned (.bool true) ∧ Below w.heap.size w w' := by
  by_cases h : (3000 : Int) < (s.size : Nat)
  · have d : decide ((3000 : Int) < (s.size : Nat)) = true := decide_eq_true h
    clear h
    go_enter Try.func5, Try.ntmps5
    go_wp2_with (go_at_call 10; refine (live_calls _).mono ?_; rintro e w1 ⟨rfl, hB⟩)
    go_ret
    exact ⟨rfl, hB⟩
  · have d : decide ((3000 : Int) < (s.size : Nat)) = false := decide_eq_false h
    clear h
    go_enter Try.func5, Try.ntmps5
    go_wp2_with (first
      | (go_at_call 16; refine (Feed_nil _ _).mono ?_; rintro e w1 ⟨rfl, hw1⟩; subst hw1)
      | (go_at_call 18; refine (Bad_nil _).mono ?_; rintro e w1 ⟨rfl, hw1⟩; subst hw1)
      | (go_at_call 10; refine (live_calls _).mono ?_; rintro e w1 ⟨rfl, hB⟩))
    go_ret
    exact ⟨rfl, hB⟩
end Go.Proofs.Ytacocgomhodboaa.Fn
