/- frame.Pack and live in the printed functions' form. -/
import Derived.Test.YtacocgomhodboaaLq
set_option linter.unusedVariables false
namespace Go.Proofs.Ytacocgomhodboaa.Gv2
open Go.RowKit Go.Proofs.Ytacocgomhodboaa.Pk Go.Proofs.Ytacocgomhodboaa.Lem Go.Proofs.Ytacocgomhodboaa.Lq Go.Proofs.YtacocgomhodboaaW.PrintWords
def packS (s : ByteArray) : ByteArray := ⟨([126] ++ st (sealS s).data.toList ++ [126]).toArray⟩
def frame_Pack.f (a0 : ByteArray) : Option (ByteArray × Int) := if 2000 < a0.size then some (⟨#[]⟩, 1) else some (packS a0, 0)
theorem frame_Pack.calls (a0 : ByteArray) (r1 : ByteArray) (r2 : Int) (w : World) (h : frame_Pack.f a0 = some (r1, r2)) :
    Calls Try.prog 11 #[.string a0] w fun e w' => e = .returned (.tuple #[.string r1, .int .i64 r2]) ∧ Below w.heap.size w w' := by
  unfold frame_Pack.f at h
  by_cases hs : 2000 < a0.size
  · rw [if_pos hs] at h
    injection h with h
    injection h with h1 h2
    subst h1 h2
    exact Pack_long a0 hs w
  · rw [if_neg hs] at h
    injection h with h
    injection h with h1 h2
    subst h1 h2
    exact Pack_ok a0 (sealS a0) (by omega) (Seal_f _ (by omega)) (by rw [sealS_size]; omega) w
def duetlaw03_live.f : Option Bool := some true
theorem duetlaw03_live.calls (r : Bool) (w : World) (hr_ : Aside0 (r = true)) (h : duetlaw03_live.f = some r) : Calls Try.prog 10 #[] w fun e w' => e = .returned (.bool r) ∧ Below w.heap.size w w' := by
  obtain rfl := Option.some.inj h
  exact live_calls w
end Go.Proofs.Ytacocgomhodboaa.Gv2
