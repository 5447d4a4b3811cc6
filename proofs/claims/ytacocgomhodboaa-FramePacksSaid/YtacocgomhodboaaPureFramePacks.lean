import Derived.Test.YtacocgomhodboaaPx2
import Derived.Test.YtacocgomhodboaaPa
namespace Go.Proofs.Ytacocgomhodboaa.Pure
open Go.RowKit Go.Proofs.Ytacocgomhodboaa.P Go.Proofs.Ytacocgomhodboaa.Gv2 Go.Proofs.Ytacocgomhodboaa.Pa Go.Proofs.YtacocgomhodboaaW.PrintWords Go.Proofs.YtacocgomhodboaaW.PrintLast
theorem FramePacks : duetlaw03_FramePacks.Pure := by
  intro a0 h
  by_cases h1 : a0.size ≤ 2000
  · refine ⟨10 * a0.size + 4000, ?_⟩
    unfold duetlaw03_FramePacks.f frame_Pack.f
    rw [if_neg (by omega), if_neg (by omega), Option.bind_some, refPack a0 h1, Option.bind_some, if_pos rfl, if_pos rfl]; rfl
  · refine ⟨1, ?_⟩
    unfold duetlaw03_FramePacks.f frame_Pack.f duetref03_Pack.f
    by_cases h2 : (a0.size : Int) > 3000
    · rw [if_pos h2]; rfl
    · rw [if_neg h2, if_pos (by omega), Option.bind_some, if_pos (by omega), Option.bind_some, if_pos rfl, if_pos rfl]; rfl
end Go.Proofs.Ytacocgomhodboaa.Pure
