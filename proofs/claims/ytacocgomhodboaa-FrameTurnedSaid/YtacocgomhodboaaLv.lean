/- live of the frames' laws: what is computed. -/
import Derived.Test.YtacocgomhodboaaFd
set_option linter.unusedVariables false
set_option linter.unusedSimpArgs false
namespace Go.Proofs.Ytacocgomhodboaa.Lv
open Go.RowKit Go.Proofs.Ytacocgomhodboaa.Rd Go.Proofs.Ytacocgomhodboaa.Pk Go.Proofs.Ytacocgomhodboaa.Bw Go.Proofs.Ytacocgomhodboaa.En Go.Proofs.Ytacocgomhodboaa.Fs Go.Proofs.Ytacocgomhodboaa.Fd Go.Proofs.Ytacocgomhodboaa.Lem Go.Proofs.Ytacocgomhodboaa.P Go.Proofs.YtacocgomhodboaaW.PrintWords Go.Proofs.YtacocgomhodboaaW.PrintLast
theorem seal_1 : sealS ⟨#[97, 126, 125]⟩ = ⟨#[97, 126, 125, 146, 181, 38]⟩ := by decide +kernel
theorem seal_0 : sealS ⟨#[]⟩ = ⟨#[183, 4, 206]⟩ := by decide +kernel
theorem pack_1 (w : World) : Calls Try.prog 11 #[.string ⟨#[97, 126, 125]⟩] w fun e w' => e = .returned (.tuple #[.string ⟨#[126, 97, 125, 94, 125, 93, 146, 181, 38, 126]⟩, .int .i64 0]) ∧ Below w.heap.size w w' :=
  Pack_ok ⟨#[97, 126, 125]⟩ ⟨#[97, 126, 125, 146, 181, 38]⟩ (by decide) (by rw [Seal_f _ (by decide), seal_1]) (by decide) w
theorem pack_0 (w : World) : Calls Try.prog 11 #[.string ⟨#[]⟩] w fun e w' => e = .returned (.tuple #[.string ⟨#[126, 183, 4, 206, 126]⟩, .int .i64 0]) ∧ Below w.heap.size w w' :=
  Pack_ok ⟨#[]⟩ ⟨#[183, 4, 206]⟩ (by decide) (by rw [Seal_f _ (by decide), seal_0]) (by decide) w
theorem feed_1 : feedF ⟨[], false, 0, []⟩ [120, 126, 97, 125, 94] = ⟨[97, 125, 94], false, 1, []⟩ := by
  have e1 : (endR [120] false).2 = false := by decide +kernel
  simp [feedF, Fs.step, e1]
theorem feed_2 : feedF ⟨[97, 125, 94], false, 1, []⟩ [125, 93, 146, 181, 38, 126, 122, 122, 126] = ⟨[], false, 2, [⟨#[97, 126, 125]⟩]⟩ := by
  have e1 : (endR [97, 125, 94, 125, 93, 146, 181, 38] false).2 = true := by decide +kernel
  have e2 : (endR [97, 125, 94, 125, 93, 146, 181, 38] false).1 = ⟨#[97, 126, 125]⟩ := by decide +kernel
  have e3 : (endR [122, 122] false).2 = false := by decide +kernel
  simp [feedF, Fs.step, e1, e2, e3]
end Go.Proofs.Ytacocgomhodboaa.Lv
