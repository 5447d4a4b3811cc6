/- FramePacks: the plain law. -/
import Derived.Test.YtacocgomhodboaaL3
set_option linter.unusedVariables false
set_option linter.unusedSimpArgs false
namespace Go.Proofs.Ytacocgomhodboaa.Pa
open Go.RowKit Go.Proofs.Ytacocgomhodboaa.Pk Go.Proofs.Ytacocgomhodboaa.Lem Go.Proofs.Ytacocgomhodboaa.Gv2 Go.Proofs.Ytacocgomhodboaa.L3 Go.Proofs.Ytacocgomhodboaa.P Go.Proofs.YtacocgomhodboaaW.PrintWords Go.Proofs.YtacocgomhodboaaW.PrintLast
theorem le_up {α : Type} {f : Nat → Option α} (h : ∀ k, LeO (f k) (f (k + 1))) {a : Nat} : ∀ d, LeO (f a) (f (a + d))
  | 0 => LeO.refl _
  | d + 1 => LeO.trans (le_up h d) (h (a + d))
theorem pack_data (s : ByteArray) : ((⟨#[126]⟩ : ByteArray) ++ ⟨(st (sealS s).data.toList).toArray⟩) ++ (⟨#[126]⟩ : ByteArray) = packS s := by
  apply ByteArray.ext
  apply Array.ext'
  simp [packS]
theorem refPack (s : ByteArray) (h : s.size ≤ 2000) : duetref03_Pack.f (10 * s.size + 4000) s = some (packS s, 0) := by
  unfold duetref03_Pack.f
  have h1 : duetref02_Seal.f (10 * s.size + 4000) s = some (sealS s) := le_up (f := fun k => duetref02_Seal.f k s) (fun k => duetref02_Seal.mono _ _) (a := 10 * s.size + 1) 3999 _ (refSeal_f s (by omega))
  have hz := sealS_size s
  have h2 := stuff_l0 (sealS s) (by omega) (9 * s.size + 3996) (sealS s).size 0 [] (by omega) (by simp)
  have e : 9 * s.size + 3996 + (sealS s).size + 1 = 10 * s.size + 4000 := by omega
  rw [e] at h2
  have h3 : duetref03_stuff.f (10 * s.size + 4000) (sealS s) = some ⟨(st (sealS s).data.toList).toArray⟩ := by
    unfold duetref03_stuff.f
    simpa [ni] using h2
  have hl := st_len (sealS s).data.toList
  have hl2 : (sealS s).data.toList.length = (sealS s).size := Array.length_toList
  have hsz : (⟨(st (sealS s).data.toList).toArray⟩ : ByteArray).size ≤ 5000 := by
    show (st (sealS s).data.toList).toArray.size ≤ 5000
    rw [List.size_toArray]; omega
  rw [if_neg (by omega), h1, Option.bind_some, h3, Option.bind_some, if_pos (by omega), if_pos (by rw [ByteArray.size_append]; show 1 + _ + 1 ≤ _; omega), pack_data]
end Go.Proofs.Ytacocgomhodboaa.Pa
