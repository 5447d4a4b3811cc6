/- The reference's stuffing, in plain lists. -/
import Derived.Test.YtacocgomhodboaaPx2
set_option linter.unusedVariables false
set_option linter.unusedSimpArgs false
namespace Go.Proofs.Ytacocgomhodboaa.L3
open Go.RowKit Go.Proofs.Ytacocgomhodboaa.Pk Go.Proofs.Ytacocgomhodboaa.Lem Go.Proofs.Ytacocgomhodboaa.Gv2 Go.Proofs.Ytacocgomhodboaa.P Go.Proofs.YtacocgomhodboaaW.PrintWords Go.Proofs.YtacocgomhodboaaW.PrintLast
def ni (l : List UInt8) : List Int := l.map fun b => (b.toNat : Int)
theorem bt_u8 (s : ByteArray) (i : Nat) (h : i < s.data.toList.length) : bt s (i : Int) = (((s.data.toList[i]).toNat : Nat) : Int) := by
  have h' : i < s.size := by rw [Array.length_toList] at h; exact h
  unfold bt
  rw [dif_pos (by simpa using h')]
  simp
  rfl
theorem stuff_l0 (s : ByteArray) (hs : s.size ≤ 3000) (K : Nat) : ∀ (m i : Nat) (acc : List UInt8), i + m = s.size → acc.length ≤ 2 * i → duetref03_stuff.l0 (K + m + 1) s (ni acc) (i : Int) = some ⟨(acc ++ st (s.data.toList.drop i)).toArray⟩
  | 0, i, acc, hi, ha => by
    have hd : s.data.toList.drop i = [] := List.drop_of_length_le (by rw [Array.length_toList]; show s.size ≤ i; omega)
    rw [hd]
    unfold duetref03_stuff.l0
    rw [if_neg (by omega)]
    exact congrArg some ((Pk.strOfNums_bytes acc).trans (by simp [st]))
  | m + 1, i, acc, hi, ha => by
    have hl : i < s.data.toList.length := by rw [Array.length_toList]; show i < s.size; omega
    have ih := fun acc' h => stuff_l0 s hs K m (i + 1) acc' (by omega) h
    have hw : wrap64 ((i : Int) + 1) = ((i + 1 : Nat) : Int) := by unfold wrap64; omega
    rw [List.drop_eq_getElem_cons hl]
    unfold duetref03_stuff.l0
    rw [if_pos (by omega), if_pos (by omega), bt_u8 s i hl, hw]
    generalize s.data.toList[i] = c
    have hlen : (ni acc).length = acc.length := by simp [ni]
    have hst : ∀ c, st (c :: s.data.toList.drop (i + 1)) = st1 c ++ st (s.data.toList.drop (i + 1)) := fun c => by simp [st]
    have h126 : (((c.toNat : Nat) : Int) = 126) ↔ c = 126 := ⟨fun e => UInt8.toNat_inj.1 (by simpa using (by omega : c.toNat = 126)), fun e => by rw [e]; rfl⟩
    have h125 : (((c.toNat : Nat) : Int) = 125) ↔ c = 125 := ⟨fun e => UInt8.toNat_inj.1 (by simpa using (by omega : c.toNat = 125)), fun e => by rw [e]; rfl⟩
    rw [hst, ← List.append_assoc]
    by_cases e1 : c = 126
    · rw [if_pos (h126.2 e1), Option.bind_some, if_pos (by rw [hlen]; simp; omega)]
      have := ih (acc ++ st1 c) (by rw [List.length_append, e1]; simp [st1]; omega)
      rw [e1] at this ⊢
      simpa [ni, st1, Nat.add_assoc] using this
    · rw [if_neg (fun x => e1 (h126.1 x))]
      by_cases e2 : c = 125
      · rw [if_pos (h125.2 e2), Option.bind_some, if_pos (by rw [hlen]; simp; omega)]
        have := ih (acc ++ st1 c) (by rw [List.length_append, e2]; simp [st1]; omega)
        rw [e2] at this ⊢
        simpa [ni, st1, Nat.add_assoc] using this
      · rw [if_neg (fun x => e2 (h125.1 x)), if_pos (by rw [hlen]; omega)]
        have hs1 : st1 c = [c] := by unfold st1; rw [if_neg (by simp [e1, e2])]
        have := ih (acc ++ st1 c) (by rw [List.length_append, hs1]; simp; omega)
        rw [hs1] at this ⊢
        simpa [ni, Nat.add_assoc] using this
end Go.Proofs.Ytacocgomhodboaa.L3
