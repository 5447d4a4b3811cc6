/- strings.TrimRight at one blank; a cell's bytes. -/
import Derived.Test.YtoidlaonolkgkaaDoorGc
import Derived.Test.YtoidlaonolkgkaaDoorPx2
import Derived.Test.YtoidlaonolkgkaaDoorSh
set_option linter.unusedVariables false
set_option linter.unusedSimpArgs false
namespace Go.Proofs.YtoidlaonolkgkaaDoor.Ge
open Go.RowKit Go.Proofs.YtoidlaonolkgkaaDoor.Giv Go.Proofs.YtoidlaonolkgkaaDoor.Gr Go.Proofs.YtoidlaonolkgkaaDoor.Gl Go.Proofs.YtoidlaonolkgkaaDoor.Gn Go.Proofs.YtoidlaonolkgkaaDoorW.PrintWords Go.Proofs.YtoidlaonolkgkaaDoorW.PrintLast Go.Proofs.YtoidlaonolkgkaaDoor.P Go.Proofs.YtoidlaonolkgkaaDoor.Gc
def signN (n : Int) : Int := if -2147483648 ≤ n ∧ n ≤ 2147483647 then n else -1
theorem sign_f (n : Int) : layout_sign.f n = some (signN n) := by
  unfold layout_sign.f signN
  have h : wrap64 (wrap32 n) = n ↔ (-2147483648 ≤ n ∧ n ≤ 2147483647) := by unfold wrap64 wrap32; omega
  by_cases hn : -2147483648 ≤ n ∧ n ≤ 2147483647
  · rw [if_pos (h.2 hn), if_pos hn]
    congr 1
    unfold wrap32; omega
  · rw [if_neg (fun q => hn (h.1 q)), if_neg hn]
/-- A cell's bytes. -/
def cellB (c : S47) : List UInt8 := if c.f0 = -1 then [] else Lib.encodeRune (signN (if c.f0 = 0 then 32 else c.f0))
/-- Without the blanks at its end. -/
def trimR (l : List UInt8) : List UInt8 := (l.reverse.dropWhile (· == 32)).reverse
theorem trimR_blank (l : List UInt8) : trimR (l ++ [32]) = trimR l := by
  unfold trimR
  rw [List.reverse_append]
  simp
theorem trimR_other (l : List UInt8) (x : UInt8) (h : x ≠ 32) : trimR (l ++ [x]) = l ++ [x] := by
  unfold trimR
  rw [List.reverse_append]
  simp [h]
def rowB (row : List S47) : List UInt8 := row.flatMap cellB
def rowT (row : List S47) : List UInt8 := trimR (rowB row)
def pageT (rows : List (List S47)) : List ByteArray := rows.map fun r => ⟨(rowT r).toArray⟩
theorem bt_last (l : List UInt8) (x : UInt8) : bt ⟨(l ++ [x]).toArray⟩ (l.length : Int) = (x.toNat : Int) := by
  unfold bt
  have h : ((l.length : Int)).toNat < (⟨(l ++ [x]).toArray⟩ : ByteArray).size := by
    show _ < (l ++ [x]).toArray.size
    simp
  rw [dif_pos h]
  show (((l ++ [x]).toArray[((l.length : Int)).toNat]'h).toNat : Int) = _
  simp
theorem trim_l0 : ∀ (n : Nat) (l : List UInt8), l.length = n → l.length ≤ 1000000 → strings_trimRightByte.l0 (n + 1) ⟨l.toArray⟩ 32 = some ⟨(trimR l).toArray⟩
  | 0, l, h, _ => by
    obtain rfl := List.eq_nil_of_length_eq_zero h
    rfl
  | n + 1, l, h, hl => by
    obtain ⟨m, x, rfl⟩ : ∃ m x, l = m ++ [x] := ⟨l.dropLast, l.getLast (by intro e; rw [e] at h; simp at h), (List.dropLast_concat_getLast _).symm⟩
    have hm : m.length = n := by simp at h; exact h
    have hs : ((⟨(m ++ [x]).toArray⟩ : ByteArray).size : Int) = (n : Int) + 1 := by
      show (((m ++ [x]).toArray.size : Nat) : Int) = _
      simp; omega
    have hw : wrap64 ((n : Int) + 1 - 1) = (n : Int) := by simp at hl; unfold wrap64; omega
    unfold strings_trimRightByte.l0
    rw [hs, hw, if_pos (by omega), if_pos (by omega), if_pos (by omega), ← hm, bt_last]
    by_cases hx : x = 32
    · rw [if_pos (by rw [hx]; rfl), if_pos (by omega)]
      have he : (⟨(m ++ [x]).toArray⟩ : ByteArray).extract 0 ((m.length : Int)).toNat = ⟨m.toArray⟩ := by
        apply ByteArray.ext
        rw [ByteArray.data_extract]
        simp
      rw [he, hm, trim_l0 n m hm (by simp at hl; omega), hx, trimR_blank]
    · rw [if_neg (fun e => hx (by
        have : x.toNat = 32 := by omega
        exact UInt8.toNat_inj.1 this)), trimR_other _ _ hx]
set_option maxHeartbeats 4000000 in
set_option maxRecDepth 100000 in
theorem trim_calls (l : List UInt8) (hl : l.length ≤ 1000000) (w : World) : Calls Tryd.prog 32 #[.string ⟨l.toArray⟩, .string ⟨#[32]⟩] w fun e w' => e = .returned (.string ⟨(trimR l).toArray⟩) ∧ Below w.heap.size w w' := by
  have hT := strings_trimRightByte.calls (l.length + 1) ⟨l.toArray⟩ 32 _ w (trim_l0 l.length l rfl hl)
  by_cases h0 : l = []
  · subst h0
    have e1 : ((⟨([] : List UInt8).toArray⟩ : ByteArray) == ⟨#[]⟩) = true := by decide
    go_enter Tryd.func32, Tryd.ntmps32
    go_wp2
    go_ret
    exact ⟨rfl, Below.refl _ _⟩
  · have e0 : ¬ (⟨l.toArray⟩ : ByteArray).toList = [] := by rw [ByteArray.toList_eq]; simpa using h0
    have e1 : (⟨l.toArray⟩ : ByteArray).toList.isEmpty = false := by
      cases h : (⟨l.toArray⟩ : ByteArray).toList with
      | nil => exact absurd h e0
      | cons _ _ => rfl
    generalize (⟨(trimR l).toArray⟩ : ByteArray) = r at hT ⊢
    generalize (⟨l.toArray⟩ : ByteArray) = s at hT e1 e0 ⊢
    clear h0 hl
    go_enter Tryd.func32, Tryd.ntmps32
    go_wp2_with (go_at_call 44; refine hT.mono ?_; rintro e w2 ⟨rfl, hD⟩)
    go_ret
    obtain ⟨n, rfl⟩ := hD.out
    exact ⟨rfl, pw_below_drewN (Below.refl _ _) n⟩
end Go.Proofs.YtoidlaonolkgkaaDoor.Ge
