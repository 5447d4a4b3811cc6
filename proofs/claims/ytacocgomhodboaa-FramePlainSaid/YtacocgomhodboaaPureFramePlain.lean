import Derived.Test.YtacocgomhodboaaPx3
import Derived.Test.YtacocgomhodboaaPa
import Derived.Test.YtacocgomhodboaaFl
namespace Go.Proofs.Ytacocgomhodboaa.Pure
open Go.RowKit Go.Proofs.Ytacocgomhodboaa.P Go.Proofs.Ytacocgomhodboaa.Gv2 Go.Proofs.Ytacocgomhodboaa.Pa Go.Proofs.Ytacocgomhodboaa.Pk Go.Proofs.Ytacocgomhodboaa.L3 Go.Proofs.Ytacocgomhodboaa.Lem Go.Proofs.Ytacocgomhodboaa.Fl Go.Proofs.YtacocgomhodboaaW.PrintWords Go.Proofs.YtacocgomhodboaaW.PrintLast
theorem st_ge (l : List UInt8) : l.length ≤ (st l).length := by
  induction l with
  | nil => simp
  | cons c l ih =>
    have e : st (c :: l) = st1 c ++ st l := by simp [st]
    have : 1 ≤ (st1 c).length := by unfold st1; split <;> simp
    rw [e, List.length_append, List.length_cons]; omega
theorem ne_126 (c : UInt8) (h : c ≠ 126) : ¬ ((c.toNat : Nat) : Int) = 126 := fun e => h (UInt8.toNat_inj.1 (by simpa using (by omega : c.toNat = 126)))
theorem plain_l0 (t : ByteArray) (m : List UInt8) (ht : t.data.toList = 126 :: (m ++ [126])) (hm : (126 : UInt8) ∉ m) (hs : t.size ≤ 100000) : ∀ (n i : Nat), 1 ≤ i → i + n + 1 = t.size → duetlaw03_FramePlain.l0 (n + 1) t (i : Int) = some true
  | 0, i, h1, hi => by
    have e : wrap64 ((i : Int) + 1) = ((i + 1 : Nat) : Int) := by unfold wrap64; omega
    unfold duetlaw03_FramePlain.l0
    rw [e, if_neg (by omega)]; rfl
  | n + 1, i, h1, hi => by
    have e : wrap64 ((i : Int) + 1) = ((i + 1 : Nat) : Int) := by unfold wrap64; omega
    have hl : i < t.data.toList.length := by rw [Array.length_toList]; show i < t.size; omega
    have hlen : t.data.toList.length = m.length + 2 := by rw [ht]; simp
    have hz : t.data.toList.length = t.size := Array.length_toList
    have hc : t.data.toList[i] ≠ 126 := by
      obtain ⟨j, rfl⟩ : ∃ j, i = j + 1 := ⟨i - 1, by omega⟩
      simp only [ht, List.getElem_cons_succ]
      rw [List.getElem_append_left (by omega)]
      intro x
      exact hm (x ▸ List.getElem_mem _)
    unfold duetlaw03_FramePlain.l0
    rw [e, if_pos (by omega), if_pos (by omega), if_pos (by omega), bt_u8 t i hl, if_neg (ne_126 _ hc)]
    exact plain_l0 t m ht hm hs n (i + 1) (by omega) (by omega)
theorem FramePlain : duetlaw03_FramePlain.Pure := by
  intro a0 h
  by_cases h1 : a0.size ≤ 2000
  · have ht := pack_list a0
    unfold tailP at ht
    have hm := st_no (sealS a0).data.toList
    have g1 := st_ge (sealS a0).data.toList
    have g2 := st_len (sealS a0).data.toList
    have g3 : (sealS a0).data.toList.length = (sealS a0).size := Array.length_toList
    have g4 := sealS_size a0
    have hz : (packS a0).data.toList.length = (packS a0).size := Array.length_toList
    have hlen : (packS a0).data.toList.length = (st (sealS a0).data.toList).length + 2 := by rw [ht]; simp
    refine ⟨(packS a0).size, ?_⟩
    unfold duetlaw03_FramePlain.f frame_Pack.f
    have e1 : wrap64 ((a0.size : Int) + 5) = ((a0.size + 5 : Nat) : Int) := by unfold wrap64; omega
    have e2 : wrap64 ((wrap64 (2 * (a0.size : Int))) + 8) = ((2 * a0.size + 8 : Nat) : Int) := by unfold wrap64; omega
    have e3 : wrap64 (((packS a0).size : Int) - 1) = (((packS a0).size - 1 : Nat) : Int) := by unfold wrap64; omega
    have b0 : bt (packS a0) 0 = 126 := by
      have := bt_u8 (packS a0) 0 (by omega)
      rw [show ((0 : Nat) : Int) = 0 from rfl] at this
      rw [this]
      simp only [ht, List.getElem_cons_zero]; rfl
    have b1 : bt (packS a0) (((packS a0).size - 1 : Nat) : Int) = 126 := by
      rw [bt_u8 (packS a0) _ (by omega)]
      have e : (packS a0).size - 1 = (st (sealS a0).data.toList).length + 1 := by omega
      simp only [ht, e, List.getElem_cons_succ]
      rw [List.getElem_append_right (Nat.le_refl _)]; simp
    rw [if_neg (by omega), if_neg (by omega), Option.bind_some]
    simp only [if_pos]
    rw [e1, if_neg (by omega), e2, if_neg (by omega), if_pos (by omega), b0, if_pos rfl, e3, if_pos (by omega), if_pos (by omega), b1]
    obtain ⟨k, hk⟩ : ∃ k, (packS a0).size = k + 1 := ⟨(packS a0).size - 1, by omega⟩
    rw [hk]
    show (if ((126 : Int) != 126) = true then some false else duetlaw03_FramePlain.l0 k (packS a0) 1) = some true
    rw [if_neg (by decide)]
    have := plain_l0 (packS a0) _ ht hm (by omega) (k - 1) 1 (by omega) (by omega)
    rw [show k - 1 + 1 = k by omega] at this
    exact this
  · refine ⟨1, ?_⟩
    unfold duetlaw03_FramePlain.f
    rw [if_pos (by omega)]; rfl
end Go.Proofs.Ytacocgomhodboaa.Pure
