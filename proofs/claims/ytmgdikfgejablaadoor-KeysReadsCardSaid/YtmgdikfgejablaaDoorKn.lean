/- keys.Reader: more: the walk. -/
import Derived.Test.YtmgdikfgejablaaDoorKg
import Derived.Test.YtmgdikfgejablaaDoorKm
import Derived.Test.YtmgdikfgejablaaDoorDr
set_option linter.unusedVariables false
set_option linter.unusedSimpArgs false
namespace Go.Proofs.YtmgdikfgejablaaDoor.Kn
open Go.RowKit Go.Proofs.YtmgdikfgejablaaDoor.Ky Go.Proofs.YtmgdikfgejablaaDoor.Kd Go.Proofs.YtmgdikfgejablaaDoor.Kf Go.Proofs.YtmgdikfgejablaaDoor.Ke Go.Proofs.YtmgdikfgejablaaDoor.Kg Go.Proofs.YtmgdikfgejablaaDoor.Km Go.Proofs.YtmgdikfgejablaaDoorW.PrintWords Go.Proofs.YtmgdikfgejablaaDoorW.PrintLast
/-- The two tables of unicode/utf8 lie as its text lays them. -/
def Laid (w : World) : Prop := Lib.Utf8Tabs 0 1 w
theorem Laid.below {w w1 : World} (h : Laid w) (hb : Below w.heap.size w w1) : Laid w1 :=
  ⟨fun c hc => pw_cell_below hb (h.1 c hc), fun i hi => ⟨pw_cell_below hb (h.2 i hi).1, pw_cell_below hb (h.2 i hi).2⟩⟩
def bstr (l : List Nat) : ByteArray := ⟨(l.map UInt8.ofNat).toArray⟩
theorem bstr_size (l : List Nat) : (bstr l).size = l.length := by show (l.map UInt8.ofNat).toArray.size = _; simp
theorem bstr_at (l : List Nat) (hl : ∀ x ∈ l, x < 256) (j : Nat) : ((bstr l).get! j).toNat = l.getD j 0 := by
  by_cases h : j < l.length
  · have hs : j < (bstr l).size := by rw [bstr_size]; exact h
    have e : (bstr l).get! j = (bstr l)[j]'hs := by simp [ByteArray.get!, getElem!_pos, hs]; rfl
    have e2 : (bstr l)[j]'hs = UInt8.ofNat l[j] := by
      have h3 : j < (l.map UInt8.ofNat).toArray.size := by simpa using h
      show (l.map UInt8.ofNat).toArray[j]'h3 = _
      rw [List.getElem_toArray, List.getElem_map]
    rw [e, e2, List.getD_eq_getElem?_getD, List.getElem?_eq_getElem h, Option.getD_some]
    have := hl _ (List.getElem_mem h)
    rw [UInt8.toNat_ofNat']
    exact Nat.mod_eq_of_lt this
  · have hs : ¬ j < (bstr l).size := by rw [bstr_size]; exact h
    rw [List.getD_eq_getElem?_getD, List.getElem?_eq_none (by omega)]
    have e : (bstr l).get! j = default := by simp [ByteArray.get!, hs, getElem!_neg]
    rw [e]; rfl
theorem decode_go (l : List Nat) (hl : ∀ x ∈ l, x < 256) (h : Whole l) : Lib.decodeGo (bstr l) = if okR l = true then ((valN l).toNat, l.length) else (65533, 1) := by
  have hne : ¬ (bstr l).size = 0 := by
    rw [bstr_size]
    match l, h with
    | b :: r, _ => simp
  unfold Lib.decodeGo
  rw [if_neg hne, Lib.decode_at, bstr_size, bstr_at l hl, bstr_at l hl, bstr_at l hl, bstr_at l hl]
  exact whole_dec l h
theorem decode_calls (l : List Nat) (hl : ∀ x ∈ l, x < 256) (h : Whole l) {W : World} {base q cap : Nat} (hL : Laid W) (ho : W.ownsRow base 5 1 (.slice (some ⟨q, 0, none⟩) l.length cap) l.length (bts l)) :
    Calls Tryd.prog 32 #[.slice (some ⟨q, 0, none⟩) l.length cap] W fun e w' => e = .returned (.tuple #[.int .i32 ((if okR l = true then valN l else 65533 : Int)), .int .i64 ((if okR l = true then l.length else 1 : Nat) : Int)]) ∧ Below W.heap.size W w' := by
  have hd := Any7.utf8_DecodeRune Tryd.drId (bstr l) q 0 cap W hL (fun j hj => by
    rw [bstr_size] at hj
    have := ho.cells (g := q) rfl j (.int .u8 (l[j] : Int)) (by simp [bts, hj])
    rw [bstr_at l hl j, List.getD_eq_getElem?_getD, List.getElem?_eq_getElem hj, Option.getD_some]
    rw [show (⟨q, 0, none⟩ : Addr).add j = ⟨q, 0 + j, none⟩ by simp [Addr.add]; intro e; exact e.symm] at this
    exact this)
  rw [bstr_size, decode_go l hl h] at hd
  refine hd.mono ?_
  rintro e w' ⟨rfl, hb⟩
  refine ⟨?_, hb⟩
  by_cases ho : okR l = true
  · have hp := val_pos l h ho
    simp only [if_pos ho]
    rw [show (((valN l).toNat : Nat) : Int) = valN l by omega]
  · simp only [if_neg ho]; rfl
theorem own_some {W : World} {base n : Nat} {v : Value} {xs : List Value} (h : W.ownsRow base 5 1 v n xs) (hn : 0 < n) : ∃ q cp, v = .slice (some ⟨q, 0, none⟩) n cp := by
  rcases h.2 with ⟨_, e⟩ | ⟨q, cap, cur, hv, _⟩
  · omega
  · exact ⟨q, cap, hv⟩
set_option maxHeartbeats 4000000 in
set_option maxRecDepth 100000 in
theorem more_calls {K : Nat → Option Obj} {w0 W : World} {g : Nat} {fn : Value} {b : Nat} {r : List Nat} {told : List Key} (hL : Laid w0) (h : Kr K w0 W g fn (b :: r) told) (hl : told.length ≤ 900000) (h1 : 194 ≤ b) (h2 : b ≤ 244) (h3 : r.length + 1 < sizeN b) (h4 : ∀ x ∈ r, 128 ≤ x ∧ x ≤ 191) (c : Nat) (hc : c < 256) :
    Calls Tryd.prog 27 #[.pointer (some ⟨g, 0, none⟩), .int .i64 (c : Int)] W (Post K w0 g told (b :: r) c) := by
  have hb : b ≠ 27 := by omega
  have hs4 := (sizeN_ge b).2
  have htk : tk (b :: r) c = decide (128 ≤ c ∧ c ≤ 191) := by unfold tk; simp only [if_neg hb]
  have hkk : kk (b :: r) = (12, 0) := by
    unfold kk
    split
    · rename_i heq; injection heq with e1 e2; exact absurd e1 hb
    · rfl
  unfold Post res
  rw [htk, hkk, mach_more b r c hb]
  clear htk hkk
  by_cases hr : 128 ≤ c ∧ c ≤ 191
  · have d1 : decide ((c : Int) < 128) = false := decide_eq_false (by omega)
    have d2 : decide ((191 : Int) < (c : Int)) = false := decide_eq_false (by omega)
    rw [decide_eq_true hr, if_pos rfl]
    unfold moreM
    rw [if_neg (by omega)]
    have hW := wait_calls h (by simp; omega) c hc (fnV 27 g) ⟨27, rfl⟩
    obtain ⟨bv, tv, hR⟩ := h.ex
    obtain ⟨A, cp, rfl⟩ := own_slice hR.br
    obtain ⟨_, c1, _⟩ := hR.c
    have hbr := hR.br
    rw [bts_nums] at hbr
    obtain ⟨A', c', e, hI⟩ := own_reads hbr
    injection e with e1 e2 e3
    subst e1 e3
    obtain ⟨ad, rfl, c0⟩ := hI.at_ 0 (by omega) (by simp)
    have c0 : W.cell? ad = some (.int .u8 (b : Int)) := by
      rw [show ((0 : Int).toNat) = 0 from rfl] at c0
      have e : ad.add 0 = ad := by cases ad with | mk x y z => cases z <;> rfl
      rw [e] at c0
      simpa [rd] using c0
    clear hbr hI hR
    have hlen : (b :: r).length = r.length + 1 := rfl
    rw [hlen] at c1
    have hpos : (0 : Int) < ((r.length + 1 : Nat) : Int) := by omega
    obtain ⟨l, hl0⟩ : ∃ l, l = b :: (r ++ [c]) := ⟨_, rfl⟩
    have hll : l.length = r.length + 2 := by rw [hl0]; simp
    have hl256 : ∀ x ∈ l, x < 256 := fun x hx => by
      rw [hl0] at hx
      rcases List.mem_cons.1 hx with rfl | hx
      · omega
      · rcases List.mem_append.1 hx with hx | hx
        · have := h4 x hx; omega
        · rw [List.mem_singleton.1 hx]; exact hc
    have hwh : r.length + 2 = sizeN b → Whole l := fun e => by
      rw [hl0]
      refine ⟨h1, h2, by rw [List.length_append]; exact e, fun x hx => ?_⟩
      rcases List.mem_append.1 hx with hx | hx
      · exact h4 x hx
      · rw [List.mem_singleton.1 hx]; exact hr
    have hnx := nx_more g b (r ++ [c]) hb
    rw [← hl0] at hnx ⊢
    replace hW : Calls Tryd.prog 25 #[.pointer (some ⟨g, 0, none⟩), .int .i64 (c : Int), fnV 27 g] W fun e w' => e = .returned (.bool true) ∧ Kr K w0 w' g (fnV 27 g) l told := by rw [hl0]; exact hW
    unfold fnV at hW
    have HLL := Lib.hid hll
    have HL256 := Lib.hid hl256
    have HWH := Lib.hid hwh
    have HNX := Lib.hid hnx
    have HLD := Lib.hid hL
    have H3 := Lib.hid h3
    have HTL := Lib.hid hl
    have hr4 : r.length + 2 ≤ 5 := by omega
    have hcases : (decide ((240 : Int) ≤ (b : Int)) = true ∧ sizeN b = 4) ∨ (decide ((240 : Int) ≤ (b : Int)) = false ∧ decide ((224 : Int) ≤ (b : Int)) = true ∧ sizeN b = 3) ∨ (decide ((240 : Int) ≤ (b : Int)) = false ∧ decide ((224 : Int) ≤ (b : Int)) = false ∧ sizeN b = 2) := by
      unfold sizeN
      by_cases g1 : 240 ≤ b
      · left; exact ⟨decide_eq_true (by omega), if_pos g1⟩
      · right
        by_cases g2 : 224 ≤ b
        · left; exact ⟨decide_eq_false (by omega), decide_eq_true (by omega), by rw [if_neg g1, if_pos g2]⟩
        · right; exact ⟨decide_eq_false (by omega), decide_eq_false (by omega), by rw [if_neg g1, if_neg g2]⟩
    clear hl0 hll hl256 hwh hnx hL h3 hl h hr h1 h2 h4 hb hs4 hlen
    rcases hcases with ⟨dA, hsz⟩ | ⟨dA, dB, hsz⟩ | ⟨dA, dB, hsz⟩
    · have HSZ := Lib.hid hsz
      clear hsz
      by_cases hlt : r.length + 2 < 4
      · have dl : decide ((r.length : Int) + 2 < 4) = true := decide_eq_true (by omega)
        rw [if_pos (by rw [HSZ.out]; exact hlt)]
        clear hlt
        go_enter Tryd.func27, Tryd.ntmps27
        go_wp2_with (go_at_call 25; go_loud (refine hW.mono ?_; rintro e w1 ⟨rfl, hK1⟩; obtain ⟨bv1, tv1, hR1⟩ := hK1.ex; have hbr1 := hR1.br; rw [HLL.out] at hbr1; obtain ⟨A1, cp1, rfl⟩ := own_slice hbr1; obtain ⟨_, x1, _⟩ := hR1.c; have HK1 := Lib.hid hK1; clear hK1 hR1 hbr1))
        go_ret
        exact ⟨rfl, by rw [HNX.out, List.append_nil]; exact HK1.out⟩
      · have dl : decide ((r.length : Int) + 2 < 4) = false := decide_eq_false (by omega)
        have he : r.length + 2 = 4 := by have := H3.out; rw [HSZ.out] at this; omega
        have HWL := Lib.hid (HWH.out (by rw [HSZ.out]; exact he))
        have HE := Lib.hid he
        rw [if_neg (by rw [HSZ.out]; exact hlt), nx_nil]
        clear hlt he
        have hk := key_ok l
        by_cases hok : okR l = true
        · have hvp := val_pos l HWL.out hok
          have hdec := fun (W1 : World) (q cap : Nat) (hL : Laid W1) (ho : W1.ownsRow w0.heap.size 5 1 (.slice (some ⟨q, 0, none⟩) l.length cap) l.length (bts l)) => decode_calls l HL256.out HWL.out hL ho
          simp only [if_pos hok] at hk hdec
          rw [HLL.out, HE.out] at hdec
          generalize valN l = v at *
          have HK := Lib.hid hk
          clear hk hok
          obtain ⟨p1, p2⟩ := hvp
          have hcv : v % 18446744073709551616 = v := by omega
          by_cases g1 : 128 ≤ v ∧ v ≤ 159
          · have e1 : decide ((128 : Int) ≤ v) = true := decide_eq_true g1.1
            have e2 : decide (v ≤ 159) = true := decide_eq_true g1.2
            have HK2 : Hid (runeKey l = (12, 0)) := Lib.hid (by rw [HK.out, if_pos g1])
            clear g1 HK
            go_enter Tryd.func27, Tryd.ntmps27
            go_wp2_with (first
              | (go_at_call 25; go_loud (refine hW.mono ?_; rintro e w1 ⟨rfl, hK1⟩; obtain ⟨bv1, tv1, hR1⟩ := hK1.ex; have hbr1 := hR1.br; rw [HLL.out, HE.out] at hbr1; obtain ⟨q1, cp1, rfl⟩ := own_some hbr1 (by decide); obtain ⟨_, x1, _⟩ := hR1.c; have hd := hdec w1 q1 cp1 (HLD.out.below hK1.bl) hbr1; have HK1 := Lib.hid hK1; clear hK1 hR1 hbr1 hdec))
              | (go_at_call 32; go_loud (refine hd.mono ?_; rintro e w2 ⟨rfl, hB2⟩; have HK3 := Lib.hid (HK1.out.below hB2); clear hB2))
              | (go_at_call 21; go_loud (refine (tell_calls HK3.out (by have := HTL.out; omega) 12 0).mono ?_; rintro e w3 ⟨rfl, hK4⟩)))
            go_ret
            rw [HK2.out]
            exact ⟨rfl, hK4⟩
          · have HK2 : Hid (runeKey l = (1, v)) := Lib.hid (by rw [HK.out, if_neg g1])
            by_cases g2 : 128 ≤ v
            · have e1 : decide ((128 : Int) ≤ v) = true := decide_eq_true g2
              have e2 : decide (v ≤ 159) = false := decide_eq_false (by omega)
              clear g1 g2 HK
              go_enter Tryd.func27, Tryd.ntmps27
              go_wp2_with (first
                | (go_at_call 25; go_loud (refine hW.mono ?_; rintro e w1 ⟨rfl, hK1⟩; obtain ⟨bv1, tv1, hR1⟩ := hK1.ex; have hbr1 := hR1.br; rw [HLL.out, HE.out] at hbr1; obtain ⟨q1, cp1, rfl⟩ := own_some hbr1 (by decide); obtain ⟨_, x1, _⟩ := hR1.c; have hd := hdec w1 q1 cp1 (HLD.out.below hK1.bl) hbr1; have HK1 := Lib.hid hK1; clear hK1 hR1 hbr1 hdec))
                | (go_at_call 32; go_loud (refine hd.mono ?_; rintro e w2 ⟨rfl, hB2⟩; have HK3 := Lib.hid (HK1.out.below hB2); clear hB2))
                | (go_at_call 21; go_loud (refine (tell_calls HK3.out (by have := HTL.out; omega) 1 v).mono ?_; rintro e w3 ⟨rfl, hK4⟩)))
              go_ret
              rw [HK2.out]
              exact ⟨rfl, hK4⟩
            · have e1 : decide ((128 : Int) ≤ v) = false := decide_eq_false g2
              clear g1 g2 HK
              go_enter Tryd.func27, Tryd.ntmps27
              go_wp2_with (first
                | (go_at_call 25; go_loud (refine hW.mono ?_; rintro e w1 ⟨rfl, hK1⟩; obtain ⟨bv1, tv1, hR1⟩ := hK1.ex; have hbr1 := hR1.br; rw [HLL.out, HE.out] at hbr1; obtain ⟨q1, cp1, rfl⟩ := own_some hbr1 (by decide); obtain ⟨_, x1, _⟩ := hR1.c; have hd := hdec w1 q1 cp1 (HLD.out.below hK1.bl) hbr1; have HK1 := Lib.hid hK1; clear hK1 hR1 hbr1 hdec))
                | (go_at_call 32; go_loud (refine hd.mono ?_; rintro e w2 ⟨rfl, hB2⟩; have HK3 := Lib.hid (HK1.out.below hB2); clear hB2))
                | (go_at_call 21; go_loud (refine (tell_calls HK3.out (by have := HTL.out; omega) 1 v).mono ?_; rintro e w3 ⟨rfl, hK4⟩)))
              go_ret
              rw [HK2.out]
              exact ⟨rfl, hK4⟩
        · have hdec := fun (W1 : World) (q cap : Nat) (hL : Laid W1) (ho : W1.ownsRow w0.heap.size 5 1 (.slice (some ⟨q, 0, none⟩) l.length cap) l.length (bts l)) => decode_calls l HL256.out HWL.out hL ho
          simp only [if_neg hok] at hk hdec
          rw [HLL.out, HE.out] at hdec
          have HK2 := Lib.hid hk
          clear hk hok
          go_enter Tryd.func27, Tryd.ntmps27
          go_wp2_with (first
            | (go_at_call 25; go_loud (refine hW.mono ?_; rintro e w1 ⟨rfl, hK1⟩; obtain ⟨bv1, tv1, hR1⟩ := hK1.ex; have hbr1 := hR1.br; rw [HLL.out, HE.out] at hbr1; obtain ⟨q1, cp1, rfl⟩ := own_some hbr1 (by decide); obtain ⟨_, x1, _⟩ := hR1.c; have hd := hdec w1 q1 cp1 (HLD.out.below hK1.bl) hbr1; have HK1 := Lib.hid hK1; clear hK1 hR1 hbr1 hdec))
            | (go_at_call 32; go_loud (refine hd.mono ?_; rintro e w2 ⟨rfl, hB2⟩; have HK3 := Lib.hid (HK1.out.below hB2); clear hB2))
            | (go_at_call 21; go_loud (refine (tell_calls HK3.out (by have := HTL.out; omega) 12 0).mono ?_; rintro e w3 ⟨rfl, hK4⟩)))
          go_ret
          rw [HK2.out]
          exact ⟨rfl, hK4⟩
    · have HSZ := Lib.hid hsz
      clear hsz
      by_cases hlt : r.length + 2 < 3
      · have dl : decide ((r.length : Int) + 2 < 3) = true := decide_eq_true (by omega)
        rw [if_pos (by rw [HSZ.out]; exact hlt)]
        clear hlt
        go_enter Tryd.func27, Tryd.ntmps27
        go_wp2_with (go_at_call 25; go_loud (refine hW.mono ?_; rintro e w1 ⟨rfl, hK1⟩; obtain ⟨bv1, tv1, hR1⟩ := hK1.ex; have hbr1 := hR1.br; rw [HLL.out] at hbr1; obtain ⟨A1, cp1, rfl⟩ := own_slice hbr1; obtain ⟨_, x1, _⟩ := hR1.c; have HK1 := Lib.hid hK1; clear hK1 hR1 hbr1))
        go_ret
        exact ⟨rfl, by rw [HNX.out, List.append_nil]; exact HK1.out⟩
      · have dl : decide ((r.length : Int) + 2 < 3) = false := decide_eq_false (by omega)
        have he : r.length + 2 = 3 := by have := H3.out; rw [HSZ.out] at this; omega
        have HWL := Lib.hid (HWH.out (by rw [HSZ.out]; exact he))
        have HE := Lib.hid he
        rw [if_neg (by rw [HSZ.out]; exact hlt), nx_nil]
        clear hlt he
        have hk := key_ok l
        by_cases hok : okR l = true
        · have hvp := val_pos l HWL.out hok
          have hdec := fun (W1 : World) (q cap : Nat) (hL : Laid W1) (ho : W1.ownsRow w0.heap.size 5 1 (.slice (some ⟨q, 0, none⟩) l.length cap) l.length (bts l)) => decode_calls l HL256.out HWL.out hL ho
          simp only [if_pos hok] at hk hdec
          rw [HLL.out, HE.out] at hdec
          generalize valN l = v at *
          have HK := Lib.hid hk
          clear hk hok
          obtain ⟨p1, p2⟩ := hvp
          have hcv : v % 18446744073709551616 = v := by omega
          by_cases g1 : 128 ≤ v ∧ v ≤ 159
          · have e1 : decide ((128 : Int) ≤ v) = true := decide_eq_true g1.1
            have e2 : decide (v ≤ 159) = true := decide_eq_true g1.2
            have HK2 : Hid (runeKey l = (12, 0)) := Lib.hid (by rw [HK.out, if_pos g1])
            clear g1 HK
            go_enter Tryd.func27, Tryd.ntmps27
            go_wp2_with (first
              | (go_at_call 25; go_loud (refine hW.mono ?_; rintro e w1 ⟨rfl, hK1⟩; obtain ⟨bv1, tv1, hR1⟩ := hK1.ex; have hbr1 := hR1.br; rw [HLL.out, HE.out] at hbr1; obtain ⟨q1, cp1, rfl⟩ := own_some hbr1 (by decide); obtain ⟨_, x1, _⟩ := hR1.c; have hd := hdec w1 q1 cp1 (HLD.out.below hK1.bl) hbr1; have HK1 := Lib.hid hK1; clear hK1 hR1 hbr1 hdec))
              | (go_at_call 32; go_loud (refine hd.mono ?_; rintro e w2 ⟨rfl, hB2⟩; have HK3 := Lib.hid (HK1.out.below hB2); clear hB2))
              | (go_at_call 21; go_loud (refine (tell_calls HK3.out (by have := HTL.out; omega) 12 0).mono ?_; rintro e w3 ⟨rfl, hK4⟩)))
            go_ret
            rw [HK2.out]
            exact ⟨rfl, hK4⟩
          · have HK2 : Hid (runeKey l = (1, v)) := Lib.hid (by rw [HK.out, if_neg g1])
            by_cases g2 : 128 ≤ v
            · have e1 : decide ((128 : Int) ≤ v) = true := decide_eq_true g2
              have e2 : decide (v ≤ 159) = false := decide_eq_false (by omega)
              clear g1 g2 HK
              go_enter Tryd.func27, Tryd.ntmps27
              go_wp2_with (first
                | (go_at_call 25; go_loud (refine hW.mono ?_; rintro e w1 ⟨rfl, hK1⟩; obtain ⟨bv1, tv1, hR1⟩ := hK1.ex; have hbr1 := hR1.br; rw [HLL.out, HE.out] at hbr1; obtain ⟨q1, cp1, rfl⟩ := own_some hbr1 (by decide); obtain ⟨_, x1, _⟩ := hR1.c; have hd := hdec w1 q1 cp1 (HLD.out.below hK1.bl) hbr1; have HK1 := Lib.hid hK1; clear hK1 hR1 hbr1 hdec))
                | (go_at_call 32; go_loud (refine hd.mono ?_; rintro e w2 ⟨rfl, hB2⟩; have HK3 := Lib.hid (HK1.out.below hB2); clear hB2))
                | (go_at_call 21; go_loud (refine (tell_calls HK3.out (by have := HTL.out; omega) 1 v).mono ?_; rintro e w3 ⟨rfl, hK4⟩)))
              go_ret
              rw [HK2.out]
              exact ⟨rfl, hK4⟩
            · have e1 : decide ((128 : Int) ≤ v) = false := decide_eq_false g2
              clear g1 g2 HK
              go_enter Tryd.func27, Tryd.ntmps27
              go_wp2_with (first
                | (go_at_call 25; go_loud (refine hW.mono ?_; rintro e w1 ⟨rfl, hK1⟩; obtain ⟨bv1, tv1, hR1⟩ := hK1.ex; have hbr1 := hR1.br; rw [HLL.out, HE.out] at hbr1; obtain ⟨q1, cp1, rfl⟩ := own_some hbr1 (by decide); obtain ⟨_, x1, _⟩ := hR1.c; have hd := hdec w1 q1 cp1 (HLD.out.below hK1.bl) hbr1; have HK1 := Lib.hid hK1; clear hK1 hR1 hbr1 hdec))
                | (go_at_call 32; go_loud (refine hd.mono ?_; rintro e w2 ⟨rfl, hB2⟩; have HK3 := Lib.hid (HK1.out.below hB2); clear hB2))
                | (go_at_call 21; go_loud (refine (tell_calls HK3.out (by have := HTL.out; omega) 1 v).mono ?_; rintro e w3 ⟨rfl, hK4⟩)))
              go_ret
              rw [HK2.out]
              exact ⟨rfl, hK4⟩
        · have hdec := fun (W1 : World) (q cap : Nat) (hL : Laid W1) (ho : W1.ownsRow w0.heap.size 5 1 (.slice (some ⟨q, 0, none⟩) l.length cap) l.length (bts l)) => decode_calls l HL256.out HWL.out hL ho
          simp only [if_neg hok] at hk hdec
          rw [HLL.out, HE.out] at hdec
          have HK2 := Lib.hid hk
          clear hk hok
          go_enter Tryd.func27, Tryd.ntmps27
          go_wp2_with (first
            | (go_at_call 25; go_loud (refine hW.mono ?_; rintro e w1 ⟨rfl, hK1⟩; obtain ⟨bv1, tv1, hR1⟩ := hK1.ex; have hbr1 := hR1.br; rw [HLL.out, HE.out] at hbr1; obtain ⟨q1, cp1, rfl⟩ := own_some hbr1 (by decide); obtain ⟨_, x1, _⟩ := hR1.c; have hd := hdec w1 q1 cp1 (HLD.out.below hK1.bl) hbr1; have HK1 := Lib.hid hK1; clear hK1 hR1 hbr1 hdec))
            | (go_at_call 32; go_loud (refine hd.mono ?_; rintro e w2 ⟨rfl, hB2⟩; have HK3 := Lib.hid (HK1.out.below hB2); clear hB2))
            | (go_at_call 21; go_loud (refine (tell_calls HK3.out (by have := HTL.out; omega) 12 0).mono ?_; rintro e w3 ⟨rfl, hK4⟩)))
          go_ret
          rw [HK2.out]
          exact ⟨rfl, hK4⟩
    · have HSZ := Lib.hid hsz
      clear hsz
      by_cases hlt : r.length + 2 < 2
      · have dl : decide ((r.length : Int) + 2 < 2) = true := decide_eq_true (by omega)
        rw [if_pos (by rw [HSZ.out]; exact hlt)]
        clear hlt
        go_enter Tryd.func27, Tryd.ntmps27
        go_wp2_with (go_at_call 25; go_loud (refine hW.mono ?_; rintro e w1 ⟨rfl, hK1⟩; obtain ⟨bv1, tv1, hR1⟩ := hK1.ex; have hbr1 := hR1.br; rw [HLL.out] at hbr1; obtain ⟨A1, cp1, rfl⟩ := own_slice hbr1; obtain ⟨_, x1, _⟩ := hR1.c; have HK1 := Lib.hid hK1; clear hK1 hR1 hbr1))
        go_ret
        exact ⟨rfl, by rw [HNX.out, List.append_nil]; exact HK1.out⟩
      · have dl : decide ((r.length : Int) + 2 < 2) = false := decide_eq_false (by omega)
        have he : r.length + 2 = 2 := by have := H3.out; rw [HSZ.out] at this; omega
        have HWL := Lib.hid (HWH.out (by rw [HSZ.out]; exact he))
        have HE := Lib.hid he
        rw [if_neg (by rw [HSZ.out]; exact hlt), nx_nil]
        clear hlt he
        have hk := key_ok l
        by_cases hok : okR l = true
        · have hvp := val_pos l HWL.out hok
          have hdec := fun (W1 : World) (q cap : Nat) (hL : Laid W1) (ho : W1.ownsRow w0.heap.size 5 1 (.slice (some ⟨q, 0, none⟩) l.length cap) l.length (bts l)) => decode_calls l HL256.out HWL.out hL ho
          simp only [if_pos hok] at hk hdec
          rw [HLL.out, HE.out] at hdec
          generalize valN l = v at *
          have HK := Lib.hid hk
          clear hk hok
          obtain ⟨p1, p2⟩ := hvp
          have hcv : v % 18446744073709551616 = v := by omega
          by_cases g1 : 128 ≤ v ∧ v ≤ 159
          · have e1 : decide ((128 : Int) ≤ v) = true := decide_eq_true g1.1
            have e2 : decide (v ≤ 159) = true := decide_eq_true g1.2
            have HK2 : Hid (runeKey l = (12, 0)) := Lib.hid (by rw [HK.out, if_pos g1])
            clear g1 HK
            go_enter Tryd.func27, Tryd.ntmps27
            go_wp2_with (first
              | (go_at_call 25; go_loud (refine hW.mono ?_; rintro e w1 ⟨rfl, hK1⟩; obtain ⟨bv1, tv1, hR1⟩ := hK1.ex; have hbr1 := hR1.br; rw [HLL.out, HE.out] at hbr1; obtain ⟨q1, cp1, rfl⟩ := own_some hbr1 (by decide); obtain ⟨_, x1, _⟩ := hR1.c; have hd := hdec w1 q1 cp1 (HLD.out.below hK1.bl) hbr1; have HK1 := Lib.hid hK1; clear hK1 hR1 hbr1 hdec))
              | (go_at_call 32; go_loud (refine hd.mono ?_; rintro e w2 ⟨rfl, hB2⟩; have HK3 := Lib.hid (HK1.out.below hB2); clear hB2))
              | (go_at_call 21; go_loud (refine (tell_calls HK3.out (by have := HTL.out; omega) 12 0).mono ?_; rintro e w3 ⟨rfl, hK4⟩)))
            go_ret
            rw [HK2.out]
            exact ⟨rfl, hK4⟩
          · have HK2 : Hid (runeKey l = (1, v)) := Lib.hid (by rw [HK.out, if_neg g1])
            by_cases g2 : 128 ≤ v
            · have e1 : decide ((128 : Int) ≤ v) = true := decide_eq_true g2
              have e2 : decide (v ≤ 159) = false := decide_eq_false (by omega)
              clear g1 g2 HK
              go_enter Tryd.func27, Tryd.ntmps27
              go_wp2_with (first
                | (go_at_call 25; go_loud (refine hW.mono ?_; rintro e w1 ⟨rfl, hK1⟩; obtain ⟨bv1, tv1, hR1⟩ := hK1.ex; have hbr1 := hR1.br; rw [HLL.out, HE.out] at hbr1; obtain ⟨q1, cp1, rfl⟩ := own_some hbr1 (by decide); obtain ⟨_, x1, _⟩ := hR1.c; have hd := hdec w1 q1 cp1 (HLD.out.below hK1.bl) hbr1; have HK1 := Lib.hid hK1; clear hK1 hR1 hbr1 hdec))
                | (go_at_call 32; go_loud (refine hd.mono ?_; rintro e w2 ⟨rfl, hB2⟩; have HK3 := Lib.hid (HK1.out.below hB2); clear hB2))
                | (go_at_call 21; go_loud (refine (tell_calls HK3.out (by have := HTL.out; omega) 1 v).mono ?_; rintro e w3 ⟨rfl, hK4⟩)))
              go_ret
              rw [HK2.out]
              exact ⟨rfl, hK4⟩
            · have e1 : decide ((128 : Int) ≤ v) = false := decide_eq_false g2
              clear g1 g2 HK
              go_enter Tryd.func27, Tryd.ntmps27
              go_wp2_with (first
                | (go_at_call 25; go_loud (refine hW.mono ?_; rintro e w1 ⟨rfl, hK1⟩; obtain ⟨bv1, tv1, hR1⟩ := hK1.ex; have hbr1 := hR1.br; rw [HLL.out, HE.out] at hbr1; obtain ⟨q1, cp1, rfl⟩ := own_some hbr1 (by decide); obtain ⟨_, x1, _⟩ := hR1.c; have hd := hdec w1 q1 cp1 (HLD.out.below hK1.bl) hbr1; have HK1 := Lib.hid hK1; clear hK1 hR1 hbr1 hdec))
                | (go_at_call 32; go_loud (refine hd.mono ?_; rintro e w2 ⟨rfl, hB2⟩; have HK3 := Lib.hid (HK1.out.below hB2); clear hB2))
                | (go_at_call 21; go_loud (refine (tell_calls HK3.out (by have := HTL.out; omega) 1 v).mono ?_; rintro e w3 ⟨rfl, hK4⟩)))
              go_ret
              rw [HK2.out]
              exact ⟨rfl, hK4⟩
        · have hdec := fun (W1 : World) (q cap : Nat) (hL : Laid W1) (ho : W1.ownsRow w0.heap.size 5 1 (.slice (some ⟨q, 0, none⟩) l.length cap) l.length (bts l)) => decode_calls l HL256.out HWL.out hL ho
          simp only [if_neg hok] at hk hdec
          rw [HLL.out, HE.out] at hdec
          have HK2 := Lib.hid hk
          clear hk hok
          go_enter Tryd.func27, Tryd.ntmps27
          go_wp2_with (first
            | (go_at_call 25; go_loud (refine hW.mono ?_; rintro e w1 ⟨rfl, hK1⟩; obtain ⟨bv1, tv1, hR1⟩ := hK1.ex; have hbr1 := hR1.br; rw [HLL.out, HE.out] at hbr1; obtain ⟨q1, cp1, rfl⟩ := own_some hbr1 (by decide); obtain ⟨_, x1, _⟩ := hR1.c; have hd := hdec w1 q1 cp1 (HLD.out.below hK1.bl) hbr1; have HK1 := Lib.hid hK1; clear hK1 hR1 hbr1 hdec))
            | (go_at_call 32; go_loud (refine hd.mono ?_; rintro e w2 ⟨rfl, hB2⟩; have HK3 := Lib.hid (HK1.out.below hB2); clear hB2))
            | (go_at_call 21; go_loud (refine (tell_calls HK3.out (by have := HTL.out; omega) 12 0).mono ?_; rintro e w3 ⟨rfl, hK4⟩)))
          go_ret
          rw [HK2.out]
          exact ⟨rfl, hK4⟩
  · rw [decide_eq_false hr, if_neg (by decide)]
    have hT := tell_calls h (by omega) 12 0
    by_cases h5 : c < 128
    · have d1 : decide ((c : Int) < 128) = true := decide_eq_true (by omega)
      clear h hr h5 h1 h2 h3 h4 hb
      go_enter Tryd.func27, Tryd.ntmps27
      go_wp2_with (go_at_call 21; refine hT.mono ?_; rintro e w2 ⟨rfl, hK2⟩)
      go_ret
      exact ⟨rfl, hK2⟩
    · have d1 : decide ((c : Int) < 128) = false := decide_eq_false (by omega)
      have d2 : decide ((191 : Int) < (c : Int)) = true := decide_eq_true (by omega)
      clear h hr h5 h1 h2 h3 h4 hb
      go_enter Tryd.func27, Tryd.ntmps27
      go_wp2_with (go_at_call 21; refine hT.mono ?_; rintro e w2 ⟨rfl, hK2⟩)
      go_ret
      exact ⟨rfl, hK2⟩
end Go.Proofs.YtmgdikfgejablaaDoor.Kn
