/- FrameTurned: the walk. -/
import Derived.Test.YtacocgomhodboaaTu
set_option linter.unusedVariables false
set_option linter.unusedSimpArgs false
namespace Go.Proofs.Ytacocgomhodboaa.Tn
open Go.RowKit Go.Proofs.Ytacocgomhodboaa.Rd Go.Proofs.Ytacocgomhodboaa.Pk Go.Proofs.Ytacocgomhodboaa.En Go.Proofs.Ytacocgomhodboaa.Fs Go.Proofs.Ytacocgomhodboaa.Fd Go.Proofs.Ytacocgomhodboaa.Gv2 Go.Proofs.Ytacocgomhodboaa.Fl Go.Proofs.Ytacocgomhodboaa.Ft Go.Proofs.Ytacocgomhodboaa.Hs Go.Proofs.Ytacocgomhodboaa.Ct Go.Proofs.Ytacocgomhodboaa.Tu Go.Proofs.YtacocgomhodboaaW.PrintWords Go.Proofs.YtacocgomhodboaaW.PrintLast
theorem u8_eq (x d : UInt8) : (((x.toNat : Nat) : Int) == ((d.toNat : Nat) : Int)) = decide (x = d) := by
  by_cases e : x = d
  · rw [e]; simp
  · rw [decide_eq_false e, beq_eq_false_iff_ne]
    intro e2
    exact e (UInt8.toNat_inj.1 (by omega))
set_option maxHeartbeats 8000000 in
set_option maxRecDepth 100000 in
theorem turned_ok (A : Option Addr) (c : Nat) (xs : List ByteArray) (a : Int) (y : UInt8) (w : World) (hC : Kd.C Kd.string w A xs.length xs) (hc : xs.length ≤ c) (hs : shortB xs = true) (ha : 0 ≤ a) (hy : y ≠ 0) :
    Calls Try.prog 7 #[.slice A xs.length c, .int .i64 a, .int .u8 y.toNat] w fun e w' => e = .returned (.bool true) ∧ Below w.heap.size w w' := by
  have hsh := short_calls A c xs w hC hc
  rw [hs] at hsh
  have hlen := ((shortB_iff xs).1 hs).1
  have HC := Lib.hid hC
  have hcc := Lib.hid hc
  have d1 : decide (a < 0) = false := decide_eq_false (by omega)
  have d2 : (((y.toNat : Nat) : Int) == 0) = false := by
    have := u8_eq y 0
    rw [decide_eq_false hy] at this
    exact this
  have HY := Lib.hid hy
  have HAA := Lib.hid ha
  clear hC hs hc hy ha
  go_enter Try.func7, Try.ntmps7
  go_wp2_with (go_at_call 13; refine hsh.mono ?_; rintro e w1 ⟨rfl, hD⟩)
  have HB1 := Lib.hid (Hs.drawn_below hD)
  have h0 : Hid (Value.string ⟨#[]⟩ = .string (pkS (xs.take 0))) := Lib.hid rfl
  have hr0 : Hid (w1.ownsRow w.heap.size 3 1 (.slice none 0 0) 0 (nums .i64 (froms xs 0))) := Lib.hid (own_nil _ _ _ _)
  clear hD hsh d1 d2
  go_loopw [7, 8, 9] (fun v7 v8 v9 wr => ∃ k : Nat, v9 = .int .i64 k ∧ k ≤ xs.length ∧ Hid (v8 = .string (pkS (xs.take k))) ∧ Hid (∀ s ∈ xs.take k, s.size ≤ 2000) ∧ Hid (wr.ownsRow w.heap.size 3 1 v7 k (nums .i64 (froms xs k))) ∧ Hid (Below w.heap.size w wr)) (fun _ _ v9 _ => xs.length - (intOf v9).toNat)
  case atStart => exact ⟨0, rfl, Nat.zero_le _, h0, Lib.hid (by simp), hr0, HB1⟩
  case round =>
    clear HB1 h0 hr0
    obtain ⟨k, rfl, hk, HV, HS, HR, HB⟩ := hrel
    obtain rfl := HV.out
    clear HV
    obtain ⟨A7, c7, rfl⟩ := own_slice HR.out
    by_cases hlt : k < xs.length
    · obtain ⟨ad, rfl, c0⟩ := Kd.at_string (Kd.C_below HC.out HB.out) (k : Int) (by omega) (by omega)
      rw [rdOf_nat xs k hlt, Int.toNat_natCast] at c0
      have HT : Hid (xs.take (k + 1) = xs.take k ++ [xs[k]]) := Lib.hid (List.take_succ_eq_append_getElem hlt)
      have hz := all_len (xs.take k) HS.out
      have hz2 := pkS_size (xs.take k)
      have hkl : (xs.take k).length ≤ 40 := by rw [List.length_take]; omega
      have HZ : Hid ((pkS (xs.take k)).size ≤ 170000) := Lib.hid (by omega)
      have HFS : Hid ((((pkS (xs.take k)).size : Nat) : Int) = ((fromL xs k : Nat) : Int)) := Lib.hid (by rw [from_size])
      clear hz hz2 hkl
      generalize xs[k] = z at c0 HT
      by_cases hy : z.size ≤ 2000
      · have hpz := packS_size z
        have hpt := tailP_len z hy
        have hp2 : (packS z).size ≤ 5000 := by omega
        have hsz := HZ.out
        have hcat : ¬ 9223372036854775807 < (pkS (xs.take k)).size + (packS z).size := by omega
        have HX : Hid (pkS (xs.take (k + 1)) = pkS (xs.take k) ++ packS z) := Lib.hid (by rw [HT.out, pkS_snoc])
        have HS2 : Hid (∀ s ∈ xs.take (k + 1), s.size ≤ 2000) := Lib.hid (by
          rw [HT.out]
          intro s hs
          rcases List.mem_append.1 hs with hs | hs
          · exact HS.out s hs
          · rw [List.mem_singleton.1 hs]; exact hy)
        have hP := fun W => pack_calls z hy W
        have hfl := Lib.hid (froms_len xs k)
        have hfl2 := Lib.hid (froms_len xs (k + 1))
        have hk40 : k ≤ 40 := by omega
        have HFS2 := froms_succ xs k
        rw [← HFS.out] at HFS2
        have HF2 := Lib.hid HFS2
        clear hpz hpt hy HT HFS HFS2
        generalize packS z = py at *
        generalize pkS (xs.take k) = sk at *
        generalize froms xs k = fk at *
        go_wp2_with (first
          | (go_at_call 11; refine (hP _).mono ?_; rintro e w3 ⟨rfl, hB3⟩; have HB3 := Lib.hid (below_then HB.out HB.out.size hB3); have HR3 := Lib.hid (own_keep HR.out (fun j hj => hB3.block j (own_lt HR.out j hj))); clear hB3)
          | (at_builtin; go_loud (refine print_append_num (w0 := w) w.heap.size rfl _ _ 38 3 .i64 8 rfl Try.underlying38 Tu.info3 (by decide) (.slice A7 k c7) fk sk.size rfl rfl (by rw [hfl.out]; exact HR3.out) HB3.out HB3.out.size (by rw [hfl.out]; omega) ?_; intro v1 w5 hown hB5 hg5 hat5; rw [← HF2.out, hfl2.out] at hown; have HR5 := Lib.hid hown; have HB5 := Lib.hid hB5; obtain ⟨A2, k2, rfl⟩ := own_slice HR5.out; clear hown hB5 hg5 hat5)))
        go_roundw
        case rel => exact ⟨k + 1, by go_num, by omega, Lib.hid (by rw [HX.out]), HS2, HR5, HB5⟩
        case measure => simp [intOf]; omega
      · have hP := Pack_long z (by omega)
        go_wp2_with (first
          | (go_at_call 11; refine (hP _).mono ?_; rintro e w3 ⟨rfl, hB3⟩; have HB3 := Lib.hid (below_then HB.out HB.out.size hB3); clear hB3)
          | (go_at_call 10; refine (Lq.live_calls _).mono ?_; rintro e w4 ⟨rfl, hB4⟩))
        go_ret
        exact ⟨rfl, below_then HB3.out HB3.out.size hB4⟩
    · obtain rfl : k = xs.length := by omega
      rw [List.take_length] at HS ⊢
      have hz := all_len xs HS.out
      have hz2 := pkS_size xs
      have hz1 : (pkS xs).size ≤ 170000 := by omega
      have hN := New_calls (Kv (.slice A7 xs.length c7) wr) wr (fun j o hj => by
        unfold Kv at hj
        by_cases e : (Value.slice A7 xs.length c7).ownBlock = some j
        · rw [if_pos e] at hj; exact hj
        · rw [if_neg e] at hj; cases hj)
      by_cases hem : (pkS xs).size = 0
      · have n1 : (pkS xs).toList.isEmpty = true := by
          rw [ByteArray.toList_eq]
          have : (pkS xs).data.toList = [] := List.length_eq_zero_iff.1 (by rw [Array.length_toList]; exact hem)
          rw [this]; rfl
        clear hz hz2 hz1 hem
        go_wp2_with (first
          | (go_at_call 14; refine hN.mono ?_; rintro e w3 ⟨g, rfl, hR3⟩; have HB3 := Lib.hid (below_then HB.out HB.out.size hR3.bl); clear hR3)
          | (go_at_call 10; refine (Lq.live_calls _).mono ?_; rintro e w4 ⟨rfl, hB4⟩))
        go_ret
        exact ⟨rfl, below_then HB3.out HB3.out.size hB4⟩
      · have n1 : (pkS xs).toList.isEmpty = false := by
          rw [ByteArray.toList_eq]
          cases e : (pkS xs).data.toList with
          | nil => exact absurd (by have := congrArg List.length e; rw [Array.length_toList] at this; exact this) hem
          | cons _ _ => rfl
        obtain ⟨f, hf⟩ : ∃ f : Nat, a.tmod (((pkS xs).size : Nat) : Int) = f := by
          refine ⟨(a.tmod (((pkS xs).size : Nat) : Int)).toNat, ?_⟩
          rw [Int.tmod_eq_emod_of_nonneg HAA.out]
          have := Int.emod_nonneg a (show (((pkS xs).size : Nat) : Int) ≠ 0 by omega)
          omega
        have hfl : f < (pkS xs).size := by
          rw [Int.tmod_eq_emod_of_nonneg HAA.out] at hf
          have := Int.emod_lt_of_pos a (show 0 < (((pkS xs).size : Nat) : Int) by omega)
          omega
        have hfa : f < (all xs).length := by omega
        obtain ⟨x, hx⟩ : ∃ x, x = (all xs)[f] := ⟨_, rfl⟩
        have HX := Lib.hid hx
        clear hx
        have hnz : (((pkS xs).size : Nat) : Int) ≠ 0 := by omega
        have hnz2 : ((((pkS xs).size : Nat) : Int) == 0) = false := by simpa using hnz
        clear hem hz hz2
        go_upto_region 18 with (go_at_call 14; refine hN.mono ?_; rintro e w3 ⟨g, rfl, hR3⟩)
        have kc := print_bytes (P := Try.prog) 9 39 5 Try.underlying9 Try.underlying39 Try.underlying5 (pkS xs) w3
        have hrow := Row8.start w3 (pkS xs)
        have hbel := bytes_below (Below.refl w3.heap.size w3) (Nat.le_refl _) 5 (pkS xs)
        have hpd : (pkS xs).data.toList = all xs := by simp [pkS]
        rw [hpd] at hrow
        go_upto_region 19 with fail
        clear kc
        generalize grownCap w3 (pkS xs).size 0 5 = gc at *
        generalize (Lib.bytesCells w3 5 (pkS xs)).size = nc at hrow
        generalize Lib.bytesWorld w3 5 (pkS xs) = w4 at hrow hbel ⊢
        have c0 := hrow.cell f hfl
        have cf := hrow.frozen f hfl
        rw [List.getD_eq_getElem?_getD, List.getElem?_eq_getElem hfa, Option.getD_some, ← HX.out] at c0
        obtain ⟨z, hz⟩ : ∃ z : UInt8, z = x ^^^ y := ⟨_, rfl⟩
        have hxor := bits_xor_u8 x y
        rw [← hz] at hxor
        have HZ := Lib.hid hz
        clear hz
        have hT := (hrow.set f (z) hfl (by rw [← pkS_size])).string (by rw [List.length_set, ← pkS_size]) gc
        have HR5 : Hid (Rd (Kv (.slice A7 xs.length c7) wr) wr (w4.setCell ⟨w3.heap.size, f, none⟩ (.int .u8 (((z).toNat : Nat) : Int))) g [] false 0) := Lib.hid (Lq.Rd.below hR3 (hbel.setCell (Nat.le_refl _) _))
        have HB4 : Hid (Below w.heap.size w w4) := Lib.hid (below_then (below_then HB.out HB.out.size hR3.bl) (below_then HB.out HB.out.size hR3.bl).size hbel)
        have HW5 : Hid (wr.heap.size ≤ (w4.setCell ⟨w3.heap.size, f, none⟩ (.int .u8 (((z).toNat : Nat) : Int))).heap.size) := Lib.hid HR5.out.bl.size
        have HSZ : Hid (((pkS xs).size) = (all xs).length) := Lib.hid (pkS_size xs)
        clear hrow hbel hR3 hN hpd
        generalize (pkS xs).size = n at *
        generalize w3.heap.size = q at *
        by_cases g1 : x = 126
        · have e1 : (((x.toNat : Nat) : Int) == 126) = true := by rw [g1]; rfl
          clear g1
          go_wp2_with (go_at_call 10; refine (Lq.live_calls _).mono ?_; rintro e w6 ⟨rfl, hB6⟩)
          go_ret
          exact ⟨rfl, below_then HB4.out HB4.out.size hB6⟩
        by_cases g2 : z = 126
        · have e1 : (((x.toNat : Nat) : Int) == 126) = false := by have := u8_eq x 126; rw [decide_eq_false g1] at this; exact this
          have e2 : ((((z).toNat : Nat) : Int) == 126) = true := by rw [g2]; rfl
          clear g1 g2
          go_wp2_with (go_at_call 10; refine (Lq.live_calls _).mono ?_; rintro e w6 ⟨rfl, hB6⟩)
          go_ret
          exact ⟨rfl, below_then HB4.out HB4.out.size hB6⟩
        by_cases g3 : x = 125
        · have e1 : (((x.toNat : Nat) : Int) == 126) = false := by have := u8_eq x 126; rw [decide_eq_false g1] at this; exact this
          have e2 : ((((z).toNat : Nat) : Int) == 126) = false := by have := u8_eq (z) 126; rw [decide_eq_false g2] at this; exact this
          have e3 : (((x.toNat : Nat) : Int) == 125) = true := by rw [g3]; rfl
          clear g1 g2 g3
          go_wp2_with (go_at_call 10; refine (Lq.live_calls _).mono ?_; rintro e w6 ⟨rfl, hB6⟩)
          go_ret
          exact ⟨rfl, below_then HB4.out HB4.out.size hB6⟩
        by_cases g4 : z = 125
        · have e1 : (((x.toNat : Nat) : Int) == 126) = false := by have := u8_eq x 126; rw [decide_eq_false g1] at this; exact this
          have e2 : ((((z).toNat : Nat) : Int) == 126) = false := by have := u8_eq (z) 126; rw [decide_eq_false g2] at this; exact this
          have e3 : (((x.toNat : Nat) : Int) == 125) = false := by have := u8_eq x 125; rw [decide_eq_false g3] at this; exact this
          have e4 : ((((z).toNat : Nat) : Int) == 125) = true := by rw [g4]; rfl
          clear g1 g2 g3 g4
          go_wp2_with (go_at_call 10; refine (Lq.live_calls _).mono ?_; rintro e w6 ⟨rfl, hB6⟩)
          go_ret
          exact ⟨rfl, below_then HB4.out HB4.out.size hB6⟩
        have e1 : (((x.toNat : Nat) : Int) == 126) = false := by have := u8_eq x 126; rw [decide_eq_false g1] at this; exact this
        have e2 : ((((z).toNat : Nat) : Int) == 126) = false := by have := u8_eq (z) 126; rw [decide_eq_false g2] at this; exact this
        have e3 : (((x.toNat : Nat) : Int) == 125) = false := by have := u8_eq x 125; rw [decide_eq_false g3] at this; exact this
        have e4 : ((((z).toNat : Nat) : Int) == 125) = false := by have := u8_eq (z) 125; rw [decide_eq_false g4] at this; exact this
        have hF : feedF ⟨[], false, 0, []⟩ ((all xs).set f (z)) = ⟨[], false, 1, rest xs f⟩ := by
          have hzz := HZ.out
          rw [HX.out] at hzz
          rw [hzz]
          exact feed_turned y HY.out xs f hfa [] HS.out (by rw [← HX.out]; exact g1) (by rw [← HX.out]; exact g3) (by rw [← hzz]; exact g2) (by rw [← hzz]; exact g4)
        have hTz : (⟨((all xs).set f (z)).toArray⟩ : ByteArray).size = (all xs).length := by show ((all xs).set f (z)).toArray.size = _; simp
        have hFe := Feed_calls HR5.out (by decide) ⟨((all xs).set f (z)).toArray⟩ (by rw [hTz, ← HSZ.out]; omega) (by decide) (by decide)
        have hTd : (⟨((all xs).set f (z)).toArray⟩ : ByteArray).data.toList = (all xs).set f (z) := by simp
        rw [hTd, hF] at hFe
        clear hF hTd hTz g1 g2 g3 g4
        generalize (⟨((all xs).set f (z)).toArray⟩ : ByteArray) = T at hT hFe
        go_upto_region 24 with (go_at_call 16; go_loud (refine hFe.mono ?_; rintro e w7 ⟨q7, A8, c8, rfl, hR7, hS7⟩))
        have hr7 := row_fed HR.out HW5.out hR7 hS7
        obtain ⟨A7', c7', e7, hI7⟩ := own_reads hr7
        injection e7 with e71 e72 e73
        subst e71 e73
        have HI7 := Lib.hid hI7
        obtain ⟨_, hc8, hC8⟩ := own_C hS7.row
        have HC8 := Lib.hid (And.intro hc8 hC8)
        have HB7 := Lib.hid (below_then HB.out HB.out.size hR7.bl)
        have HC7 := Lib.hid (Kd.C_below HC.out HB7.out)
        have HR7 := Lib.hid hR7
        have h0 : Hid (([] : List ByteArray) ++ left xs f 0 = rest xs f) := Lib.hid (by rw [left_zero]; rfl)
        have HFA := Lib.hid hfa
        clear hR7 hS7 hFe hT hr7 hI7 hc8 hC8 HR5 HW5 HB4 e1 e2 e3 e4 e72 c0 cf hnz hnz2 hf HX HZ hfa
        go_wp2
        go_loopw [16, 17] (fun v16 v17 wq => ∃ (k : Nat) (L : List ByteArray), v17 = .int .i64 k ∧ k ≤ xs.length ∧ L.length ≤ k ∧ Hid (L ++ left xs f k = rest xs f) ∧ Hid (wq.ownsRow w7.heap.size 9 1 v16 L.length (pw_strs L)) ∧ Hid (Below w7.heap.size w7 wq)) (fun _ v17 _ => xs.length - (intOf v17).toNat)
        case atStart => exact ⟨0, [], rfl, Nat.zero_le _, Nat.zero_le _, h0, Lib.hid (own_nil _ _ _ _), Lib.hid (Below.refl _ _)⟩
        case round =>
          clear h0
          obtain ⟨k, L, rfl, hk, hL, HL, HW, HBq⟩ := hrel
          obtain ⟨A9, c9, rfl⟩ := own_slice HW.out
          by_cases hlt : k < xs.length
          · obtain ⟨ad, rfl, x0⟩ := Kd.at_string (Kd.C_below HC7.out HBq.out) (k : Int) (by omega) (by omega)
            rw [rdOf_nat xs k hlt, Int.toNat_natCast] at x0
            obtain ⟨bd, rfl, y0⟩ := (ReadsInt.below HI7.out HBq.out).at_ (k : Int) (by omega) (by omega)
            rw [froms_at xs _ k hlt, Int.toNat_natCast] at y0
            have HST := Lib.hid (left_step xs f k hlt HFA.out)
            obtain ⟨z2, hz2⟩ : ∃ z2, xs[k] = z2 := ⟨_, rfl⟩
            rw [hz2] at x0
            have HZ2 := Lib.hid hz2
            clear hz2
            by_cases hP : fromL xs k ≤ f
            · have dP : decide (fromL xs k ≤ f) = true := decide_eq_true hP
              by_cases hQ : k + 1 = xs.length
              · have dQ : ((k : Int) + 1 == ((xs.length : Nat) : Int)) = true := by simp only [beq_iff_eq]; omega
                have HYE : Hid (fromL xs k ≤ f ∧ (k + 1 = xs.length ∨ f < fromL xs (k + 1))) := Lib.hid ⟨hP, .inl hQ⟩
                clear hP hQ
                have HS2 : Hid (left xs f k = left xs f (k + 1)) := Lib.hid (by have := HST.out; rw [if_pos HYE.out] at this; exact this)
                go_wp2
                go_roundw
                case rel => exact ⟨k + 1, L, by go_num, by omega, by omega, Lib.hid (by rw [← HL.out, HS2.out]), HW, HBq⟩
                case measure => simp [intOf]; omega
              · have dQ : ((k : Int) + 1 == ((xs.length : Nat) : Int)) = false := by simp only [beq_eq_false_iff_ne]; omega
                obtain ⟨bd2, e2, y1⟩ := (ReadsInt.below HI7.out HBq.out).at_ ((k + 1 : Nat) : Int) (by omega) (by omega)
                injection e2 with e2
                subst e2
                rw [froms_at xs _ (k + 1) (by omega), Int.toNat_natCast] at y1
                replace y1 : wr.cell? ⟨bd.block, bd.off + (k + 1), none⟩ = some (.int .i64 ((fromL xs (k + 1) : Nat) : Int)) := y1
                by_cases hR : f < fromL xs (k + 1)
                · have dR : decide (f < fromL xs (k + 1)) = true := decide_eq_true hR
                  have HYE : Hid (fromL xs k ≤ f ∧ (k + 1 = xs.length ∨ f < fromL xs (k + 1))) := Lib.hid ⟨hP, .inr hR⟩
                  have hq2 : k + 1 < xs.length := by omega
                  clear hP hQ hR
                  have HS2 : Hid (left xs f k = left xs f (k + 1)) := Lib.hid (by have := HST.out; rw [if_pos HYE.out] at this; exact this)
                  go_wp2
                  go_roundw
                  case rel => exact ⟨k + 1, L, by go_num, by omega, by omega, Lib.hid (by rw [← HL.out, HS2.out]), HW, HBq⟩
                  case measure => simp [intOf]; omega
                · have dR : decide (f < fromL xs (k + 1)) = false := decide_eq_false hR
                  have HNO : Hid (¬ (fromL xs k ≤ f ∧ (k + 1 = xs.length ∨ f < fromL xs (k + 1)))) := Lib.hid (fun x => by rcases x.2 with e | e; exact hQ e; exact hR e)
                  have hq2 : k + 1 < xs.length := by omega
                  clear hP hQ hR
                  have HS2 : Hid (left xs f k = z2 :: left xs f (k + 1)) := Lib.hid (by have := HST.out; rw [if_neg HNO.out, HZ2.out] at this; exact this)
                  go_wp2_with (at_builtin; go_loud (refine print_append_of (w0 := w7) Value.string w7.heap.size rfl _ _ 27 9 (.string ByteArray.empty) 16 rfl Try.underlying27 Fd.info9 rfl (by decide) (.slice A9 L.length c9) L z2 rfl rfl rfl HW.out HBq.out HBq.out.size (by omega) ?_; intro v1 w9 hown hB9 hg9 hat9; obtain ⟨O2, hO2⟩ : ∃ O2, O2 = L ++ [z2] := ⟨_, rfl⟩; rw [← hO2] at hown; have HO2 := Lib.hid hO2; obtain ⟨A2, k2, rfl⟩ := own_slice hown; have HW9 := Lib.hid hown; have HB9 := Lib.hid hB9; clear hown hB9 hg9 hat9 hO2))
                  go_roundw
                  case rel => exact ⟨k + 1, O2, by go_num, by omega, by rw [HO2.out, List.length_append]; simp; omega, Lib.hid (by rw [HO2.out, ← HL.out, HS2.out, List.append_assoc]; rfl), HW9, HB9⟩
                  case measure => simp [intOf]; omega
            · have dP : decide (fromL xs k ≤ f) = false := decide_eq_false hP
              have HNO : Hid (¬ (fromL xs k ≤ f ∧ (k + 1 = xs.length ∨ f < fromL xs (k + 1)))) := Lib.hid (fun x => hP x.1)
              clear hP
              have HS2 : Hid (left xs f k = z2 :: left xs f (k + 1)) := Lib.hid (by have := HST.out; rw [if_neg HNO.out, HZ2.out] at this; exact this)
              go_wp2_with (at_builtin; go_loud (refine print_append_of (w0 := w7) Value.string w7.heap.size rfl _ _ 27 9 (.string ByteArray.empty) 16 rfl Try.underlying27 Fd.info9 rfl (by decide) (.slice A9 L.length c9) L z2 rfl rfl rfl HW.out HBq.out HBq.out.size (by omega) ?_; intro v1 w9 hown hB9 hg9 hat9; obtain ⟨O2, hO2⟩ : ∃ O2, O2 = L ++ [z2] := ⟨_, rfl⟩; rw [← hO2] at hown; have HO2 := Lib.hid hO2; obtain ⟨A2, k2, rfl⟩ := own_slice hown; have HW9 := Lib.hid hown; have HB9 := Lib.hid hB9; clear hown hB9 hg9 hat9 hO2))
              go_roundw
              case rel => exact ⟨k + 1, O2, by go_num, by omega, by rw [HO2.out, List.length_append]; simp; omega, Lib.hid (by rw [HO2.out, ← HL.out, HS2.out, List.append_assoc]; rfl), HW9, HB9⟩
              case measure => simp [intOf]; omega
          · obtain rfl : k = xs.length := by omega
            have HLE : Hid (L = rest xs f) := Lib.hid (by have := HL.out; rw [left_end, List.append_nil] at this; exact this)
            obtain ⟨_, hc9, hC9⟩ := own_C HW.out
            rw [HLE.out] at hc9 hC9
            rw [HLE.out]
            have hT := texts_calls A8 A9 c8 c9 (rest xs f) wr (Kd.C_below HC8.out.2 HBq.out) HC8.out.1 hC9 hc9
            have HRq := Lib.hid (Lq.Rd.below HR7.out HBq.out)
            clear hc9 hC9
            go_wp2_with (first
              | (go_at_call 15; go_loud (refine hT.mono ?_; rintro e w8 ⟨rfl, hD⟩; have HR8 := Lib.hid (Lq.Rd.below HRq.out (Hs.drawn_below hD)); clear hD))
              | (go_at_call 18; go_loud (refine (Bad_calls HR8.out).mono ?_; rintro e w9 ⟨rfl, hw9⟩; subst hw9))
              | (go_at_call 10; refine (Lq.live_calls _).mono ?_; rintro e w6 ⟨rfl, hB6⟩))
            go_ret
            exact ⟨rfl, below_then (below_then HB.out HB.out.size HR8.out.bl) (below_then HB.out HB.out.size HR8.out.bl).size hB6⟩
set_option maxRecDepth 100000 in
theorem turned_law (A : Option Addr) (c : Nat) (xs : List ByteArray) (a b : Int) (w : World) (hc : xs.length ≤ c) (hC : Kd.C Kd.string w A xs.length xs) (hb : (Lit.int .u8 b).wf = true) :
    Calls Try.prog 7 #[.slice A xs.length c, .int .i64 a, .int .u8 b] w fun e w' => e = .returned (.bool true) ∧ Below w.heap.size w w' := by
  have hsh := short_calls A c xs w hC hc
  obtain ⟨y, rfl⟩ : ∃ y : UInt8, b = ((y.toNat : Nat) : Int) := by
    have hbd : 0 ≤ b ∧ b ≤ 255 := by
      simp [Lit.wf, IntKind.min, IntKind.max, IntKind.signed, IntKind.bits] at hb
      omega
    exact ⟨UInt8.ofNat b.toNat, by simp; omega⟩
  cases hs : shortB xs with
  | true =>
    by_cases ha : 0 ≤ a
    · by_cases hy : y = 0
      · rw [hs] at hsh
        subst hy
        have d1 : decide (a < 0) = false := decide_eq_false (by omega)
        clear hs hC ha hb
        go_enter Try.func7, Try.ntmps7
        go_wp2_with (first
          | (go_at_call 13; refine hsh.mono ?_; rintro e w1 ⟨rfl, hD⟩; have hB1 := Lib.hid (Hs.drawn_below hD); clear hD)
          | (go_at_call 10; refine (Lq.live_calls _).mono ?_; rintro e w6 ⟨rfl, hB6⟩))
        go_ret
        exact ⟨rfl, below_then hB1.out hB1.out.size hB6⟩
      · exact turned_ok A c xs a y w hC hc hs ha hy
    · rw [hs] at hsh
      have d1 : decide (a < 0) = true := decide_eq_true (by omega)
      clear hs hC ha hb
      go_enter Try.func7, Try.ntmps7
      go_wp2_with (first
        | (go_at_call 13; refine hsh.mono ?_; rintro e w1 ⟨rfl, hD⟩; have hB1 := Lib.hid (Hs.drawn_below hD); clear hD)
        | (go_at_call 10; refine (Lq.live_calls _).mono ?_; rintro e w6 ⟨rfl, hB6⟩))
      go_ret
      exact ⟨rfl, below_then hB1.out hB1.out.size hB6⟩
  | false =>
    rw [hs] at hsh
    clear hs hC hb
    go_enter Try.func7, Try.ntmps7
    go_wp2_with (first
      | (go_at_call 13; refine hsh.mono ?_; rintro e w1 ⟨rfl, hD⟩; have hB1 := Lib.hid (Hs.drawn_below hD); clear hD)
      | (go_at_call 10; refine (Lq.live_calls _).mono ?_; rintro e w6 ⟨rfl, hB6⟩))
    go_ret
    exact ⟨rfl, below_then hB1.out hB1.out.size hB6⟩
end Go.Proofs.Ytacocgomhodboaa.Tn
