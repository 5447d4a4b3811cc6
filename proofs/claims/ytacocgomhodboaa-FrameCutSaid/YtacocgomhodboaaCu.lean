/- FrameCut: the walk. -/
import Derived.Test.YtacocgomhodboaaCt
set_option linter.unusedVariables false
set_option linter.unusedSimpArgs false
namespace Go.Proofs.Ytacocgomhodboaa.Cu
open Go.RowKit Go.Proofs.Ytacocgomhodboaa.Rd Go.Proofs.Ytacocgomhodboaa.Pk Go.Proofs.Ytacocgomhodboaa.En Go.Proofs.Ytacocgomhodboaa.Fs Go.Proofs.Ytacocgomhodboaa.Fd Go.Proofs.Ytacocgomhodboaa.Gv2 Go.Proofs.Ytacocgomhodboaa.Fl Go.Proofs.Ytacocgomhodboaa.Ft Go.Proofs.Ytacocgomhodboaa.Hs Go.Proofs.Ytacocgomhodboaa.Rf Go.Proofs.Ytacocgomhodboaa.Ct Go.Proofs.YtacocgomhodboaaW.PrintWords Go.Proofs.YtacocgomhodboaaW.PrintLast Go.Proofs.YtacocgomhodboaaW.PrintMore
attribute [local go_sem] min2_int min_two
def sz : Value → Nat | .string s => s.size | _ => 0
theorem empty_iff (s : ByteArray) : s.data.toList = [] ↔ s.size = 0 := by
  rw [← List.length_eq_zero_iff, Array.length_toList]; exact Iff.rfl
theorem cut_feed (s : FS) (r : ByteArray) (n : Nat) : feedF (feedF s (r.extract 0 n).data.toList) (r.extract n r.size).data.toList = feedF s r.data.toList := by
  rw [← feed_app]
  congr 1
  have hz : r.data.toList.length = r.size := Array.length_toList
  simp only [ByteArray.data_extract, Array.toList_extract, List.extract_eq_take_drop, List.drop_zero, Nat.sub_zero]
  rw [List.take_of_length_le (i := r.size - n) (by rw [List.length_drop]; omega), List.take_append_drop]
set_option maxHeartbeats 8000000 in
set_option maxRecDepth 100000 in
theorem cut_ok (A : Option Addr) (c : Nat) (xs : List ByteArray) (ahead : ByteArray) (m : Nat) (w : World) (hC : Kd.C Kd.string w A xs.length xs) (hc : xs.length ≤ c) (hs : shortB xs = true) (ha : ahead.size ≤ 3000) (hm : 1 ≤ m) :
    Calls Try.prog 6 #[.slice A xs.length c, .string ahead, .int .i64 m] w fun e w' => e = .returned (.bool true) ∧ Below w.heap.size w w' := by
  have hsh := short_calls A c xs w hC hc
  rw [hs] at hsh
  have hlen := ((shortB_iff xs).1 hs).1
  have HC := Lib.hid hC
  have hcc := Lib.hid hc
  have d1 : decide ((3000 : Int) < (ahead.size : Nat)) = false := decide_eq_false (by omega)
  have d2 : decide ((m : Int) < 1) = false := decide_eq_false (by omega)
  have HM := Lib.hid hm
  clear hC hs hc hm
  go_enter Try.func6, Try.ntmps6
  go_upto_region 8 with (first
    | (go_at_call 13; refine hsh.mono ?_; rintro e w1 ⟨rfl, hD⟩)
    | (go_at_call 14; refine (New_calls (fun _ => none) _ (fun _ _ h => by cases h)).mono ?_; rintro e w3 ⟨g, rfl, hR3⟩))
  have HB1 := Lib.hid (Hs.drawn_below hD)
  have HR3 := Lib.hid hR3
  clear hD hsh hR3 d1 d2
  go_wp2
  go_loop [9] (fun v9 => ∃ k : Nat, v9 = .int .i64 k ∧ k ≤ ahead.size ∧ Hid ((126 : UInt8) ∉ ahead.data.toList.take k)) (fun v9 => ahead.size - (intOf v9).toNat)
  case atStart => exact ⟨0, rfl, Nat.zero_le _, Lib.hid (by simp)⟩
  case round =>
    obtain ⟨k, rfl, hk, HN⟩ := hrel
    by_cases hlt : k < ahead.size
    · have hkl : k < ahead.data.toList.length := by rw [Array.length_toList]; exact hlt
      obtain ⟨b, hb⟩ : ∃ b, b = ahead.data.toList[k] := ⟨_, rfl⟩
      have hbyte : ((ahead[k]'hlt).toNat : Int) = (b.toNat : Int) := by rw [byte_at, hb]
      have HT : Hid (ahead.data.toList.take (k + 1) = ahead.data.toList.take k ++ [b]) := Lib.hid (by rw [List.take_succ_eq_append_getElem hkl, hb])
      clear hb hkl
      by_cases h1 : b = 126
      · have e1 : ((b.toNat : Int) == 126) = true := by rw [h1]; rfl
        clear h1
        go_wp2_with (go_at_call 10; refine (Lq.live_calls _).mono ?_; rintro e w6 ⟨rfl, hB6⟩)
        go_ret
        exact ⟨rfl, below_then (below_then HB1.out HB1.out.size HR3.out.bl) (below_then HB1.out HB1.out.size HR3.out.bl).size hB6⟩
      · have e1 : ((b.toNat : Int) == 126) = false := by
          simp only [beq_eq_false_iff_ne]
          intro e; exact h1 (UInt8.toNat_inj.1 (by simpa using (by omega : b.toNat = 126)))
        have HN2 : Hid ((126 : UInt8) ∉ ahead.data.toList.take (k + 1)) := Lib.hid (by
          rw [HT.out]
          intro h
          rcases List.mem_append.1 h with h | h
          · exact HN.out h
          · exact h1 (List.mem_singleton.1 h).symm)
        clear h1
        go_wp2
        go_round
        case rel => exact ⟨k + 1, by go_num, by omega, HN2⟩
        case measure => simp [intOf]; omega
    · obtain rfl : k = ahead.size := by omega
      have HNA : Hid ((126 : UInt8) ∉ ahead.data.toList) := Lib.hid (by have := HN.out; rw [List.take_of_length_le (by rw [Array.length_toList]; exact Nat.le_refl _)] at this; exact this)
      clear HN
      go_upto_region 13 with fail
      have hnew := heap_alloc_new w3 (Obj.cells #[.string ⟨([] : List UInt8).toArray⟩, .bool false, .int .i64 0] 33)
      have hsa : (ahead ++ (⟨#[126]⟩ : ByteArray)).size = ahead.size + 1 := ByteArray.size_append
      have hF := refFeed_calls hnew (by decide) (ahead ++ (⟨#[126]⟩ : ByteArray)) (by omega) (by decide) (by decide)
      have hcat : ¬ 9223372036854775807 < ahead.size + 1 := by omega
      clear hnew hsa
      obtain ⟨F, hFe⟩ : ∃ F, F = feedF ⟨[], false, 0, []⟩ (ahead ++ (⟨#[126]⟩ : ByteArray)).data.toList := ⟨_, rfl⟩
      rw [← hFe] at hF
      have HFE := Lib.hid hFe
      clear hFe
      have hW3 : ∀ w5, But w3.heap.size (w3.alloc (Obj.cells #[.string ⟨#[]⟩, .bool false, .int .i64 0] 33)) w5 → Below w3.heap.size w3 w5 := fun w5 h => h.below (below_alloc (Below.refl _ _) _) (Nat.le_refl _) (by simp)
      by_cases hout : F.out = []
      · have hl0 : F.out.length = 0 := by rw [hout]; rfl
        rw [hl0] at hF
        have HOUT := Lib.hid hout
        clear hout hl0
        go_upto_region 16 with (go_at_call 17; go_loud (refine hF.mono ?_; rintro e w5 ⟨A5, c5, rfl, hX5⟩))
        have HR5 := Lib.hid (Lq.Rd.below HR3.out (hW3 w5 hX5.but))
        have h0 : Hid (Value.string ⟨#[]⟩ = .string (pkS (xs.take 0))) := Lib.hid rfl
        clear hX5 hF hW3 HR3 hcat
        go_wp2
        go_loopw [8, 11] (fun v8 v11 wr => ∃ k : Nat, v11 = .int .i64 k ∧ k ≤ xs.length ∧ Hid (v8 = .string (pkS (xs.take k))) ∧ Hid (∀ s ∈ xs.take k, s.size ≤ 2000) ∧ Hid (Rd (fun _ => none) w1 wr g [] false 0)) (fun _ v11 _ => xs.length - (intOf v11).toNat)
        case atStart => exact ⟨0, rfl, Nat.zero_le _, h0, Lib.hid (by simp), HR5⟩
        case round =>
          clear HR5 h0
          obtain ⟨k, rfl, hk, HV, HS, HR⟩ := hrel
          obtain rfl := HV.out
          clear HV
          by_cases hlt : k < xs.length
          · obtain ⟨ad, rfl, c0⟩ := Kd.at_string (Kd.C_below HC.out (below_then HB1.out HB1.out.size HR.out.bl)) (k : Int) (by omega) (by omega)
            rw [rdOf_nat xs k hlt, Int.toNat_natCast] at c0
            have HT : Hid (xs.take (k + 1) = xs.take k ++ [xs[k]]) := Lib.hid (List.take_succ_eq_append_getElem hlt)
            have hz := all_len (xs.take k) HS.out
            have hz2 := pkS_size (xs.take k)
            have hkl : (xs.take k).length ≤ 40 := by rw [List.length_take]; omega
            have HZ : Hid ((pkS (xs.take k)).size ≤ 170000) := Lib.hid (by omega)
            clear hz hz2 hkl
            generalize xs[k] = y at c0 HT
            by_cases hy : y.size ≤ 2000
            · have hpz := packS_size y
              have hpt := tailP_len y hy
              have hp2 : (packS y).size ≤ 5000 := by omega
              have hsz := HZ.out
              have hcat : ¬ 9223372036854775807 < (pkS (xs.take k)).size + (packS y).size := by omega
              have HX : Hid (pkS (xs.take (k + 1)) = pkS (xs.take k) ++ packS y) := Lib.hid (by rw [HT.out, pkS_snoc])
              have HS2 : Hid (∀ s ∈ xs.take (k + 1), s.size ≤ 2000) := Lib.hid (by
                rw [HT.out]
                intro s hs
                rcases List.mem_append.1 hs with hs | hs
                · exact HS.out s hs
                · rw [List.mem_singleton.1 hs]; exact hy)
              have hP := fun W => pack_calls y hy W
              clear hpz hpt hy HT
              generalize packS y = py at *
              generalize pkS (xs.take k) = sk at *
              go_wp2_with (go_at_call 11; refine (hP _).mono ?_; rintro e w6 ⟨rfl, hB6⟩)
              go_roundw
              case rel => exact ⟨k + 1, by go_num, by omega, Lib.hid (by rw [HX.out]), HS2, Lib.hid (Lq.Rd.below HR.out hB6)⟩
              case measure => simp [intOf]; omega
            · have hP := Pack_long y (by omega)
              go_wp2_with (first
                | (go_at_call 11; refine (hP _).mono ?_; rintro e w6 ⟨rfl, hB6⟩; have HR6 := Lib.hid (Lq.Rd.below HR.out hB6); clear hB6)
                | (go_at_call 10; refine (Lq.live_calls _).mono ?_; rintro e w7 ⟨rfl, hB7⟩))
              go_ret
              exact ⟨rfl, below_then (below_then HB1.out HB1.out.size HR6.out.bl) (below_then HB1.out HB1.out.size HR6.out.bl).size hB7⟩
          · obtain rfl : k = xs.length := by omega
            rw [List.take_length] at HS ⊢
            have hz := all_len xs HS.out
            have hz2 := pkS_size xs
            have hz3 : (ahead ++ pkS xs).size = ahead.size + (pkS xs).size := ByteArray.size_append
            have HZ : Hid ((ahead ++ pkS xs).size ≤ 180000) := Lib.hid (by omega)
            have hcat : ¬ 9223372036854775807 < ahead.size + (pkS xs).size := by omega
            have HFE : Hid (feedF ⟨[], false, 0, []⟩ (ahead ++ pkS xs).data.toList = endS ahead xs) := Lib.hid (feed_end ahead xs HS.out HNA.out ha (by rw [← HFE.out]; exact HOUT.out))
            have HCT : Hid (Ct w1 wr g ⟨[], false, 0, []⟩ (.slice none 0 0)) := Lib.hid (Ct.start HR.out)
            clear hz hz2 hz3 HS HR
            generalize hall : ahead ++ pkS xs = al at *
            have HA := Lib.hid hall
            go_upto_region 24 with fail
            go_loopw [8, 14] (fun v8 v14 wr => ∃ (r : ByteArray) (s : FS), v8 = .string r ∧ Hid (feedF s r.data.toList = endS ahead xs) ∧ s.l.length ≤ 5000 ∧ 0 ≤ s.bad ∧ s.bad + r.size ≤ 180000 ∧ s.out.length + r.size ≤ 180000 ∧ Hid (Ct w1 wr g s v14)) (fun v8 _ _ => sz v8)
            case atStart => exact ⟨al, _, rfl, HFE, by simp, by simp, by have := HZ.out; simp; omega, by have := HZ.out; simp; omega, HCT⟩
            case round =>
              clear HFE HCT HA HZ hcat hall
              obtain ⟨r, s, rfl, HF, hsl, hb0, hb1, hout, HX⟩ := hrel
              obtain ⟨A3, cp, rfl⟩ := own_slice HX.out.row
              by_cases hr : r.size = 0
              · have n1 : r.toList.isEmpty = true := by rw [ByteArray.toList_eq, (empty_iff r).2 hr]; rfl
                have hse : s = endS ahead xs := by have := HF.out; rw [(empty_iff r).2 hr] at this; exact this
                have ho : s.out = xs := by
                  rw [hse]; unfold endS
                  by_cases e : xs = []
                  · rw [if_pos e, e]
                  · rw [if_neg e]
                have hX2 : Ct w1 wr g ⟨s.l, s.long, s.bad, xs⟩ (.slice A3 xs.length cp) := by have := HX.out; rw [← ho]; exact this
                have HX2 := Lib.hid hX2
                obtain ⟨_, hc4, hC4⟩ := own_C hX2.row
                have hT := texts_calls A3 A cp c xs wr hC4 hc4 (Kd.C_below HC.out (below_then HB1.out HB1.out.size hX2.rd.bl)) hcc.out
                rw [ho]
                have hz4 : ahead.data.toList.length = ahead.size := Array.length_toList
                have hb : (xs.length = 0 ∧ s.bad = 0) ∨ (0 < xs.length ∧ ahead.data.toList = [] ∧ s.bad = 0) ∨ (0 < xs.length ∧ ahead.toList.isEmpty = false ∧ s.bad = 1) := by
                  rw [hse]; unfold endS
                  by_cases e : xs = []
                  · left; rw [if_pos e, e]; exact ⟨rfl, rfl⟩
                  · right
                    have hp := List.length_pos_iff.2 e
                    rw [if_neg e]
                    by_cases e2 : ahead.data.toList = []
                    · left; exact ⟨hp, e2, by rw [if_pos e2]⟩
                    · right
                      refine ⟨hp, ?_, by rw [if_neg e2]⟩
                      rw [ByteArray.toList_eq]
                      cases e3 : ahead.data.toList with
                      | nil => exact absurd e3 e2
                      | cons _ _ => rfl
                clear hX2 HX hC4 hc4 ho HF hr hse hz4
                rcases hb with ⟨x1, x2⟩ | ⟨x1, x2, x3⟩ | ⟨x1, x2, x3⟩
                · have hn : ¬ 0 < xs.length := by omega
                  clear x1 x2
                  cases hae : ahead.toList.isEmpty
                  all_goals
                    go_wp2_with (first
                      | (go_at_call 15; go_loud (refine hT.mono ?_; rintro e w5 ⟨rfl, hD⟩; have HX5 := Lib.hid (HX2.out.below (Hs.drawn_below hD)); clear hD))
                      | (go_at_call 10; refine (Lq.live_calls _).mono ?_; rintro e w6 ⟨rfl, hB6⟩))
                    go_ret
                    exact ⟨rfl, below_then (below_then HB1.out HB1.out.size HX5.out.rd.bl) (below_then HB1.out HB1.out.size HX5.out.rd.bl).size hB6⟩
                · have hBd := Bad_calls HX2.out.rd
                  have hae : ahead.toList.isEmpty = true := by rw [ByteArray.toList_eq, x2]; rfl
                  simp only [x3] at hBd
                  clear x2 x3
                  go_wp2_with (first
                    | (go_at_call 18; go_loud (refine hBd.mono ?_; rintro e w9 ⟨rfl, hw9⟩; subst hw9))
                    | (go_at_call 15; go_loud (refine hT.mono ?_; rintro e w5 ⟨rfl, hD⟩; have HX5 := Lib.hid (HX2.out.below (Hs.drawn_below hD)); clear hD))
                    | (go_at_call 10; refine (Lq.live_calls _).mono ?_; rintro e w6 ⟨rfl, hB6⟩))
                  go_ret
                  exact ⟨rfl, below_then (below_then HB1.out HB1.out.size HX5.out.rd.bl) (below_then HB1.out HB1.out.size HX5.out.rd.bl).size hB6⟩
                · have hBd := Bad_calls HX2.out.rd
                  simp only [x3] at hBd
                  clear x3
                  go_wp2_with (first
                    | (go_at_call 18; go_loud (refine hBd.mono ?_; rintro e w9 ⟨rfl, hw9⟩; subst hw9))
                    | (go_at_call 15; go_loud (refine hT.mono ?_; rintro e w5 ⟨rfl, hD⟩; have HX5 := Lib.hid (HX2.out.below (Hs.drawn_below hD)); clear hD))
                    | (go_at_call 10; refine (Lq.live_calls _).mono ?_; rintro e w6 ⟨rfl, hB6⟩))
                  go_ret
                  exact ⟨rfl, below_then (below_then HB1.out HB1.out.size HX5.out.rd.bl) (below_then HB1.out HB1.out.size HX5.out.rd.bl).size hB6⟩
              · have n1 : r.toList.isEmpty = false := by
                  rw [ByteArray.toList_eq]
                  cases e : r.data.toList with
                  | nil => exact absurd ((empty_iff r).1 e) hr
                  | cons _ _ => rfl
                obtain ⟨n, hn1, hn2, hn3⟩ : ∃ n : Nat, 1 ≤ n ∧ n ≤ r.size ∧ (if r.size < m then (r.size : Int) else (m : Int)) = (n : Int) := by
                  by_cases h : r.size < m
                  · exact ⟨r.size, by omega, Nat.le_refl _, if_pos h⟩
                  · exact ⟨m, HM.out, by omega, if_neg h⟩
                have hcut := cut_feed s r n
                rw [HF.out] at hcut
                have hy : (r.extract 0 n).data.toList.length = n := by
                  have hz : r.data.toList.length = r.size := Array.length_toList
                  simp only [ByteArray.data_extract, Array.toList_extract, List.extract_eq_take_drop, List.drop_zero, Nat.sub_zero]
                  rw [List.length_take]; omega
                have hys : (r.extract 0 n).size = n := by have hz : (r.extract 0 n).data.toList.length = (r.extract 0 n).size := Array.length_toList; omega
                obtain ⟨f1, f2, f3, f4⟩ := feed_bounds (r.extract 0 n).data.toList ⟨s.l, s.long, s.bad, []⟩
                have hfe := feed_out s.l s.long s.bad s.out (r.extract 0 n).data.toList
                have hse : (⟨s.l, s.long, s.bad, s.out⟩ : FS) = s := rfl
                rw [hse] at hfe
                rw [hfe] at hcut
                have hF1 := Feed_calls HX.out.rd hsl (r.extract 0 n) (by omega) hb0 (by omega)
                clear hfe hse
                generalize feedF ⟨s.l, s.long, s.bad, []⟩ (r.extract 0 n).data.toList = s2 at *
                rw [hy] at f2 f3
                simp only [List.length_nil, Nat.zero_add] at f1 f2 f3 f4
                have hrs : (r.extract n r.size).size = r.size - n := by rw [ByteArray.size_extract]; omega
                have G : Hid ((0 ≤ s2.bad ∧ s2.bad + (r.extract n r.size).size ≤ 180000 ∧ s.out.length + s2.out.length + (r.extract n r.size).size ≤ 180000 ∧ s2.l.length ≤ 5000) ∧ r.size - n < r.size) := Lib.hid ⟨⟨by omega, by omega, by omega, f4 hsl⟩, by omega⟩
                have HCUT := Lib.hid hcut
                have HRS := Lib.hid hrs
                have hgo : (s.out.length + s2.out.length) * 16 ≤ 140737488355328 := by omega
                clear hcut hy hys f1 f2 f3 f4 HF hrs hb1 hout
                go_wp2_with (first
                  | (go_at_call 16; go_loud (refine hF1.mono ?_; rintro e w4 ⟨q4, A4, c4, rfl, hR4, hS4⟩; have HX4 := Lib.hid (HX.out.fed hR4 hS4); obtain ⟨_, _, hC4⟩ := own_C hS4.row; have HRd := Lib.hid (Kd.reads_of_C (enc := Value.string) (d := ByteArray.empty) (h1 := fun _ => rfl) hC4); clear hR4 hS4 hC4))
                  | (at_builtin; go_loud (refine print_append_row_of (w0 := w1) Value.string ByteArray.empty w1.heap.size rfl _ _ 27 9 (.string ByteArray.empty) 16 rfl Try.underlying27 Fd.info9 rfl (by decide) (fun _ => rfl) (.slice A3 s.out.length cp) s.out s2.out A4 _ c4 rfl rfl HX4.out.row HRd.out HX4.out.rd.bl HX4.out.rd.bl.size hgo ?_; intro v1 w5 hown hB5 hg5 hat5; have hX5 := HX4.out.push hown hg5; obtain ⟨O2, hO2⟩ : ∃ O2, O2 = s.out ++ s2.out := ⟨_, rfl⟩; rw [← hO2] at hX5; have HO2 := Lib.hid hO2; obtain ⟨A2, k2, rfl⟩ := own_slice hX5.row; have HX5 := Lib.hid hX5; clear hown hB5 hg5 hat5 hX5 hO2)))
                go_roundw
                case rel => exact ⟨r.extract n r.size, ⟨s2.l, s2.long, s2.bad, O2⟩, rfl, Lib.hid (by rw [HO2.out]; exact HCUT.out), G.out.1.2.2.2, G.out.1.1, G.out.1.2.1, by rw [HO2.out, List.length_append]; exact G.out.1.2.2.1, HX5⟩
                case measure => simp only [sz]; rw [HRS.out]; exact G.out.2
      · have hl0 : 0 < F.out.length := List.length_pos_iff.2 hout
        clear hout
        go_wp2_with (first
          | (go_at_call 17; go_loud (refine hF.mono ?_; rintro e w5 ⟨A5, c5, rfl, hX5⟩; have HR5 := Lib.hid (Lq.Rd.below HR3.out (hW3 w5 hX5.but)); clear hX5))
          | (go_at_call 10; refine (Lq.live_calls _).mono ?_; rintro e w6 ⟨rfl, hB6⟩))
        go_ret
        exact ⟨rfl, below_then (below_then HB1.out HB1.out.size HR5.out.bl) (below_then HB1.out HB1.out.size HR5.out.bl).size hB6⟩
set_option maxRecDepth 100000 in
theorem cut_law (A : Option Addr) (c : Nat) (xs : List ByteArray) (ahead : ByteArray) (m : Int) (w : World) (hc : xs.length ≤ c) (hC : Kd.C Kd.string w A xs.length xs) :
    Calls Try.prog 6 #[.slice A xs.length c, .string ahead, .int .i64 m] w fun e w' => e = .returned (.bool true) ∧ Below w.heap.size w w' := by
  have hsh := short_calls A c xs w hC hc
  cases hs : shortB xs with
  | true =>
    by_cases ha : ahead.size ≤ 3000
    · by_cases hm : 1 ≤ m
      · obtain ⟨k, rfl⟩ : ∃ k : Nat, m = (k : Int) := ⟨m.toNat, by omega⟩
        exact cut_ok A c xs ahead k w hC hc hs ha (by omega)
      · rw [hs] at hsh
        have d1 : decide ((3000 : Int) < (ahead.size : Nat)) = false := decide_eq_false (by omega)
        have d2 : decide (m < 1) = true := decide_eq_true (by omega)
        clear hs hC ha hm
        go_enter Try.func6, Try.ntmps6
        go_wp2_with (first
          | (go_at_call 13; refine hsh.mono ?_; rintro e w1 ⟨rfl, hD⟩; have hB1 := Lib.hid (Hs.drawn_below hD); clear hD)
          | (go_at_call 10; refine (Lq.live_calls _).mono ?_; rintro e w6 ⟨rfl, hB6⟩))
        go_ret
        exact ⟨rfl, below_then hB1.out hB1.out.size hB6⟩
    · rw [hs] at hsh
      have d1 : decide ((3000 : Int) < (ahead.size : Nat)) = true := decide_eq_true (by omega)
      clear hs hC ha
      go_enter Try.func6, Try.ntmps6
      go_wp2_with (first
        | (go_at_call 13; refine hsh.mono ?_; rintro e w1 ⟨rfl, hD⟩; have hB1 := Lib.hid (Hs.drawn_below hD); clear hD)
        | (go_at_call 10; refine (Lq.live_calls _).mono ?_; rintro e w6 ⟨rfl, hB6⟩))
      go_ret
      exact ⟨rfl, below_then hB1.out hB1.out.size hB6⟩
  | false =>
    rw [hs] at hsh
    clear hs hC
    go_enter Try.func6, Try.ntmps6
    go_wp2_with (first
      | (go_at_call 13; refine hsh.mono ?_; rintro e w1 ⟨rfl, hD⟩; have hB1 := Lib.hid (Hs.drawn_below hD); clear hD)
      | (go_at_call 10; refine (Lq.live_calls _).mono ?_; rintro e w6 ⟨rfl, hB6⟩))
    go_ret
    exact ⟨rfl, below_then hB1.out hB1.out.size hB6⟩
end Go.Proofs.Ytacocgomhodboaa.Cu
