/- FrameShared: the walk. -/
import Derived.Test.YtacocgomhodboaaHs
import Derived.Test.YtacocgomhodboaaLq
set_option linter.unusedVariables false
set_option linter.unusedSimpArgs false
namespace Go.Proofs.Ytacocgomhodboaa.Sh
open Go.RowKit Go.Proofs.Ytacocgomhodboaa.Rd Go.Proofs.Ytacocgomhodboaa.Pk Go.Proofs.Ytacocgomhodboaa.Fs Go.Proofs.Ytacocgomhodboaa.Fd Go.Proofs.Ytacocgomhodboaa.Gv2 Go.Proofs.Ytacocgomhodboaa.Fl Go.Proofs.Ytacocgomhodboaa.Hs Go.Proofs.YtacocgomhodboaaW.PrintWords Go.Proofs.YtacocgomhodboaaW.PrintLast
def shS (l : List ByteArray) : ByteArray := ⟨(126 :: l.flatMap tailP).toArray⟩
theorem shS_nil : shS [] = ⟨#[126]⟩ := rfl
theorem shS_snoc (l : List ByteArray) (y : ByteArray) : shS (l ++ [y]) = shS l ++ (packS y).extract 1 (packS y).size := by
  apply ByteArray.ext
  apply Array.ext'
  have h := pack_list y
  have hz : (packS y).data.size = (packS y).size := rfl
  simp only [shS, ByteArray.data_append, ByteArray.data_extract, Array.toList_append, Array.toList_extract, h]
  rw [← hz, ← Array.length_toList, h]
  simp
theorem shS_size (l : List ByteArray) (h : ∀ s ∈ l, s.size ≤ 2000) : (shS l).size ≤ 1 + 4100 * l.length := by
  have : (l.flatMap tailP).length ≤ 4100 * l.length := by
    induction l with
    | nil => simp
    | cons s l ih =>
      have h1 := tailP_len s (h s (List.mem_cons_self ..))
      have h2 := ih (fun t ht => h t (List.mem_cons_of_mem _ ht))
      rw [List.flatMap_cons, List.length_append, List.length_cons]; omega
  show (126 :: l.flatMap tailP).toArray.size ≤ _
  rw [List.size_toArray, List.length_cons]; omega
theorem feed_sh (l : List ByteArray) (h : ∀ s ∈ l, s.size ≤ 2000) : feedF ⟨[], false, 0, []⟩ (shS l).data.toList = ⟨[], false, 0, l⟩ := by
  show feedF ⟨[], false, 0, []⟩ ([126] ++ l.flatMap tailP) = _
  rw [feed_app, feed_mark, feed_tails l 0 [] h]; rfl
set_option maxHeartbeats 2000000 in
set_option maxRecDepth 100000 in
theorem shared_ok (A : Option Addr) (c : Nat) (xs : List ByteArray) (w : World) (hC : Kd.C Kd.string w A xs.length xs) (hc : xs.length ≤ c) (hs : shortB xs = true) :
    Calls Try.prog 9 #[.slice A xs.length c] w fun e w' => e = .returned (.bool true) ∧ Below w.heap.size w w' := by
  have hsh := short_calls A c xs w hC hc
  rw [hs] at hsh
  have hlen := ((shortB_iff xs).1 hs).1
  have HC := Lib.hid hC
  have hcc := Lib.hid hc
  clear hC hs hc
  go_enter Try.func9, Try.ntmps9
  go_wp2_with (go_at_call 13; refine hsh.mono ?_; rintro e w1 ⟨rfl, hD⟩)
  have hB1 := Lib.hid (Hs.drawn_below hD)
  have h0 : Hid (Value.string ⟨#[126]⟩ = .string (shS (xs.take 0))) := Lib.hid rfl
  clear hD hsh
  go_loopw [3, 4] (fun v3 v4 wr => ∃ k : Nat, v4 = .int .i64 k ∧ k ≤ xs.length ∧ Hid (v3 = .string (shS (xs.take k))) ∧ Hid (∀ s ∈ xs.take k, s.size ≤ 2000) ∧ Hid (Below w.heap.size w wr)) (fun _ v4 _ => xs.length - (intOf v4).toNat)
  case atStart => exact ⟨0, rfl, Nat.zero_le _, h0, Lib.hid (by simp), hB1⟩
  case round =>
    clear hB1 h0
    obtain ⟨k, rfl, hk, HV, HS, HB⟩ := hrel
    obtain rfl := HV.out
    clear HV
    by_cases hlt : k < xs.length
    · obtain ⟨ad, rfl, c0⟩ := Kd.at_string (Kd.C_below HC.out HB.out) (k : Int) (by omega) (by omega)
      rw [rdOf_nat xs k hlt, Int.toNat_natCast] at c0
      have HT : Hid (xs.take (k + 1) = xs.take k ++ [xs[k]]) := Lib.hid (List.take_succ_eq_append_getElem hlt)
      have hz := shS_size (xs.take k) HS.out
      have hkl : (xs.take k).length ≤ 40 := by rw [List.length_take]; omega
      have HZ : Hid ((shS (xs.take k)).size ≤ 170000) := Lib.hid (by omega)
      clear hz hkl
      generalize xs[k] = y at c0 HT
      by_cases hy : y.size ≤ 2000
      · have hpz := packS_size y
        have hpt := tailP_len y hy
        have hp1 : (1 : Int) ≤ ((packS y).size : Nat) := by omega
        have hp2 : (packS y).size ≤ 5000 := by omega
        have hp3 : ¬ ((packS y).size : Int) < 2 := by omega
        have hsz := HZ.out
        have hcat : ¬ 9223372036854775807 < (shS (xs.take k)).size + ((packS y).size - 1) := by omega
        have HX : Hid (shS (xs.take (k + 1)) = shS (xs.take k) ++ (packS y).extract 1 (packS y).size) := Lib.hid (by rw [HT.out, shS_snoc])
        have HS2 : Hid (∀ s ∈ xs.take (k + 1), s.size ≤ 2000) := Lib.hid (by
          rw [HT.out]
          intro s hs
          rcases List.mem_append.1 hs with hs | hs
          · exact HS.out s hs
          · rw [List.mem_singleton.1 hs]; exact hy)
        have hP := fun W => pack_calls y hy W
        clear hpz hpt hy HT
        generalize packS y = py at *
        generalize shS (xs.take k) = sk at *
        go_wp2_with (go_at_call 11; refine (hP _).mono ?_; rintro e w3 ⟨rfl, hB3⟩)
        go_roundw
        case rel => exact ⟨k + 1, by go_num, by omega, Lib.hid (by rw [HX.out]), HS2, Lib.hid (below_then HB.out HB.out.size hB3)⟩
        case measure => simp [intOf]; omega
      · have hP := Pack_long y (by omega)
        go_wp2_with (first
          | (go_at_call 11; refine (hP _).mono ?_; rintro e w3 ⟨rfl, hB3⟩; have HB3 := Lib.hid (below_then HB.out HB.out.size hB3); clear hB3)
          | (go_at_call 10; refine (Lq.live_calls _).mono ?_; rintro e w4 ⟨rfl, hB4⟩))
        go_ret
        exact ⟨rfl, below_then HB3.out HB3.out.size hB4⟩
    · obtain rfl : k = xs.length := by omega
      rw [List.take_length] at HS ⊢
      have hz := shS_size xs HS.out
      have hN := New_calls (fun _ => none) wr (fun _ _ h => by cases h)
      have HZ : Hid ((shS xs).size ≤ 170000) := Lib.hid (by omega)
      have HFE : Hid (feedF ⟨[], false, 0, []⟩ (shS xs).data.toList = ⟨[], false, 0, xs⟩) := Lib.hid (feed_sh xs HS.out)
      clear hz
      generalize shS xs = y at *
      go_wp2_with (first
        | (go_at_call 14; refine hN.mono ?_; rintro e w3 ⟨g, rfl, hR3⟩; have hF := Feed_calls hR3 (by decide) y (by have := HZ.out; omega) (by decide) (by decide); rw [HFE.out] at hF; clear hR3)
        | (go_at_call 16; go_loud (refine hF.mono ?_; rintro e w4 ⟨q4, A4, c4, rfl, hR4, hS4⟩; obtain ⟨_, hc4, hC4⟩ := own_C hS4.row; have HB4 := Lib.hid (below_then HB.out HB.out.size hR4.bl); have hT := texts_calls A4 A c4 c xs w4 hC4 hc4 (Kd.C_below HC.out HB4.out) hcc.out; have HR4 := Lib.hid hR4; clear hF hR4 hS4 hC4))
        | (go_at_call 15; go_loud (refine hT.mono ?_; rintro e w5 ⟨rfl, hD⟩; have HR5 := Lib.hid (Lq.Rd.below HR4.out (Hs.drawn_below hD)); clear hD HR4 HB4))
        | (go_at_call 18; go_loud (refine (Bad_calls HR5.out).mono ?_; rintro e w9 ⟨rfl, hw9⟩; subst hw9))
        | (go_at_call 10; refine (Lq.live_calls _).mono ?_; rintro e w6 ⟨rfl, hB6⟩))
      go_ret
      exact ⟨rfl, below_then (below_then HB.out HB.out.size HR5.out.bl) (below_then HB.out HB.out.size HR5.out.bl).size hB6⟩
set_option maxRecDepth 100000 in
theorem shared_law (A : Option Addr) (c : Nat) (xs : List ByteArray) (w : World) (hc : xs.length ≤ c) (hC : Kd.C Kd.string w A xs.length xs) :
    Calls Try.prog 9 #[.slice A xs.length c] w fun e w' => e = .returned (.bool true) ∧ Below w.heap.size w w' := by
  cases hs : shortB xs with
  | true => exact shared_ok A c xs w hC hc hs
  | false =>
    have hsh := short_calls A c xs w hC hc
    rw [hs] at hsh
    clear hs hC
    go_enter Try.func9, Try.ntmps9
    go_wp2_with (first
      | (go_at_call 13; refine hsh.mono ?_; rintro e w1 ⟨rfl, hD⟩; have hB1 := Lib.hid (Hs.drawn_below hD); clear hD)
      | (go_at_call 10; refine (Lq.live_calls _).mono ?_; rintro e w6 ⟨rfl, hB6⟩))
    go_ret
    exact ⟨rfl, below_then hB1.out hB1.out.size hB6⟩
end Go.Proofs.Ytacocgomhodboaa.Sh
