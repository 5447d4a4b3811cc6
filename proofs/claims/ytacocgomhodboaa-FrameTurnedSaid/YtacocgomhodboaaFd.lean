/- frame.Reader's Feed: the walk. -/
import Derived.Test.YtacocgomhodboaaFs
set_option linter.unusedVariables false
set_option linter.unusedSimpArgs false
namespace Go.Proofs.Ytacocgomhodboaa.Fd
open Go.RowKit Go.Proofs.Ytacocgomhodboaa.Rd Go.Proofs.Ytacocgomhodboaa.Pk Go.Proofs.Ytacocgomhodboaa.Bw Go.Proofs.Ytacocgomhodboaa.En Go.Proofs.Ytacocgomhodboaa.Fs Go.Proofs.YtacocgomhodboaaW.PrintWords Go.Proofs.YtacocgomhodboaaW.PrintLast
theorem info9 : (Try.prog.info? 9).map (fun i => (i.zero, i.size, i.bytes)) = some (some (.string ByteArray.empty), 1, 16) := by kernel_rfl
theorem strs_len (l : List ByteArray) : (pw_strs l).length = l.length := by simp [pw_strs]
theorem step_bad (s : FS) (c : UInt8) : s.bad ≤ (Fs.step s c).bad ∧ (Fs.step s c).bad ≤ s.bad + 1 := by
  unfold Fs.step
  repeat (first | split | (simp; done) | (simp; omega))
theorem step_out (s : FS) (c : UInt8) : (Fs.step s c).out.length ≤ s.out.length + 1 := by
  unfold Fs.step
  split
  · split
    · exact Nat.le_succ _
    · split
      · simp
      · exact Nat.le_succ _
  · split <;> exact Nat.le_succ _
theorem entry {K : Nat → Option Obj} {w0 W : World} {g : Nat} {l : List UInt8} {long : Bool} {bad : Int} (h : Rd K w0 W g l long bad) (y : ByteArray) :
    Rd (Kx K W.heap.size (.slice none 0 0) (Lib.bytesWorld W 5 y)) w0 (Lib.bytesWorld W 5 y) g l long bad ∧ Side K W (Lib.bytesWorld W 5 y) W.heap.size y (.slice none 0 0) [] := by
  have hb := bytes_below (Below.refl W.heap.size W) (Nat.le_refl _) 5 y
  have hsz := Lib.bytesWorld_size W 5 y
  have hn := Lib.bytesWorld_at_new W 5 y
  obtain ⟨p, v, hR⟩ := h.ex
  have hg := blk_lt hR.hb
  refine ⟨⟨below_then h.bl h.bl.size hb, p, v, hR.hp, (hb.block g hg).trans hR.hb, hR.hg, own_keep hR.row (fun j hj => hb.block j (own_lt hR.row j hj)), fun j o hj => ?_⟩, ⟨by omega, Nat.le_refl _, ⟨_, _, hn⟩, fun j hj => Lib.bytesWorld_cell W 5 y j hj, own_nil _ _ _ _, fun j o hj => blk_lt (hR.fr j o hj).1⟩⟩
  unfold Kx at hj
  by_cases hc : j = W.heap.size
  · rw [if_pos (.inl hc)] at hj
    exact ⟨hj, by omega, fun e => by have := own_lt hR.row j e; omega⟩
  · rw [if_neg (fun x => x.elim hc (by simp [Value.ownBlock]))] at hj
    obtain ⟨a, b, d⟩ := hR.fr j o hj
    exact ⟨(hb.block j (blk_lt a)).trans a, b, d⟩
set_option maxHeartbeats 4000000 in
set_option maxRecDepth 100000 in
theorem Feed_calls {K : Nat → Option Obj} {w0 W : World} {g : Nat} {l : List UInt8} {long : Bool} {bad : Int} (h : Rd K w0 W g l long bad) (hl : l.length ≤ 5000) (y : ByteArray) (hy : y.size ≤ 400000) (hb0 : 0 ≤ bad) (hb1 : bad ≤ 1000000000) :
    Calls Try.prog 16 #[.pointer (some ⟨g, 0, none⟩), .string y] W fun e w' => ∃ q A c, e = .returned (.slice A (feedF ⟨l, long, bad, []⟩ y.data.toList).out.length c) ∧
      Rd (Kx K q (.slice A (feedF ⟨l, long, bad, []⟩ y.data.toList).out.length c) w') w0 w' g (feedF ⟨l, long, bad, []⟩ y.data.toList).l (feedF ⟨l, long, bad, []⟩ y.data.toList).long (feedF ⟨l, long, bad, []⟩ y.data.toList).bad ∧
      Side K W w' q y (.slice A (feedF ⟨l, long, bad, []⟩ y.data.toList).out.length c) (feedF ⟨l, long, bad, []⟩ y.data.toList).out := by
  obtain ⟨e1, e2⟩ := entry h y
  have E1 := Lib.hid e1
  have E2 := Lib.hid e2
  have hw0 : Hid (w0.heap.size ≤ W.heap.size) := Lib.hid h.bl.size
  have kc := print_bytes (P := Try.prog) 9 39 5 Try.underlying9 Try.underlying39 Try.underlying5 y W
  have HI := Lib.hid (And.intro hl (And.intro hy (And.intro hb0 hb1)))
  clear h hl hb0 hb1 e1 e2
  go_enter Try.func16, Try.ntmps16
  go_wp2
  clear kc
  generalize grownCap W y.size 0 5 = gc at *
  generalize Lib.bytesWorld W 5 y = w1 at E1 E2 ⊢
  obtain ⟨q, hq⟩ : ∃ q, q = W.heap.size := ⟨_, rfl⟩
  rw [← hq] at E1
  rw [← hq]
  have E3 : Hid (Side K W w1 q y (.slice none 0 0) []) := by rw [hq]; exact E2
  clear E2 hq
  have hR0 : Hid (feedF ⟨l, long, bad, []⟩ (y.data.toList.take 0) = ⟨l, long, bad, []⟩) := Lib.hid rfl
  go_loopw [5, 15] (fun v5 v15 wr => ∃ (k : Nat) (s : FS), v15 = .int .i64 k ∧ k ≤ y.size ∧ Hid (feedF ⟨l, long, bad, []⟩ (y.data.toList.take k) = s) ∧ s.l.length ≤ 5000 ∧ 0 ≤ s.bad ∧ s.bad ≤ 1000000000 + k ∧ s.out.length ≤ k ∧ Hid (Rd (Kx K q v5 wr) w0 wr g s.l s.long s.bad) ∧ Hid (Side K W wr q y v5 s.out)) (fun _ v15 _ => y.size - (intOf v15).toNat)
  case atStart => exact ⟨0, _, rfl, Nat.zero_le _, hR0, HI.out.1, HI.out.2.2.1, by have := HI.out.2.2.2; simpa using this, Nat.zero_le _, E1, E3⟩
  case round =>
    clear hR0 E1 E3
    obtain ⟨k, s, rfl, hk, HS, hsl, hb0, hb1, hout, HR, HX⟩ := hrel
    obtain ⟨A, cp, rfl⟩ := own_slice HX.out.row
    by_cases hlt : k < y.size
    · have hkl : k < y.data.toList.length := by rw [Array.length_toList]; exact hlt
      obtain ⟨c, hc⟩ : ∃ c, c = y.data.toList[k] := ⟨_, rfl⟩
      have c0 := HX.out.at_ k hlt
      rw [List.getD_eq_getElem?_getD, List.getElem?_eq_getElem hkl, Option.getD_some, ← hc] at c0
      have HS2 : Hid (feedF ⟨l, long, bad, []⟩ (y.data.toList.take (k + 1)) = Fs.step s c) := Lib.hid (by rw [List.take_succ_eq_append_getElem hkl, ← hc, feedF_snoc, HS.out])
      clear hc hkl HS
      have hLen := Len_calls HR.out
      by_cases h1 : c = 126
      · have e1 : ((c.toNat : Int) != 126) = false := by rw [h1]; rfl
        by_cases h2 : s.l = []
        · have hL0 : s.l.length = 0 := by rw [h2]; rfl
          rw [hL0] at hLen
          have HT : Hid (Fs.step s c = ⟨[], false, s.bad, s.out⟩) := Lib.hid (by unfold Fs.step; rw [if_pos h1, if_pos h2])
          have hRs := Fs.Hf.reset (Fs.Rd.hf HR.out)
          clear h1 h2
          go_wp2_with (first
            | (go_at_call 22; refine hLen.mono ?_; rintro e w5 ⟨rfl, hw5⟩; subst hw5)
            | (go_at_call 25; refine hRs.mono ?_; rintro e w6 ⟨rfl, hR6⟩; obtain ⟨_, _, g2, f2⟩ := Fs.Hf.bad (Fs.Rd.hf hR6)))
          go_roundw
          case rel =>
            have hR7 := Fs.Rd.setLong hR6 false
            obtain ⟨x1, x2⟩ := HX.out.go (fun j o hj => (Fs.Rd.fr hR7 j o hj).1)
            exact ⟨k + 1, ⟨[], false, s.bad, s.out⟩, by go_num, by omega, Lib.hid (HS2.out.trans HT.out), by simp, hb0, by simp; omega, by simp; omega, Lib.hid (by rw [x2]; exact hR7), Lib.hid x1⟩
          case measure => simp [intOf]; omega
        · have hpos : 0 < s.l.length := List.length_pos_iff.2 h2
          have hE := end_calls HR.out h2 hsl
          cases hok : (endR s.l s.long).2 with
          | true =>
            rw [hok] at hE
            have HT : Hid (Fs.step s c = ⟨[], false, s.bad, s.out ++ [(endR s.l s.long).1]⟩) := Lib.hid (by unfold Fs.step; rw [if_pos h1, if_neg h2, hok]; rfl)
            clear h1 h2 hok
            generalize (endR s.l s.long).1 = t at hE HT
            have hys := HI.out.2.1
            go_wp2_with (first
              | (go_at_call 22; refine hLen.mono ?_; rintro e w5 ⟨rfl, hw5⟩; subst hw5)
              | (go_at_call 24; refine hE.mono ?_; rintro e w6 ⟨rfl, hH6⟩; obtain ⟨x1, x2⟩ := HX.out.go (fun j o hj => (hH6.fr j o hj).1); rw [← x2] at hH6; have HH6 := Lib.hid hH6; have HX6 := Lib.hid x1; clear hH6 x1 x2)
              | (at_builtin; refine print_append W.heap.size rfl _ _ 27 9 (.string ByteArray.empty) 16 rfl Try.underlying27 Fd.info9 rfl (by decide) (.slice A s.out.length cp) (pw_strs s.out) (.string t) rfl rfl rfl (by rw [strs_len]; exact HX6.out.row) (Below.refl W.heap.size _) HX6.out.size (by rw [strs_len]; omega) ?_; intro v1 w7 hown hB7 hgr hat; obtain ⟨y1, y2⟩ := HX6.out.push hw0.out HH6.out hown hgr hat; obtain ⟨O2, hO2⟩ : ∃ O2, O2 = s.out ++ [t] := ⟨_, rfl⟩; rw [← hO2] at y1; have HO2 := Lib.hid hO2; obtain ⟨A2, k2, rfl⟩ := own_slice y1.row; have HX7 := Lib.hid y1; have HH7 := Lib.hid y2; clear y1 y2 hown hB7 hgr hat hO2)
              | (go_at_call 25; refine (Fs.Hf.reset HH7.out).mono ?_; rintro e w8 ⟨rfl, hR8⟩; obtain ⟨_, _, g2, f2⟩ := Fs.Hf.bad (Fs.Rd.hf hR8)))
            go_roundw
            case rel =>
              have hR9 := Fs.Rd.setLong hR8 false
              obtain ⟨x1, x2⟩ := HX7.out.go (fun j o hj => (Fs.Rd.fr hR9 j o hj).1)
              exact ⟨k + 1, ⟨[], false, s.bad, O2⟩, by go_num, by omega, Lib.hid (by rw [HS2.out, HT.out, HO2.out]), by simp, hb0, by simp; omega, by rw [HO2.out]; simp; omega, Lib.hid (by rw [x2]; exact hR9), Lib.hid x1⟩
            case measure => simp [intOf]; omega
          | false =>
            rw [hok] at hE
            have HT : Hid (Fs.step s c = ⟨[], false, s.bad + 1, s.out⟩) := Lib.hid (by unfold Fs.step; rw [if_pos h1, if_neg h2, hok]; rfl)
            clear h1 h2 hok
            generalize (endR s.l s.long).1 = t at hE
            have hwb : IntKind.i64.wrap (s.bad + 1) = s.bad + 1 := by rw [IntKind.wrap_i64]; omega
            go_wp2_with (first
              | (go_at_call 22; refine hLen.mono ?_; rintro e w5 ⟨rfl, hw5⟩; subst hw5)
              | (go_at_call 24; refine hE.mono ?_; rintro e w6 ⟨rfl, hH6⟩; obtain ⟨g3, f3, _, _⟩ := Fs.Hf.bad hH6; have hH7 := Fs.Hf.setBad hH6 (s.bad + 1))
              | (go_at_call 25; refine (Fs.Hf.reset hH7).mono ?_; rintro e w8 ⟨rfl, hR8⟩; obtain ⟨_, _, g2, f2⟩ := Fs.Hf.bad (Fs.Rd.hf hR8)))
            go_roundw
            case rel =>
              have hR9 := Fs.Rd.setLong hR8 false
              obtain ⟨x1, x2⟩ := HX.out.go (fun j o hj => (Fs.Rd.fr hR9 j o hj).1)
              exact ⟨k + 1, ⟨[], false, s.bad + 1, s.out⟩, by go_num, by omega, Lib.hid (HS2.out.trans HT.out), by simp, by simp; omega, by simp; omega, by simp; omega, Lib.hid (by rw [x2]; exact hR9), Lib.hid x1⟩
            case measure => simp [intOf]; omega
      · have e1 : ((c.toNat : Int) != 126) = true := by
          simp only [bne_iff_ne]
          intro e; exact h1 (UInt8.toNat_inj.1 (by simpa using (by omega : c.toNat = 126)))
        by_cases h2 : s.l.length < 5000
        · have d2 : decide ((s.l.length : Int) < 5000) = true := decide_eq_true (by omega)
          have HT : Hid (Fs.step s c = ⟨s.l ++ [c], s.long, s.bad, s.out⟩) := Lib.hid (by unfold Fs.step; rw [if_neg h1, if_pos h2])
          have hW := WriteByte_calls HR.out h2 c
          clear h1
          go_wp2_with (first
            | (go_at_call 22; refine hLen.mono ?_; rintro e w5 ⟨rfl, hw5⟩; subst hw5)
            | (go_at_call 23; refine hW.mono ?_; rintro e w6 ⟨rfl, hR6⟩))
          go_roundw
          case rel =>
            obtain ⟨x1, x2⟩ := HX.out.go (fun j o hj => (Fs.Rd.fr hR6 j o hj).1)
            exact ⟨k + 1, ⟨s.l ++ [c], s.long, s.bad, s.out⟩, by go_num, by omega, Lib.hid (HS2.out.trans HT.out), by simp; omega, hb0, by simp; omega, by simp; omega, Lib.hid (by rw [x2]; exact hR6), Lib.hid x1⟩
          case measure => simp [intOf]; omega
        · have d2 : decide ((s.l.length : Int) < 5000) = false := decide_eq_false (by omega)
          have HT : Hid (Fs.step s c = ⟨s.l, true, s.bad, s.out⟩) := Lib.hid (by unfold Fs.step; rw [if_neg h1, if_neg h2])
          obtain ⟨_, _, g2, f2⟩ := Fs.Hf.bad (Fs.Rd.hf HR.out)
          have hR6 := Lib.hid (Fs.Rd.setLong HR.out true)
          clear h1 h2
          go_wp2_with (go_at_call 22; refine hLen.mono ?_; rintro e w5 ⟨rfl, hw5⟩; subst hw5)
          go_roundw
          case rel =>
            obtain ⟨x1, x2⟩ := HX.out.go (fun j o hj => (Fs.Rd.fr hR6.out j o hj).1)
            exact ⟨k + 1, ⟨s.l, true, s.bad, s.out⟩, by go_num, by omega, Lib.hid (HS2.out.trans HT.out), hsl, hb0, by simp; omega, by simp; omega, Lib.hid (by rw [x2]; exact hR6.out), Lib.hid x1⟩
          case measure => simp [intOf]; omega
    · obtain rfl : k = y.size := by omega
      have HF : Hid (feedF ⟨l, long, bad, []⟩ y.data.toList = s) := Lib.hid (by have := HS.out; rw [List.take_of_length_le (by rw [Array.length_toList]; exact Nat.le_refl _)] at this; exact this)
      go_wp2
      go_ret
      rw [HF.out]
      exact ⟨q, A, cp, rfl, HR.out, HX.out⟩
theorem Feed_nil (y : ByteArray) (w : World) : Calls Try.prog 16 #[.pointer none, .string y] w fun e w' => e = .returned (.slice none 0 0) ∧ w' = w := by
  go_enter Try.func16, Try.ntmps16
  go_wp2
  go_ret
  exact ⟨rfl, rfl⟩
end Go.Proofs.Ytacocgomhodboaa.Fd
