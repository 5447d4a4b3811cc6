/- The reference's Feed: the walk. -/
import Derived.Test.YtacocgomhodboaaRb
set_option linter.unusedVariables false
set_option linter.unusedSimpArgs false
namespace Go.Proofs.Ytacocgomhodboaa.Rf
open Go.RowKit Go.Proofs.Ytacocgomhodboaa.Rd Go.Proofs.Ytacocgomhodboaa.Pk Go.Proofs.Ytacocgomhodboaa.Bw Go.Proofs.Ytacocgomhodboaa.En Go.Proofs.Ytacocgomhodboaa.Fs Go.Proofs.Ytacocgomhodboaa.Fd Go.Proofs.Ytacocgomhodboaa.Lem Go.Proofs.Ytacocgomhodboaa.Rb Go.Proofs.Ytacocgomhodboaa.P Go.Proofs.YtacocgomhodboaaW.PrintWords Go.Proofs.YtacocgomhodboaaW.PrintLast
/-- Nothing but the box g may have changed. -/
structure But (g : Nat) (w w' : World) : Prop where
  os : w'.os = w.os
  tape : w'.tape = w.tape
  output : w'.output = w.output
  size : w.heap.size ≤ w'.heap.size
  block : ∀ k, k ≠ g → k < w.heap.size → w'.heap[k]? = w.heap[k]?
theorem But.refl (g : Nat) (w : World) : But g w w := ⟨rfl, rfl, rfl, Nat.le_refl _, fun _ _ _ => rfl⟩
theorem But.trans {g : Nat} {a b c : World} (h : But g a b) (k : But g b c) : But g a c :=
  ⟨k.os.trans h.os, k.tape.trans h.tape, k.output.trans h.output, Nat.le_trans h.size k.size, fun i hg hi => (k.block i hg (Nat.lt_of_lt_of_le hi h.size)).trans (h.block i hg hi)⟩
theorem But.of_below {g : Nat} {a b : World} (h : Below a.heap.size a b) : But g a b := ⟨h.os, h.tape, h.output, h.size, fun i _ hi => h.block i hi⟩
theorem But.set (g i : Nat) (w : World) (u : Value) : But g w (w.setCell ⟨g, i, none⟩ u) := ⟨rfl, rfl, rfl, by simp [World.setCell], fun k hk _ => Below.heap_setCell w ⟨g, i, none⟩ u k hk⟩
theorem But.below {g B : Nat} {a b c : World} (h : But g b c) (hb : Below B a b) (hg : B ≤ g) (hB : B ≤ b.heap.size) : Below B a c :=
  ⟨h.os.trans hb.os, h.tape.trans hb.tape, h.output.trans hb.output, Nat.le_trans hb.size h.size, fun k hk => (h.block k (by omega) (by omega)).trans (hb.block k hk)⟩
/-- The reference's reader in the box h, the row of what is told beside it. -/
structure Rx (W wr : World) (h : Nat) (s : FS) (v : Value) : Prop where
  b : wr.heap[h]? = some (.cells #[.string ⟨s.l.toArray⟩, .bool s.long, .int .i64 s.bad] 33 (0, 0))
  hh : h < W.heap.size
  row : wr.ownsRow W.heap.size 9 1 v s.out.length (pw_strs s.out)
  but : But h W wr
theorem Rx.below {W wr w1 : World} {h : Nat} {s : FS} {v : Value} (H : Rx W wr h s v) (hb : Below wr.heap.size wr w1) : Rx W w1 h s v :=
  ⟨(hb.block h (blk_lt H.b)).trans H.b, H.hh, own_keep H.row (fun j hj => hb.block j (own_lt H.row j hj)), H.but.trans (But.of_below hb)⟩
theorem Rx.set {W wr : World} {h : Nat} {s : FS} {v : Value} (H : Rx W wr h s v) (i : Nat) (u : Value) (s' : FS) (ho : s'.out = s.out)
    (he : (#[.string ⟨s.l.toArray⟩, .bool s.long, .int .i64 s.bad] : Array Value).setIfInBounds i u = #[.string ⟨s'.l.toArray⟩, .bool s'.long, .int .i64 s'.bad]) : Rx W (wr.setCell ⟨h, i, none⟩ u) h s' v :=
  ⟨blk_put H.b i u he, H.hh, by rw [ho]; exact own_setCell H.row (own_ne H.row H.b (by decide)) u, H.but.trans (But.set h i wr u)⟩
theorem Rx.push {W wr w1 : World} {h : Nat} {s : FS} {v v1 : Value} (H : Rx W wr h s v) {t : ByteArray} (hown : w1.ownsRow W.heap.size 9 1 v1 (pw_strs s.out ++ [Value.string t]).length (pw_strs s.out ++ [Value.string t])) (hg : wr.grownBy w1 v.ownBlock) :
    Rx W w1 h ⟨s.l, s.long, s.bad, s.out ++ [t]⟩ v1 := by
  have hne := own_ne H.row H.b (by decide)
  refine ⟨(hg.block h (blk_lt H.b) hne).trans H.b, H.hh, by simpa [pw_strs] using hown, ⟨hg.os.trans H.but.os, hg.tape.trans H.but.tape, hg.output.trans H.but.output, Nat.le_trans H.but.size hg.size, fun k hk hlt => ?_⟩⟩
  exact (hg.block k (Nat.lt_of_lt_of_le hlt H.but.size) (fun e => by have := own_base H.row k e.symm; omega)).trans (H.but.block k hk hlt)
theorem Rx.c {W wr : World} {h : Nat} {s : FS} {v : Value} (H : Rx W wr h s v) : wr.cell? ⟨h, 0, none⟩ = some (.string ⟨s.l.toArray⟩) ∧ wr.cell? ⟨h, 1, none⟩ = some (.bool s.long) ∧ wr.cell? ⟨h, 2, none⟩ = some (.int .i64 s.bad) ∧ wr.frozen? ⟨h, 0, none⟩ = false ∧ wr.frozen? ⟨h, 1, none⟩ = false ∧ wr.frozen? ⟨h, 2, none⟩ = false :=
  ⟨by rw [blk_cell H.b]; rfl, by rw [blk_cell H.b]; rfl, by rw [blk_cell H.b]; rfl, blk_frozen H.b 0, blk_frozen H.b 1, blk_frozen H.b 2⟩
theorem Rx.drew {W wr : World} {h : Nat} {s : FS} {v : Value} (H : Rx W wr h s v) : Rx W wr.drew h s v := H.below (below_drew (Below.refl _ _))
theorem snoc_str (l : List UInt8) (y : ByteArray) (k : Nat) (c : UInt8) (hk : k < y.data.toList.length) (hc : c = y.data.toList[k]) : (⟨l.toArray⟩ : ByteArray) ++ y.extract k (k + 1) = ⟨(l ++ [c]).toArray⟩ := by
  apply ByteArray.ext
  apply Array.ext'
  have e : (y.extract k (k + 1)).data.toList = [c] := by
    rw [ByteArray.data_extract, Array.toList_extract, List.extract_eq_take_drop, List.drop_eq_getElem_cons hk, hc, Nat.add_sub_cancel_left]
    rfl
  rw [ByteArray.data_append, Array.toList_append, e]
theorem byte_at (y : ByteArray) (k : Nat) (hk : k < y.size) : ((y[k]'hk).toNat : Int) = ((y.data.toList[k]'(by rw [Array.length_toList]; exact hk)).toNat : Int) := rfl
set_option maxHeartbeats 4000000 in
set_option maxRecDepth 100000 in
theorem refFeed_calls {W : World} {h : Nat} {l : List UInt8} {long : Bool} {bad : Int} (hb : W.heap[h]? = some (.cells #[.string ⟨l.toArray⟩, .bool long, .int .i64 bad] 33 (0, 0))) (hl : l.length ≤ 5000) (y : ByteArray) (hy : y.size ≤ 400000) (hb0 : 0 ≤ bad) (hb1 : bad ≤ 1000000000) :
    Calls Try.prog 17 #[.pointer (some ⟨h, 0, none⟩), .string y] W fun e w' => ∃ A c, e = .returned (.slice A (feedF ⟨l, long, bad, []⟩ y.data.toList).out.length c) ∧ Rx W w' h (feedF ⟨l, long, bad, []⟩ y.data.toList) (.slice A (feedF ⟨l, long, bad, []⟩ y.data.toList).out.length c) := by
  have HI := Lib.hid (And.intro hl (And.intro hb0 hb1))
  have hX : Hid (Rx W W h ⟨l, long, bad, []⟩ (.slice none 0 0)) := Lib.hid ⟨hb, blk_lt hb, own_nil _ _ _ _, But.refl _ _⟩
  have hR0 : Hid (feedF ⟨l, long, bad, []⟩ (y.data.toList.take 0) = ⟨l, long, bad, []⟩) := Lib.hid rfl
  clear hl hb0 hb1 hb
  go_enter Try.func17, Try.ntmps17
  go_wp2
  go_loopw [5, 6] (fun v5 v6 wr => ∃ (k : Nat) (s : FS), v6 = .int .i64 k ∧ k ≤ y.size ∧ Hid (feedF ⟨l, long, bad, []⟩ (y.data.toList.take k) = s) ∧ s.l.length ≤ 5000 ∧ 0 ≤ s.bad ∧ s.bad ≤ 1000000000 + k ∧ s.out.length ≤ k ∧ Hid (Rx W wr h s v5)) (fun _ v6 _ => y.size - (intOf v6).toNat)
  case atStart => exact ⟨0, _, rfl, Nat.zero_le _, hR0, HI.out.1, HI.out.2.1, by have := HI.out.2.2; simpa using this, Nat.zero_le _, hX⟩
  case round =>
    clear hR0 hX
    obtain ⟨k, s, rfl, hk, HS, hsl, hb0, hb1, hout, HX⟩ := hrel
    obtain ⟨A, cp, rfl⟩ := own_slice HX.out.row
    by_cases hlt : k < y.size
    · have hkl : k < y.data.toList.length := by rw [Array.length_toList]; exact hlt
      obtain ⟨c, hc⟩ : ∃ c, c = y.data.toList[k] := ⟨_, rfl⟩
      have hbyte : ((y[k]'hlt).toNat : Int) = (c.toNat : Int) := by rw [byte_at, hc]
      have HS2 : Hid (feedF ⟨l, long, bad, []⟩ (y.data.toList.take (k + 1)) = Fs.step s c) := Lib.hid (by rw [List.take_succ_eq_append_getElem hkl, ← hc, feedF_snoc, HS.out])
      have HCat : Hid ((⟨s.l.toArray⟩ : ByteArray) ++ y.extract k (k + 1) = ⟨(s.l ++ [c]).toArray⟩) := Lib.hid (snoc_str s.l y k c hkl hc)
      clear hc hkl HS
      obtain ⟨g0, g1, g2, f0, f1, f2⟩ := HX.out.c
      have hsz : (⟨s.l.toArray⟩ : ByteArray).size = s.l.length := by show s.l.toArray.size = _; simp
      by_cases h1 : c = 126
      · have e1 : ((c.toNat : Int) != 126) = false := by rw [h1]; rfl
        obtain ⟨t, is, ⟨kb, hbf⟩, ⟨ko, hof⟩, hE⟩ := ref_end s.l (by omega)
        have HE := Lib.hid (hE s.long)
        have hBa := fun w => duetref03_bare.calls kb ⟨s.l.toArray⟩ t is w hbf
        have hOp := fun w => duetref02_Open.calls ko t (openS t).1 (openS t).2 w hof
        clear hE hbf hof
        generalize openS t = op at HE hOp
        obtain ⟨u, e⟩ := op
        simp only at HE hOp
        go_upto_region 12 with (first
          | (go_at_call 26; refine (hBa _).mono ?_; rintro ee w2 ⟨rfl, hB2⟩)
          | (go_at_call 27; refine (hOp _).mono ?_; rintro ee w3 ⟨rfl, hB3⟩))
        have HX3 := Lib.hid ((HX.out.below hB2).below hB3)
        clear hBa hOp hB2 hB3 g0 g1 g2 f0 f1 f2 HX
        obtain ⟨g0, g1, g2, f0, f1, f2⟩ := HX3.out.c
        by_cases h2 : s.l = []
        · have HT : Hid (Fs.step s c = ⟨[], false, s.bad, s.out⟩) := Lib.hid (by unfold Fs.step; rw [if_pos h1, if_pos h2])
          have hH1 := HX3.out.set 0 (.string ⟨#[]⟩) ⟨[], s.long, s.bad, s.out⟩ rfl rfl
          rw [h2] at g0
          obtain ⟨p0, p1, p2, q0, q1, q2⟩ := hH1.c
          have HH1 := Lib.hid hH1
          clear h1 h2 hH1
          go_wp2
          go_roundw
          case rel => exact ⟨k + 1, ⟨[], false, s.bad, s.out⟩, by go_num, by omega, Lib.hid (HS2.out.trans HT.out), by simp, hb0, by simp; omega, by simp; omega, Lib.hid (HH1.out.set 1 _ ⟨[], false, s.bad, s.out⟩ rfl rfl)⟩
          case measure => simp [intOf]; omega
        · have n1 : s.l.isEmpty = false := by simp [h2]
          have HT : Hid (Fs.step s c = if (endR s.l s.long).2 = true then ⟨[], false, s.bad, s.out ++ [(endR s.l s.long).1]⟩ else ⟨[], false, s.bad + 1, s.out⟩) := Lib.hid (by unfold Fs.step; rw [if_pos h1, if_neg h2])
          clear h1 h2 hsz
          have hok : (is = true ∧ e = 0 ∧ u.size ≤ 2000 ∧ s.long = false) ∨ (is = false ∨ (is = true ∧ (¬ e = 0 ∨ (e = 0 ∧ (¬ u.size ≤ 2000 ∨ (u.size ≤ 2000 ∧ s.long = true)))))) := by
            cases is <;> cases s.long <;> by_cases a : e = 0 <;> by_cases b : u.size ≤ 2000 <;> simp [a, b]
          rcases hok with ⟨b1, b2, b3, b4⟩ | hok
          · have hyes : (endR s.l s.long).2 = true := by rw [← HE.out.1, b1, b2, b4, decide_eq_true b3]; rfl
            have HU : Hid (Fs.step s c = ⟨[], false, s.bad, s.out ++ [u]⟩) := Lib.hid (by rw [HT.out, if_pos hyes, HE.out.2 hyes])
            have d3 : decide ((u.size : Int) ≤ 2000) = true := decide_eq_true (by omega)
            rw [b4] at g1
            subst b1 b2
            clear HE HT hyes b3 b4
            go_wp2_with (at_builtin; refine print_append W.heap.size rfl _ _ 27 9 (.string ByteArray.empty) 16 rfl Try.underlying27 Fd.info9 rfl (by decide) (.slice A s.out.length cp) (pw_strs s.out) (.string u) rfl rfl rfl (by rw [strs_len]; exact HX3.out.row) (Below.refl W.heap.size _) HX3.out.but.size (by rw [strs_len]; omega) ?_; intro v1 w7 hown hB7 hgr hat; have hX7 := HX3.out.push hown hgr; obtain ⟨O2, hO2⟩ : ∃ O2, O2 = s.out ++ [u] := ⟨_, rfl⟩; rw [← hO2] at hX7; have HO2 := Lib.hid hO2; obtain ⟨A2, k2, rfl⟩ := own_slice hX7.row; have hX8 := hX7.set 0 (.string ⟨#[]⟩) ⟨[], s.long, s.bad, O2⟩ rfl rfl; obtain ⟨p0, p1, p2, q0, q1, q2⟩ := hX7.c; obtain ⟨p0', p1', p2', q0', q1', q2'⟩ := hX8.c; have HX8 := Lib.hid hX8; clear hown hB7 hgr hat hO2 hX7 hX8)
            go_roundw
            case rel => exact ⟨k + 1, ⟨[], false, s.bad, O2⟩, by go_num, by omega, Lib.hid (by rw [HS2.out, HU.out, HO2.out]), by simp, hb0, by simp; omega, by rw [HO2.out]; simp; omega, Lib.hid (HX8.out.set 1 _ ⟨[], false, s.bad, O2⟩ rfl rfl)⟩
            case measure => simp [intOf]; omega
          · have hno : (endR s.l s.long).2 = false := by
              rw [← HE.out.1]
              rcases hok with r | ⟨r, r2 | ⟨r2, r3 | ⟨r3, r4⟩⟩⟩
              · rw [r]; rfl
              · rw [r, decide_eq_false r2]; rfl
              · rw [r, decide_eq_false r3]; simp
              · rw [r4]; simp
            have HU : Hid (Fs.step s c = ⟨[], false, s.bad + 1, s.out⟩) := Lib.hid (by rw [HT.out, hno]; rfl)
            have hwb : IntKind.i64.wrap (s.bad + 1) = s.bad + 1 := by rw [IntKind.wrap_i64]; omega
            have hH0 := HX3.out.set 2 (.int .i64 (s.bad + 1)) ⟨s.l, s.long, s.bad + 1, s.out⟩ rfl rfl
            obtain ⟨p0, p1, p2, q0, q1, q2⟩ := hH0.c
            have hH1 := hH0.set 0 (.string ⟨#[]⟩) ⟨[], s.long, s.bad + 1, s.out⟩ rfl rfl
            obtain ⟨p0', p1', p2', q0', q1', q2'⟩ := hH1.c
            have HH1 := Lib.hid hH1
            have HREL := Lib.hid (HH1.out.set 1 (.bool false) ⟨[], false, s.bad + 1, s.out⟩ rfl rfl)
            clear HE HT hno hH0 hH1 HH1
            rcases hok with r | ⟨r, r2 | ⟨r2, r3 | ⟨r3, r4⟩⟩⟩
            · subst r
              go_wp2
              go_roundw
              case rel => exact ⟨k + 1, ⟨[], false, s.bad + 1, s.out⟩, by go_num, by omega, Lib.hid (HS2.out.trans HU.out), by simp, by simp; omega, by simp; omega, by simp; omega, HREL⟩
              case measure => simp [intOf]; omega
            · subst r
              have r5 : (e == 0) = false := by simpa using r2
              clear r2
              go_wp2
              go_roundw
              case rel => exact ⟨k + 1, ⟨[], false, s.bad + 1, s.out⟩, by go_num, by omega, Lib.hid (HS2.out.trans HU.out), by simp, by simp; omega, by simp; omega, by simp; omega, HREL⟩
              case measure => simp [intOf]; omega
            · subst r r2
              have d3 : decide ((u.size : Int) ≤ 2000) = false := decide_eq_false (by omega)
              clear r3
              go_wp2
              go_roundw
              case rel => exact ⟨k + 1, ⟨[], false, s.bad + 1, s.out⟩, by go_num, by omega, Lib.hid (HS2.out.trans HU.out), by simp, by simp; omega, by simp; omega, by simp; omega, HREL⟩
              case measure => simp [intOf]; omega
            · subst r r2
              have d3 : decide ((u.size : Int) ≤ 2000) = true := decide_eq_true (by omega)
              rw [r4] at g1
              clear r3 r4
              go_wp2
              go_roundw
              case rel => exact ⟨k + 1, ⟨[], false, s.bad + 1, s.out⟩, by go_num, by omega, Lib.hid (HS2.out.trans HU.out), by simp, by simp; omega, by simp; omega, by simp; omega, HREL⟩
              case measure => simp [intOf]; omega
      · have e1 : ((c.toNat : Int) != 126) = true := by
          simp only [bne_iff_ne]
          intro e; exact h1 (UInt8.toNat_inj.1 (by simpa using (by omega : c.toNat = 126)))
        by_cases h2 : s.l.length < 5000
        · have d2 : decide ((s.l.length : Int) < 5000) = true := decide_eq_true (by omega)
          have HT : Hid (Fs.step s c = ⟨s.l ++ [c], s.long, s.bad, s.out⟩) := Lib.hid (by unfold Fs.step; rw [if_neg h1, if_pos h2])
          have hwk : IntKind.i64.wrap ((k : Int) + 1) = (k : Int) + 1 := IntWalk.i64_in _ (by omega)
          have k0 : (0 : Int) ≤ (k : Int) := by omega
          have k1 : (k : Int) ≤ (k : Int) + 1 := by omega
          have k2 : (k : Int) + 1 ≤ (y.size : Nat) := by omega
          clear h1
          go_upto_region 7 with fail
          go_region
          all_goals
            go_wp2
            go_roundw
            case rel => exact ⟨k + 1, ⟨s.l ++ [c], s.long, s.bad, s.out⟩, by go_num, by omega, Lib.hid (HS2.out.trans HT.out), by simp; omega, hb0, by simp; omega, by simp; omega, Lib.hid (HX.out.set 0 _ ⟨s.l ++ [c], s.long, s.bad, s.out⟩ rfl (by rw [HCat.out]; rfl)).drew⟩
            case measure => simp [intOf]; omega
        · have d2 : decide ((s.l.length : Int) < 5000) = false := decide_eq_false (by omega)
          have HT : Hid (Fs.step s c = ⟨s.l, true, s.bad, s.out⟩) := Lib.hid (by unfold Fs.step; rw [if_neg h1, if_neg h2])
          clear h1 h2
          go_wp2
          go_roundw
          case rel => exact ⟨k + 1, ⟨s.l, true, s.bad, s.out⟩, by go_num, by omega, Lib.hid (HS2.out.trans HT.out), hsl, hb0, by simp; omega, by simp; omega, Lib.hid (HX.out.set 1 _ ⟨s.l, true, s.bad, s.out⟩ rfl rfl)⟩
          case measure => simp [intOf]; omega
    · obtain rfl : k = y.size := by omega
      have HF : Hid (feedF ⟨l, long, bad, []⟩ y.data.toList = s) := Lib.hid (by have := HS.out; rw [List.take_of_length_le (by rw [Array.length_toList]; exact Nat.le_refl _)] at this; exact this)
      go_wp2
      go_ret
      rw [HF.out]
      exact ⟨A, cp, rfl, HX.out⟩
end Go.Proofs.Ytacocgomhodboaa.Rf
