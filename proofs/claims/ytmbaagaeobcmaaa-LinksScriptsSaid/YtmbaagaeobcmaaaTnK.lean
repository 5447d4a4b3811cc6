/- links.Double and links.Turn: the walks. -/
import Derived.Test.YtmbaagaeobcmaaaTkK
import Derived.Lib.ConvBytes
set_option linter.unusedVariables false
set_option linter.unusedSimpArgs false
namespace Go.Proofs.Ytmbaagaeobcmaaa.TnK
open Go.RowKit Go.Proofs.Ytmbaagaeobcmaaa.NtK Go.Proofs.Ytmbaagaeobcmaaa.NcK Go.Proofs.Ytmbaagaeobcmaaa.SdK Go.Proofs.Ytmbaagaeobcmaaa.DlK Go.Proofs.Ytmbaagaeobcmaaa.TkK Go.Proofs.YtmbaagaeobcmaaaW.PrintWords Go.Proofs.YtmbaagaeobcmaaaW.PrintLast
theorem Double_nil (f t i : Int) (w : World) : Calls Try.prog 17 #[.pointer none, .int .i64 f, .int .i64 t, .int .i64 i] w fun e w' => e = .returned (.int .i64 1) ∧ w' = w := by
  go_enter Try.func17, Try.ntmps17
  go_wp2_with (go_at_call 23; refine (is_nil _ _ _).mono ?_; rintro e w1 ⟨rfl, rfl⟩)
  go_ret
  exact ⟨rfl, rfl⟩
theorem Double_arg {Kp : Nat → Option Obj} {w0 W : World} {g : Nat} {s r : Int} {B : Int → Int → List ByteArray} (h : Net Kp w0 W g s r B) (f t i : Int) (hi : isB s f t = false) :
    Calls Try.prog 17 #[.pointer (some ⟨g, 0, none⟩), .int .i64 f, .int .i64 t, .int .i64 i] W fun e w' => e = .returned (.int .i64 1) ∧ w' = W := by
  have H := is_calls g s f t _ h.c0
  rw [hi] at H
  clear h hi
  go_enter Try.func17, Try.ntmps17
  go_wp2_with (go_at_call 23; refine H.mono ?_; rintro e w1 ⟨rfl, rfl⟩)
  go_ret
  exact ⟨rfl, rfl⟩
theorem Double_none {Kp : Nat → Option Obj} {w0 W : World} {g : Nat} {s r : Int} {B : Int → Int → List ByteArray} (h : Net Kp w0 W g s r B) (f t i : Int) (hi : isB s f t = true) (hh : hasB s f t i (B f t).length = false) :
    Calls Try.prog 17 #[.pointer (some ⟨g, 0, none⟩), .int .i64 f, .int .i64 t, .int .i64 i] W fun e w' => e = .returned (.int .i64 6) ∧ w' = W := by
  have H := is_calls g s f t _ h.c0
  rw [hi] at H
  have H2 := has_calls h f t i
  rw [hh] at H2
  clear h hi hh
  go_enter Try.func17, Try.ntmps17
  go_wp2_with (first | (go_at_call 23; refine H.mono ?_; rintro e w1 ⟨rfl, hw1⟩; subst hw1) | (go_at_call 25; refine H2.mono ?_; rintro e w2 ⟨rfl, hw2⟩; subst hw2))
  go_ret
  exact ⟨rfl, rfl⟩
/-- One text is put in again. -/
theorem Double_yes {Kp : Nat → Option Obj} {w0 W : World} {g : Nat} {s r : Int} {B : Int → Int → List ByteArray} (h : Net Kp w0 W g s r B) (f t : Int) (k : Nat) (hi : isB s f t = true) (hk : k < (B f t).length) (v : Int) (Q : World → Prop)
    (hS : Calls Try.prog 11 #[.pointer (some ⟨g, 0, none⟩), .int .i64 f, .int .i64 t, .string (B f t)[k]] W fun e w' => e = .returned (.int .i64 v) ∧ Q w') :
    Calls Try.prog 17 #[.pointer (some ⟨g, 0, none⟩), .int .i64 f, .int .i64 t, .int .i64 (k : Nat)] W fun e w' => e = .returned (.int .i64 v) ∧ Q w' := by
  have H := is_calls g s f t _ h.c0
  rw [hi] at H
  have hh : hasB s f t (k : Int) (B f t).length = true := by unfold hasB; simp [hi, hk]
  have H2 := has_calls h f t k
  rw [hh] at H2
  obtain ⟨hf, ht⟩ := isB_wf h.s1 hi
  obtain ⟨bm, A, c, m2, hl, ho⟩ := Net.c2 h f t hf ht
  obtain ⟨q, rfl, _, hq, hR⟩ := row_of ho (Nat.lt_of_le_of_lt (Nat.zero_le k) hk)
  have ck := hR.cell k hk
  generalize (B f t)[k] = y at ck hS
  clear h hi hh ho hR
  go_enter Try.func17, Try.ntmps17
  go_wp2_with (first | (go_at_call 23; refine H.mono ?_; rintro e W1 ⟨rfl, hw1⟩; rw [hw1]; clear hw1) | (go_at_call 25; refine H2.mono ?_; rintro e w2 ⟨rfl, hw2⟩; rw [hw2]; clear hw2) | (go_at_call 11; with_reducible refine hS.mono ?_; rintro e w3 ⟨rfl, hQ⟩))
  go_ret
  exact ⟨rfl, hQ⟩
theorem Turn_nil (f t i a : Int) (b : Int) (w : World) : Calls Try.prog 19 #[.pointer none, .int .i64 f, .int .i64 t, .int .i64 i, .int .i64 a, .int .u8 b] w fun e w' => e = .returned (.bool false) ∧ w' = w := by
  go_enter Try.func19, Try.ntmps19
  go_wp2_with (go_at_call 25; refine (has_nil _ _ _ _).mono ?_; rintro e w1 ⟨rfl, rfl⟩)
  go_ret
  exact ⟨rfl, rfl⟩
theorem Turn_no {Kp : Nat → Option Obj} {w0 W : World} {g : Nat} {s r : Int} {B : Int → Int → List ByteArray} (h : Net Kp w0 W g s r B) (f t i a b : Int) (hh : hasB s f t i (B f t).length = false) :
    Calls Try.prog 19 #[.pointer (some ⟨g, 0, none⟩), .int .i64 f, .int .i64 t, .int .i64 i, .int .i64 a, .int .u8 b] W fun e w' => e = .returned (.bool false) ∧ w' = W := by
  have H := has_calls h f t i
  rw [hh] at H
  clear h hh
  go_enter Try.func19, Try.ntmps19
  go_wp2_with (go_at_call 25; refine H.mono ?_; rintro e w1 ⟨rfl, rfl⟩)
  go_ret
  exact ⟨rfl, rfl⟩
theorem Turn_out {Kp : Nat → Option Obj} {w0 W : World} {g : Nat} {s r : Int} {B : Int → Int → List ByteArray} (h : Net Kp w0 W g s r B) (f t : Int) (k : Nat) (a b : Int) (hi : isB s f t = true) (hk : k < (B f t).length) (ha : a < 0 ∨ ((B f t)[k].size : Int) ≤ a) :
    Calls Try.prog 19 #[.pointer (some ⟨g, 0, none⟩), .int .i64 f, .int .i64 t, .int .i64 (k : Nat), .int .i64 a, .int .u8 b] W fun e w' => e = .returned (.bool false) ∧ w' = W := by
  have hh : hasB s f t (k : Int) (B f t).length = true := by unfold hasB; simp [hi, hk]
  have H2 := has_calls h f t k
  rw [hh] at H2
  obtain ⟨hf, ht⟩ := isB_wf h.s1 hi
  obtain ⟨bm, A, c, m2, hl, ho⟩ := Net.c2 h f t hf ht
  obtain ⟨q, rfl, _, hq, hR⟩ := row_of ho (Nat.lt_of_le_of_lt (Nat.zero_le k) hk)
  have ck := hR.cell k hk
  generalize (B f t)[k] = y at ck ha
  clear h hi hh ho hR
  by_cases h0 : a < 0
  · have d0 : decide (a < 0) = true := decide_eq_true h0
    clear ha h0
    go_enter Try.func19, Try.ntmps19
    go_wp2_with (go_at_call 25; refine H2.mono ?_; rintro e w2 ⟨rfl, hw2⟩; rw [hw2]; clear hw2)
    go_ret
    exact ⟨rfl, rfl⟩
  · have d0 : decide (a < 0) = false := decide_eq_false h0
    have d1 : decide ((y.size : Int) ≤ a) = true := decide_eq_true (by omega)
    clear ha h0
    go_enter Try.func19, Try.ntmps19
    go_wp2_with (go_at_call 25; refine H2.mono ?_; rintro e w2 ⟨rfl, hw2⟩; rw [hw2]; clear hw2)
    go_ret
    exact ⟨rfl, rfl⟩
theorem list_put {l : List ByteArray} {k : Nat} {y : ByteArray} : pw_strs (l.set k y) = (pw_strs l).set k (.string y) := by simp [pw_strs, List.map_set]
/-- A text of a row is another. -/
theorem NetB.setS {Kp : Nat → Option Obj} {W : World} {base g bm : Nat} {es : Array MapEntry} {ck : Nat} {s r : Int} {B : Int → Int → List ByteArray} (h : NetB Kp W base g bm es ck s r B) {f t : Int} {x0 : MapEntry} (hx0 : x0 ∈ es.toList) (hk0 : x0.key = KEY f t) {q n c : Nat} (hv0 : x0.val = .slice (some ⟨q, 0, none⟩) n c)
    (k : Nat) (y : ByteArray) (hy : y.size ≤ 5000) : NetB Kp (W.setCell ⟨q, k, none⟩ (.string y)) base g bm es ck s r (upd B f t ((B f t).set k y)) := by
  have hrow0 := h.row x0 hx0 f t hk0
  have hqg : g ≠ q := fun e => (h.row_ne hrow0).1 (by rw [hv0, e]; rfl)
  have hqm : bm ≠ q := fun e => (h.row_ne hrow0).2 (by rw [hv0, e]; rfl)
  refine ⟨(Below.heap_setCell W ⟨q, k, none⟩ _ g hqg).trans h.g, (Below.heap_setCell W ⟨q, k, none⟩ _ bm hqm).trans h.m, h.hbm, h.st, h.ks, fun x hx a b e => ?_, fun a b hab => ?_, h.apart, fun a b => ?_, fun a b x hx => ?_, fun j o hj => ⟨(Below.heap_setCell W ⟨q, k, none⟩ _ j (fun e => (h.fr j o hj).2.2.2 x0 hx0 (by rw [hv0, e]; rfl))).trans (h.fr j o hj).1, (h.fr j o hj).2⟩⟩
  · by_cases hk : x.key = KEY f t
    · obtain ⟨rfl, rfl⟩ := KEY_inj (hk.symm.trans e)
      obtain rfl := NtK.key_one h.st.2.2 hx hx0 (hk.trans hk0.symm)
      rw [upd_same, list_put, List.length_set, hv0]
      rw [hv0] at hrow0
      refine ⟨by rw [List.length_set]; exact hrow0.1, ?_⟩
      rcases hrow0.2 with ⟨q0, _⟩ | ⟨g', cap, cur, q0, q1, q2, q3, q4, q5, q6⟩
      · cases q0
      · injection q0 with e1 e2 e3
        obtain rfl : q = g' := by injection e1 with e1; injection e1
        refine .inr ⟨q, cap, cur.setIfInBounds k (.string y), by rw [e2, e3], q1, blk_set q2 k _, q3, q4, by simpa using q5, ?_⟩
        rw [Array.toList_setIfInBounds, List.take_set, q6]
    · have hne : ¬(a = f ∧ b = t) := by rintro ⟨rfl, rfl⟩; exact hk e
      rw [upd_other hne]
      have ho := h.row x hx a b e
      refine own_setCell ho ?_ _
      intro e2
      rcases h.apart x hx x0 hx0 (fun e3 => hk (e3.trans hk0)) with z | z
      · rw [z] at e2; cases e2
      · exact z (by rw [← e2, hv0]; rfl)
  · have hne : ¬(a = f ∧ b = t) := by rintro ⟨rfl, rfl⟩; exact hab x0 hx0 hk0
    rw [upd_other hne]; exact h.no a b hab
  · by_cases hab : a = f ∧ b = t
    · obtain ⟨rfl, rfl⟩ := hab; rw [upd_same, List.length_set]; exact h.len a b
    · rw [upd_other hab]; exact h.len a b
  · by_cases hab : a = f ∧ b = t
    · obtain ⟨rfl, rfl⟩ := hab
      rw [upd_same] at hx
      rcases List.mem_or_eq_of_mem_set hx with hx | rfl
      · exact h.str a b x hx
      · exact hy
    · rw [upd_other hab] at hx; exact h.str a b x hx
/-- A byte turned. -/
def turned (y : ByteArray) (a : Nat) (b : Int) : ByteArray := strOfNums ((bytesOf y).set a (Go.bits .xor .u8 (((y.data.toList.getD a 0).toNat : Nat) : Int) b))
theorem strOfNums_size (xs : List Int) : (strOfNums xs).size = xs.length := by simp [strOfNums, ByteArray.size]
set_option maxHeartbeats 4000000 in
set_option maxRecDepth 100000 in
theorem Turn_yes {Kp : Nat → Option Obj} {w0 W : World} {g : Nat} {s r : Int} {B : Int → Int → List ByteArray} (h : Net Kp w0 W g s r B) (f t : Int) (k : Nat) (a : Nat) (b : Int) (hi : isB s f t = true) (hk : k < (B f t).length) (ha : a < (B f t)[k].size) :
    Calls Try.prog 19 #[.pointer (some ⟨g, 0, none⟩), .int .i64 f, .int .i64 t, .int .i64 (k : Nat), .int .i64 (a : Nat), .int .u8 b] W fun e w' => e = .returned (.bool true) ∧ Net Kp w0 w' g s r (upd B f t ((B f t).set k (turned (B f t)[k] a b))) := by
  have hh : hasB s f t (k : Int) (B f t).length = true := by unfold hasB; simp [hi, hk]
  have H2 := has_calls h f t k
  rw [hh] at H2
  obtain ⟨hf, ht⟩ := isB_wf h.s1 hi
  obtain ⟨bm, es, ck, hN⟩ := h.ex
  obtain ⟨v, hl0, ho, hv0⟩ := hN.lookM f t hf ht
  obtain ⟨A, c, rfl⟩ := own_slice ho
  obtain ⟨q, rfl, _, hq, hR⟩ := row_of ho (Nat.lt_of_le_of_lt (Nat.zero_le k) hk)
  have hl := hl0 W hN.m
  have m2 : W.cell? ⟨g, 2, none⟩ = some (.map (some bm)) := by rw [blk_cell hN.g]; rfl
  have hys := hN.str f t (B f t)[k] (List.getElem_mem hk)
  obtain ⟨x0, hx0, hk0, hv1⟩ : ∃ x ∈ es.toList, x.key = KEY f t ∧ x.val = .slice (some ⟨q, 0, none⟩) (B f t).length c := by
    rcases hv0 with e | e
    · cases e
    · exact e
  have ckk := hR.cell k hk
  have hRf := Lib.hid hR
  obtain ⟨y, hy⟩ : ∃ y, y = (B f t)[k] := ⟨_, rfl⟩
  rw [← hy] at ckk hys ha
  have HY := Lib.hid hy
  have HH := Lib.hid h
  have HN := Lib.hid hN
  have HX := Lib.hid (And.intro hx0 (And.intro hk0 hv1))
  clear h hN hi hh ho hR hy hx0 hk0 hv1 hv0 hl0
  have hql : q < W.heap.size := by obtain ⟨cur, h1, _⟩ := hRf.out.ex; exact blk_lt h1
  go_enter Try.func19, Try.ntmps19
  go_upto_region 6 with (go_at_call 25; refine H2.mono ?_; rintro e w2 ⟨rfl, hw2⟩; rw [hw2]; clear hw2)
  have kc := print_bytes (P := Try.prog) 9 57 5 Try.underlying9 Try.underlying57 Try.underlying5 y W
  go_upto_region 7 with fail
  have hB1 : Below W.heap.size W (Lib.bytesWorld W 5 y) := bytes_below (Below.refl _ _) (Nat.le_refl _) 5 y
  have p0 := Lib.bytesWorld_cell W 5 y a ha
  have pf : (Lib.bytesWorld W 5 y).frozen? ⟨W.heap.size, a, none⟩ = false := by
    unfold World.frozen?
    rw [Lib.bytesWorld_at_new]
    have : y.size ≤ (Lib.bytesCells W 5 y).size := by simp [Lib.bytesCells]
    simp; omega
  have HRD := Lib.hid (bytes_reads W 5 y (by omega))
  have hsz1 : (Lib.bytesWorld W 5 y).heap.size = W.heap.size + 1 := Lib.bytesWorld_size W 5 y
  obtain ⟨cb, hcb⟩ : ∃ cb : Int, cb = (((y.data.toList.getD a 0).toNat : Nat) : Int) := ⟨_, rfl⟩
  rw [← hcb] at p0
  have HCB := Lib.hid hcb
  clear hcb kc hl m2 ckk
  generalize grownCap W y.size 0 5 = gc at *
  generalize hp : W.heap.size = p at p0 pf HRD hsz1
  have HP := Lib.hid hp
  rw [hp] at hql
  clear hp
  generalize Lib.bytesWorld W 5 y = w1 at *
  go_upto_region 8 with fail
  have hx2 : ReadsInt (w1.setCell ⟨p, a, none⟩ (.int .u8 (Go.bits .xor .u8 cb b))) .u8 (some ⟨p, 0, none⟩) y.size ((bytesOf y).set a (Go.bits .xor .u8 cb b)) := by
    have hr := HRD.out
    refine ⟨by rw [List.length_set]; exact hr.1, hr.2.1, fun h0 => ⟨_, rfl, fun j hj => ?_⟩⟩
    obtain ⟨ad, e, hc⟩ := hr.2.2 h0
    obtain rfl := Option.some.inj e
    rw [add_plain]
    have hcj := hc j hj
    rw [add_plain] at hcj
    have hbl := bytesOf_length y
    by_cases e : j = a
    · subst e
      refine (World.cell?_setCell_same w1 ⟨p, j, none⟩ _ hcj).trans ?_
      simp [hbl, ha]
    · have hne : (⟨p, a, none⟩ : Addr) ≠ ⟨p, j, none⟩ := by intro e2; injection e2 with _ e2 _; exact e e2.symm
      have ho := World.cell?_setCell_other (w := w1) (a := (⟨p, a, none⟩ : Addr)) (b := (⟨p, j, none⟩ : Addr)) (v := Value.int .u8 (Go.bits .xor .u8 cb b)) hne
      rw [ho, hcj]
      simp [List.getD_eq_getElem?_getD, List.getElem?_set, Ne.symm e]
  have hcv := string_of_reads (P := Try.prog) (src := 57) (dst := 9) (c := gc) Try.underlying57 Try.underlying5 Try.underlying9 hx2
  have hB2 : Hid (Below p W (w1.setCell ⟨p, a, none⟩ (.int .u8 (Go.bits .xor .u8 cb b)))) := Lib.hid ((by rw [← HP.out]; exact hB1 : Below p W w1).setCell (Nat.le_refl _) _)
  clear p0 pf HRD hsz1 hB1 hx2
  generalize w1.setCell ⟨p, a, none⟩ (.int .u8 (Go.bits .xor .u8 cb b)) = w2 at hcv hB2 ⊢
  have hR2 := hRf.out.cell k hk
  have kq : w2.cell? ⟨q, k, none⟩ = some (.string (B f t)[k]) := (hB2.out.cell hql).trans hR2
  have kf : w2.frozen? ⟨q, k, none⟩ = false := (hB2.out.frozen hql).trans (hRf.out.free k)
  clear hR2
  go_wp2
  go_ret
  obtain ⟨hx0, hk0, hv1⟩ := HX.out
  have hfin : turned (B f t)[k] a b = strOfNums ((bytesOf y).set a (Go.bits .xor .u8 cb b)) := by unfold turned; rw [← HY.out, HCB.out]
  have hB3 : Below W.heap.size W w2 := by rw [HP.out]; exact hB2.out
  have hN2 := HN.out.below HH.out.hg hB3
  rw [hfin]
  exact ⟨rfl, (below_then HH.out.bl HH.out.bl.size hB3).setCell hq _, HH.out.hg, HH.out.s0, HH.out.s1, HH.out.r0, HH.out.r1, bm, es, ck, NetB.setS hN2 hx0 hk0 hv1 k _ (by rw [strOfNums_size, List.length_set, bytesOf_length]; exact hys)⟩
end Go.Proofs.Ytmbaagaeobcmaaa.TnK
