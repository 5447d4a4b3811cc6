/- duetref05's Turn: the walk. -/
import Derived.Test.YtmbaagaeobcmaaaRe
set_option linter.unusedVariables false
set_option linter.unusedSimpArgs false
namespace Go.Proofs.Ytmbaagaeobcmaaa.Rt
open Go.RowKit Go.Proofs.Ytmbaagaeobcmaaa.NtK Go.Proofs.Ytmbaagaeobcmaaa.NcK Go.Proofs.Ytmbaagaeobcmaaa.DlK Go.Proofs.Ytmbaagaeobcmaaa.TnK Go.Proofs.Ytmbaagaeobcmaaa.CsK Go.Proofs.Ytmbaagaeobcmaaa.Rn Go.Proofs.Ytmbaagaeobcmaaa.Ra Go.Proofs.Ytmbaagaeobcmaaa.Rc Go.Proofs.Ytmbaagaeobcmaaa.Re Go.Proofs.YtmbaagaeobcmaaaW.PrintWords Go.Proofs.YtmbaagaeobcmaaaW.PrintLast
section
variable {Kp : Nat → Option Obj} {w0 W : World} {g n : Nat} {r : Int} {B : Int → Int → List ByteArray}
theorem updH_id (hd : Nat → Nat → Value) (i j : Nat) : updH hd i j (hd i j) = hd := by
  funext a c
  unfold updH
  by_cases e : a = i ∧ c = j
  · obtain ⟨rfl, rfl⟩ := e; rw [if_pos ⟨rfl, rfl⟩]
  · rw [if_neg e]
/-- One text of a row is another. -/
theorem RN.setS {base gg m : Nat} {lv : Value} {rb : List Nat} {hd : Nat → Nat → Value} {i j b q cap : Nat} (h : RN Kp W base gg m n r B lv rb hd) (hi : i < m) (hj : j < n) (hb : rb[i]? = some b) (he : hd i j = .slice (some ⟨q, 0, none⟩) (B (i : Nat) (j : Nat)).length cap)
    (k : Nat) (y : ByteArray) (hy : y.size ≤ 5000) : RN Kp (W.setCell ⟨q, k, none⟩ (.string y)) base gg m n r (upd B (i : Nat) (j : Nat) ((B (i : Nat) (j : Nat)).set k y)) lv rb hd := by
  have hrow := h.st i j hi hj
  have hbW := (h.rw i b hb).2
  have hown : (hd i j).ownBlock = some q := by rw [he]; rfl
  have hqb : b ≠ q := fun e => by obtain ⟨cs, hc⟩ := own_typed hrow q hown; rw [e] at hbW; exact Rn.blk_ne hc hbW (by decide) rfl
  have hp := h.put (W1 := W.setCell ⟨q, k, none⟩ (.string y)) (v := hd i j) (l := (B (i : Nat) (j : Nat)).set k y) hi hj hb (by rw [updH_id]; exact (Below.heap_setCell W ⟨q, k, none⟩ _ b hqb).trans hbW) (fun p h1 h2 h3 => Below.heap_setCell W ⟨q, k, none⟩ _ p (fun e => h2 (by rw [hown]; exact congrArg some e.symm))) ?_ (.inl rfl) (by rw [List.length_set]; exact h.len _ _) (fun x hx => by
    rcases List.mem_or_eq_of_mem_set hx with hx | rfl
    · exact h.str _ _ x hx
    · exact hy)
  · rw [updH_id] at hp; exact hp
  · rw [list_put, List.length_set, he]
    rw [he] at hrow
    refine ⟨by rw [List.length_set]; exact hrow.1, ?_⟩
    rcases hrow.2 with ⟨q0, _⟩ | ⟨g', cap', cur, q0, q1, q2, q3, q4, q5, q6⟩
    · cases q0
    · injection q0 with e1 e2 e3
      obtain rfl : q = g' := by injection e1 with e1; injection e1
      refine .inr ⟨q, cap', cur.setIfInBounds k (.string y), by rw [e3], q1, blk_set q2 k _, q3, q4, by simpa using q5, ?_⟩
      rw [Array.toList_setIfInBounds, List.take_set, q6]
set_option maxHeartbeats 8000000 in
set_option maxRecDepth 100000 in
theorem RTurn_calls (h : RNet Kp w0 W g n r B) (f t i x y : Int) :
    Calls Try.prog 20 #[.pointer (some ⟨g, 0, none⟩), .int .i64 f, .int .i64 t, .int .i64 i, .int .i64 x, .int .u8 y] W fun e w' => e = .returned (.bool (turnR n B f t i x y).1) ∧ RNet Kp w0 w' g n r (turnR n B f t i x y).2 := by
  have hle := RLen_calls h f t
  have hiff := hasB_iff (n := n) (B := B) f t i
  unfold turnR
  cases hh : hasB n f t i (B f t).length with
  | false =>
    rw [if_neg (by decide)]
    rw [hh] at hiff
    by_cases h0 : i < 0
    · have d0 : decide (i < 0) = true := decide_eq_true h0
      clear hle hh hiff h0
      go_enter Try.func20, Try.ntmps20
      go_wp2
      go_ret
      exact ⟨rfl, h⟩
    · have d0 : decide (i < 0) = false := decide_eq_false h0
      have d1 : decide (((lenR n B f t : Nat) : Int) ≤ i) = true := decide_eq_true (by
        have h9 : ¬ (0 ≤ i ∧ i < ((lenR n B f t : Nat) : Int)) := fun q => by have := hiff.2 q; cases this
        omega)
      generalize lenR n B f t = ll at hle d1
      clear hh hiff h0
      go_enter Try.func20, Try.ntmps20
      go_wp2_with (go_at_call 22; refine hle.mono ?_; rintro e w1 ⟨rfl, rfl⟩)
      go_ret
      exact ⟨rfl, h⟩
  | true =>
    rw [if_pos rfl]
    obtain ⟨p0, p1⟩ := hiff.1 hh
    have hb : isB n f t = true := by
      cases hb : isB n f t with
      | true => rfl
      | false => rw [hasB_no f t i hb] at hh; cases hh
    have hl2 : lenR n B f t = (B f t).length := by unfold lenR; rw [hb, if_pos rfl]
    obtain ⟨k, rfl⟩ : ∃ k : Nat, i = (k : Int) := ⟨i.toNat, by omega⟩
    have hk : k < (B f t).length := by omega
    obtain ⟨_, b1, b2, b3, b4⟩ := isB_spec hb
    obtain ⟨a, rfl⟩ : ∃ a : Nat, f = (a : Int) := ⟨f.toNat, by omega⟩
    obtain ⟨c, rfl⟩ : ∃ c : Nat, t = (c : Int) := ⟨t.toNat, by omega⟩
    have hi : a < n := by omega
    have hj : c < n := by omega
    have d0 : decide ((k : Int) < 0) = false := decide_eq_false (by omega)
    have d1 : decide (((lenR n B (a : Nat) (c : Nat) : Nat) : Int) ≤ (k : Int)) = false := decide_eq_false (by omega)
    have d1n : decide (lenR n B (a : Nat) (c : Nat) ≤ k) = false := decide_eq_false (by have := of_decide_eq_false d1; omega)
    have k0 : (0 : Int) ≤ (a : Int) := by omega
    have k1 : (0 : Int) ≤ (c : Int) := by omega
    have k2 : (0 : Int) ≤ (k : Int) := by omega
    have i1 : (a : Int) < (n : Int) := by omega
    have i2 : (c : Int) < (n : Int) := by omega
    have i3 : (k : Int) < ((B (a : Nat) (c : Nat)).length : Int) := by omega
    have hget : (B (a : Nat) (c : Nat)).getD ((k : Nat) : Int).toNat ByteArray.empty = (B (a : Nat) (c : Nat))[k] := by rw [Int.toNat_natCast, List.getD_eq_getElem?_getD, List.getElem?_eq_getElem hk]; rfl
    rw [hget, Int.toNat_natCast]
    obtain ⟨lv, rb, hd, hN⟩ := h.ex
    obtain ⟨q, cap, b, rfl, hrb, q1, hbl, hcc⟩ := hN.at_ a hi
    have q2 := hcc c hj
    obtain ⟨_, _, g2, _⟩ := hN.c
    have ho := hN.st a c hi hj
    have hys := hN.str _ _ _ (List.getElem_mem hk)
    obtain ⟨A, cp, e9⟩ := own_slice ho
    have hE := Lib.hid e9
    rw [e9] at q2 ho
    obtain ⟨ad, hA, q3, cs9, q9⟩ := strs_at ho k hk
    have had : ∃ p, ad = ⟨p, 0, none⟩ := by
      rcases ho.2 with ⟨z, _⟩ | ⟨p, _, _, z, _⟩
      · rw [hA] at z; cases z
      · injection z with z1; rw [hA] at z1; exact ⟨p, Option.some.inj z1⟩
    obtain ⟨p9, rfl⟩ := had
    subst hA
    rw [add_plain] at q3 q9
    obtain ⟨tx, htx⟩ : ∃ tx, tx = (B (a : Nat) (c : Nat))[k] := ⟨_, rfl⟩
    rw [← htx] at q3 hys ⊢
    have HTX := Lib.hid htx
    clear hh hiff hl2 ho hbl hcc e9 b1 b2 b3 b4 p0 p1 hb hget htx
    by_cases hx0 : x < 0
    · have d2 : decide (x < 0) = true := decide_eq_true hx0
      rw [if_neg (by omega)]
      generalize lenR n B (a : Nat) (c : Nat) = ll at hle d1 d1n
      clear hx0
      go_enter Try.func20, Try.ntmps20
      go_wp2_with (go_at_call 22; refine hle.mono ?_; rintro e w1 ⟨rfl, rfl⟩)
      go_ret
      exact ⟨rfl, h⟩
    · have d2 : decide (x < 0) = false := decide_eq_false hx0
      obtain ⟨u, rfl⟩ : ∃ u : Nat, x = (u : Int) := ⟨x.toNat, by omega⟩
      by_cases hxu : u < tx.size
      · rw [if_pos (by omega), Int.toNat_natCast]
        have d3 : decide ((tx.size : Int) ≤ (u : Int)) = false := decide_eq_false (by omega)
        have d3n : decide (tx.size ≤ u) = false := decide_eq_false (by omega)
        have u0 : (0 : Int) ≤ (u : Int) := by omega
        have u1 : (u : Int) < (tx.size : Int) := by omega
        have HB9 : Hid (w0.heap.size ≤ p9) := Lib.hid (own_base (hN.st a c hi hj) p9 (by rw [hE.out]; rfl))
        have HS := Lib.hid h
        have HN := Lib.hid hN
        have HRB := Lib.hid hrb
        have HIJ := Lib.hid (And.intro hi (And.intro hj (And.intro hk hxu)))
        have HBW := Lib.hid (hN.rw a b hrb)
        obtain ⟨cs52, y52⟩ := own_typed hN.L q rfl
        have hlt : Hid (g < W.heap.size ∧ q < W.heap.size ∧ b < W.heap.size ∧ p9 < W.heap.size) := Lib.hid ⟨blk_lt hN.g, blk_lt y52, blk_lt HBW.out.2, blk_lt q9⟩
        have fr9 : W.frozen? ⟨p9, k, none⟩ = false := blk_frozen q9 k
        have HQ := Lib.hid (And.intro g2 (And.intro q1 (And.intro q2 (And.intro q3 fr9))))
        have kc := print_bytes (P := Try.prog) 9 57 5 Try.underlying9 Try.underlying57 Try.underlying5 tx W
        clear h hN hrb hi hj hx0 y52
        generalize lenR n B (a : Nat) (c : Nat) = ll at hle d1 d1n
        go_enter Try.func20, Try.ntmps20
        go_upto_region 3 with (go_at_call 22; refine hle.mono ?_; rintro e w1 ⟨rfl, hw1⟩; rw [hw1]; clear hw1)
        go_upto_region 4 with fail
        have hB1 : Below W.heap.size W (Lib.bytesWorld W 5 tx) := bytes_below (Below.refl _ _) (Nat.le_refl _) 5 tx
        have pp0 := Lib.bytesWorld_cell W 5 tx u hxu
        have pf : (Lib.bytesWorld W 5 tx).frozen? ⟨W.heap.size, u, none⟩ = false := by
          unfold World.frozen?
          rw [Lib.bytesWorld_at_new]
          have : tx.size ≤ (Lib.bytesCells W 5 tx).size := by simp [Lib.bytesCells]
          simp; omega
        have HRD := Lib.hid (bytes_reads W 5 tx (by omega))
        obtain ⟨cb, hcb⟩ : ∃ cb : Int, cb = (((tx.data.toList.getD u 0).toNat : Nat) : Int) := ⟨_, rfl⟩
        rw [← hcb] at pp0
        have HCB := Lib.hid hcb
        clear hcb kc g2 q1 q2 q3 fr9 q9
        generalize grownCap W tx.size 0 5 = gc at *
        generalize hp : W.heap.size = p at pp0 pf HRD hlt
        have HP := Lib.hid hp
        clear hp
        generalize Lib.bytesWorld W 5 tx = w1 at *
        go_upto_region 5 with fail
        have hx2 : ReadsInt (w1.setCell ⟨p, u, none⟩ (.int .u8 (Go.bits .xor .u8 cb y))) .u8 (some ⟨p, 0, none⟩) tx.size ((bytesOf tx).set u (Go.bits .xor .u8 cb y)) := by
          have hr := HRD.out
          refine ⟨by rw [List.length_set]; exact hr.1, hr.2.1, fun h0 => ⟨_, rfl, fun j hj => ?_⟩⟩
          obtain ⟨ad, e, hc⟩ := hr.2.2 h0
          obtain rfl := Option.some.inj e
          rw [add_plain]
          have hcj := hc j hj
          rw [add_plain] at hcj
          have hbl := bytesOf_length tx
          by_cases e : j = u
          · subst e
            refine (World.cell?_setCell_same w1 ⟨p, j, none⟩ _ hcj).trans ?_
            simp [hbl, hxu]
          · have hne : (⟨p, u, none⟩ : Addr) ≠ ⟨p, j, none⟩ := by intro e2; injection e2 with _ e2 _; exact e e2.symm
            have ho := World.cell?_setCell_other (w := w1) (a := (⟨p, u, none⟩ : Addr)) (b := (⟨p, j, none⟩ : Addr)) (v := Value.int .u8 (Go.bits .xor .u8 cb y)) hne
            rw [ho, hcj]
            simp [List.getD_eq_getElem?_getD, List.getElem?_set, Ne.symm e]
        have hx3 := hx2.below (below_drew (Below.refl _ _))
        have hcv := string_of_reads (P := Try.prog) (src := 57) (dst := 9) (c := gc) Try.underlying57 Try.underlying5 Try.underlying9 hx3
        have hB2 : Hid (Below p W (w1.setCell ⟨p, u, none⟩ (.int .u8 (Go.bits .xor .u8 cb y)))) := Lib.hid ((by rw [← HP.out]; exact hB1 : Below p W w1).setCell (Nat.le_refl _) _)
        clear pp0 pf HRD hB1 hx2 hx3
        generalize w1.setCell ⟨p, u, none⟩ (.int .u8 (Go.bits .xor .u8 cb y)) = w2 at hcv hB2 ⊢
        have g2 := (hB2.out.cell hlt.out.1).trans HQ.out.1
        have q1 := (hB2.out.cell hlt.out.2.1).trans HQ.out.2.1
        have q2 := (hB2.out.cell hlt.out.2.2.1).trans HQ.out.2.2.1
        have q3 := (hB2.out.cell hlt.out.2.2.2).trans HQ.out.2.2.2.1
        have fr9 := (hB2.out.frozen hlt.out.2.2.2).trans HQ.out.2.2.2.2
        have hfin : Hid (turned tx u y = strOfNums ((bytesOf tx).set u (Go.bits .xor .u8 cb y))) := Lib.hid (by unfold turned; rw [HCB.out])
        have hsz : Hid ((strOfNums ((bytesOf tx).set u (Go.bits .xor .u8 cb y))).size ≤ 5000) := Lib.hid (by rw [strOfNums_size, List.length_set, bytesOf_length]; exact hys)
        generalize strOfNums ((bytesOf tx).set u (Go.bits .xor .u8 cb y)) = z at hcv hfin hsz
        go_region
        all_goals
          have hb2 : Below W.heap.size W w2 := by rw [HP.out]; exact hB2.out
          have hbd := below_then hb2 hb2.size (below_drew (Below.refl w2.heap.size w2))
          have HN2 := HN.out.keep (fun p hp => hbd.block p hp)
          have HF := Lib.hid (RN.setS HN2 HIJ.out.1 HIJ.out.2.1 HRB.out hE.out k z hsz.out)
          have HBF := Lib.hid (show Below w0.heap.size w0 (w2.drew.setCell ⟨p9, k, none⟩ (.string z)) from (below_then HS.out.bl HS.out.bl.size hbd).setCell HB9.out _)
          clear hbd hb2 HN2
          go_wp2
          go_ret
          rw [hfin.out]
          obtain ⟨h3, h4, h5, h6, h7⟩ := HS.out
          exact ⟨rfl, HBF.out, by assumption, by assumption, by assumption, by assumption, _, _, _, HF.out⟩
      · rw [if_neg (by omega)]
        have d3 : decide ((tx.size : Int) ≤ (u : Int)) = true := decide_eq_true (by omega)
        have d3n : decide (tx.size ≤ u) = true := decide_eq_true (by omega)
        generalize lenR n B (a : Nat) (c : Nat) = ll at hle d1 d1n
        clear hx0 hxu HTX hE hN
        generalize (B (a : Nat) (c : Nat)).length = lk at q2 i3 hk
        go_enter Try.func20, Try.ntmps20
        go_wp2_with (go_at_call 22; refine hle.mono ?_; rintro e w1 ⟨rfl, rfl⟩)
        go_ret
        exact ⟨rfl, h⟩
end
end Go.Proofs.Ytmbaagaeobcmaaa.Rt
