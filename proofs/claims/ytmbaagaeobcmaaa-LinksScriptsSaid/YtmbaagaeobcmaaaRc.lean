/- duetref05's link, Len, Send, Cast: the walks. -/
import Derived.Test.YtmbaagaeobcmaaaRa
set_option linter.unusedVariables false
set_option linter.unusedSimpArgs false
namespace Go.Proofs.Ytmbaagaeobcmaaa.Rc
open Go.RowKit Go.Proofs.Ytmbaagaeobcmaaa.NtK Go.Proofs.Ytmbaagaeobcmaaa.NcK Go.Proofs.Ytmbaagaeobcmaaa.SdK Go.Proofs.Ytmbaagaeobcmaaa.CsK Go.Proofs.Ytmbaagaeobcmaaa.Rn Go.Proofs.Ytmbaagaeobcmaaa.Ra Go.Proofs.YtmbaagaeobcmaaaW.PrintWords Go.Proofs.YtmbaagaeobcmaaaW.PrintLast
section
variable {Kp : Nat → Option Obj} {w0 W : World} {g n : Nat} {r : Int} {B : Int → Int → List ByteArray}
theorem RNet.c (h : RNet Kp w0 W g n r B) : W.cell? ⟨g, 0, none⟩ = some (.int .i64 (n : Int)) ∧ W.cell? ⟨g, 1, none⟩ = some (.int .i64 r) := by
  obtain ⟨_, _, _, hN⟩ := h.ex
  exact ⟨hN.c.1, hN.c.2.1⟩
/-- The way to a row of texts. -/
theorem RNet.way (h : RNet Kp w0 W g n r B) (i j : Nat) (hi : i < n) (hj : j < n) : ∃ q cap b A c, W.cell? ⟨g, 2, none⟩ = some (.slice (some ⟨q, 0, none⟩) n cap) ∧ W.cell? ⟨q, i, none⟩ = some (.slice (some ⟨b, 0, none⟩) n n) ∧ W.cell? ⟨b, j, none⟩ = some (.slice A (B i j).length c) ∧ W.ownsRow w0.heap.size 9 1 (.slice A (B i j).length c) (B i j).length (pw_strs (B i j)) := by
  obtain ⟨lv, rb, hd, hN⟩ := h.ex
  obtain ⟨q, cap, b, rfl, hb, hq, hbl, hc⟩ := hN.at_ i hi
  have ho := hN.st i j hi hj
  obtain ⟨A, c, e⟩ := own_slice ho
  exact ⟨q, cap, b, A, c, hN.c.2.2.1, hq, by rw [← e]; exact hc j hj, by rw [← e]; exact ho⟩
theorem link_calls (h : RNet Kp w0 W g n r B) (f t : Int) : Calls Try.prog 24 #[.pointer (some ⟨g, 0, none⟩), .int .i64 f, .int .i64 t] W fun e w' => e = .returned (.bool (isB n f t)) ∧ w' = W := by
  obtain ⟨c0, _⟩ := RNet.c h
  clear h
  by_cases h0 : 0 ≤ f
  · have d0 : decide (0 ≤ f) = true := decide_eq_true h0
    by_cases h1 : f < (n : Int)
    · have d1 : decide (f < (n : Int)) = true := decide_eq_true h1
      by_cases h2 : 0 ≤ t
      · have d2 : decide (0 ≤ t) = true := decide_eq_true h2
        by_cases h3 : t < (n : Int)
        · have d3 : decide (t < (n : Int)) = true := decide_eq_true h3
          by_cases h4 : f = t
          · have d4 : (f != t) = false := by simpa using h4
            have hR : Hid (isB n f t = false) := Lib.hid (by unfold isB; simp [h4])
            clear h0 h1 h2 h3 h4
            go_enter Try.func24, Try.ntmps24
            go_wp2
            go_ret
            exact ⟨congrArg (fun b => Ending.returned (.bool b)) hR.out.symm, rfl⟩
          · have d4 : (f != t) = true := by simpa using h4
            have hR : Hid (isB n f t = true) := Lib.hid (by unfold isB; simp [h4]; omega)
            clear h0 h1 h2 h3 h4
            go_enter Try.func24, Try.ntmps24
            go_wp2
            go_ret
            exact ⟨congrArg (fun b => Ending.returned (.bool b)) hR.out.symm, rfl⟩
        · have d3 : decide (t < (n : Int)) = false := decide_eq_false h3
          have hR : Hid (isB n f t = false) := Lib.hid (by unfold isB; simp; omega)
          clear h0 h1 h2 h3
          go_enter Try.func24, Try.ntmps24
          go_wp2
          go_ret
          exact ⟨congrArg (fun b => Ending.returned (.bool b)) hR.out.symm, rfl⟩
      · have d2 : decide (0 ≤ t) = false := decide_eq_false h2
        have hR : Hid (isB n f t = false) := Lib.hid (by unfold isB; simp; omega)
        clear h0 h1 h2
        go_enter Try.func24, Try.ntmps24
        go_wp2
        go_ret
        exact ⟨congrArg (fun b => Ending.returned (.bool b)) hR.out.symm, rfl⟩
    · have d1 : decide (f < (n : Int)) = false := decide_eq_false h1
      have hR : Hid (isB n f t = false) := Lib.hid (by unfold isB; simp; omega)
      clear h0 h1
      go_enter Try.func24, Try.ntmps24
      go_wp2
      go_ret
      exact ⟨congrArg (fun b => Ending.returned (.bool b)) hR.out.symm, rfl⟩
  · have d0 : decide (0 ≤ f) = false := decide_eq_false h0
    have hR : Hid (isB n f t = false) := Lib.hid (by unfold isB; simp; omega)
    clear h0
    go_enter Try.func24, Try.ntmps24
    go_wp2
    go_ret
    exact ⟨congrArg (fun b => Ending.returned (.bool b)) hR.out.symm, rfl⟩
/-- How many are on a link; none where there is none. -/
def lenR (n : Int) (B : Bags) (f t : Int) : Nat := if isB n f t = true then (B f t).length else 0
theorem RLen_calls (h : RNet Kp w0 W g n r B) (f t : Int) : Calls Try.prog 22 #[.pointer (some ⟨g, 0, none⟩), .int .i64 f, .int .i64 t] W fun e w' => e = .returned (.int .i64 (lenR n B f t : Nat)) ∧ w' = W := by
  have hl := link_calls h f t
  unfold lenR
  cases hb : isB n f t with
  | false =>
    rw [hb] at hl
    clear h hb
    go_enter Try.func22, Try.ntmps22
    go_wp2_with (go_at_call 24; refine hl.mono ?_; rintro e w1 ⟨rfl, rfl⟩)
    go_ret
    exact ⟨rfl, rfl⟩
  | true =>
    rw [hb] at hl
    obtain ⟨_, b1, b2, b3, b4⟩ := isB_spec hb
    obtain ⟨i, rfl⟩ : ∃ i : Nat, f = (i : Int) := ⟨f.toNat, by omega⟩
    obtain ⟨j, rfl⟩ : ∃ j : Nat, t = (j : Int) := ⟨t.toNat, by omega⟩
    obtain ⟨q, cap, b, A, c, g2, q1, q2, _⟩ := RNet.way h i j (by omega) (by omega)
    clear h hb
    generalize (B (i : Nat) (j : Nat)).length = k at q2 ⊢
    go_enter Try.func22, Try.ntmps22
    go_wp2_with (go_at_call 24; refine hl.mono ?_; rintro e w1 ⟨rfl, rfl⟩)
    go_ret
    exact ⟨rfl, rfl⟩
theorem own_nilq {W : World} {base n : Nat} {A : Option Addr} {c : Nat} {xs : List Value} (h : W.ownsRow base 9 1 (.slice A n c) n xs) : A = none ∨ ∃ q, A = some ⟨q, 0, none⟩ ∧ base ≤ q := by
  rcases h.2 with ⟨e, _⟩ | ⟨q, cap, cur, e, hb, _⟩
  · injection e with e1; exact .inl e1
  · injection e with e1; exact .inr ⟨q, e1, hb⟩
/-- A row of texts has grown, and its header is stored. -/
theorem grow_put {WX w7 : World} {base gg m : Nat} {lv v1 : Value} {rb : List Nat} {hd : Nat → Nat → Value} {i j b : Nat} {l : List ByteArray} (h : RN Kp WX base gg m n r B lv rb hd) (hi : i < m) (hj : j < n) (hb : rb[i]? = some b)
    (hown : w7.ownsRow base 9 1 v1 l.length (pw_strs l)) (hgr : WX.grownBy w7 (hd i j).ownBlock) (hat : v1.ownBlock = (hd i j).ownBlock ∨ ∃ q, v1.ownBlock = some q ∧ WX.heap.size ≤ q) (hl : (l.length : Int) ≤ r) (hs : ∀ x ∈ l, x.size ≤ 5000) :
    RN Kp (w7.setCell ⟨b, j, none⟩ v1) base gg m n r (upd B (i : Nat) (j : Nat) l) lv rb (updH hd i j v1) ∧ w7.heap[b]? = some (.cells (hdr n (hd i)) 42 (0, 0)) := by
  have hbW := (h.rw i b hb).2
  have hb7 : w7.heap[b]? = some (.cells (hdr n (hd i)) 42 (0, 0)) := (hgr.block b (blk_lt hbW) (own_ne (h.st i j hi hj) hbW (by decide))).trans hbW
  refine ⟨h.put hi hj hb (blk_put hb7 j v1 (hdr_put n hd i j v1 hj)) (fun q h1 h2 h3 => (Below.heap_setCell w7 ⟨b, j, none⟩ v1 q h1).trans (hgr.block q h3 (fun e => h2 e.symm))) (own_setCell hown (own_ne hown hb7 (by decide)) v1) ?_ hl hs, hb7⟩
  rcases hat with z | z
  · exact .inl z
  · exact .inr (.inr z)
theorem info9 : (Try.prog.info? 9).map (fun i => (i.zero, i.size, i.bytes)) = some (some (.string ByteArray.empty), 1, 16) := by kernel_rfl
set_option maxHeartbeats 4000000 in
set_option maxRecDepth 100000 in
theorem RSend_calls (h : RNet Kp w0 W g n r B) (f t : Int) (x : ByteArray) : Calls Try.prog 12 #[.pointer (some ⟨g, 0, none⟩), .int .i64 f, .int .i64 t, .string x] W fun e w' => e = .returned (.int .i64 (sendR n r B f t x).1) ∧ RNet Kp w0 w' g n r (sendR n r B f t x).2 := by
  have hlk := link_calls h f t
  unfold sendR sendOk
  by_cases hb : isB n f t = true
  · rw [hb] at hlk ⊢
    by_cases hx : x.size ≤ 5000
    · rw [decide_eq_true hx, Bool.and_true, if_pos rfl]
      have d0 : decide ((5000 : Int) < (x.size : Int)) = false := decide_eq_false (by omega)
      obtain ⟨_, b1, b2, b3, b4⟩ := isB_spec hb
      obtain ⟨i, rfl⟩ : ∃ i : Nat, f = (i : Int) := ⟨f.toNat, by omega⟩
      obtain ⟨j, rfl⟩ : ∃ j : Nat, t = (j : Int) := ⟨t.toNat, by omega⟩
      have hi : i < n := by omega
      have hj : j < n := by omega
      have k0 : (0 : Int) ≤ (i : Int) := by omega
      have k1 : (0 : Int) ≤ (j : Int) := by omega
      obtain ⟨c0, c1⟩ := RNet.c h
      obtain ⟨lv, rb, hd, hN⟩ := h.ex
      have hlen := hN.len (i : Nat) (j : Nat)
      obtain ⟨q, cap, b, rfl, hrb, q1, hbl, hcc⟩ := hN.at_ i hi
      have q2 := hcc j hj
      obtain ⟨_, _, g2, _⟩ := hN.c
      have ho := hN.st i j hi hj
      obtain ⟨A, c, e9⟩ := own_slice ho
      have hE := Lib.hid e9
      rw [e9] at q2 ho
      by_cases hr : ((B (i : Nat) (j : Nat)).length : Int) = r
      · rw [if_pos hr]
        have HH := Lib.hid h
        have d1 : decide (r ≤ ((B (i : Nat) (j : Nat)).length : Int)) = true := decide_eq_true (by omega)
        clear h hN hb ho hE e9 hrb hbl hcc hr hlen hx b1 b2 b3 b4
        generalize (B (i : Nat) (j : Nat)).length = k at q2 d1
        go_enter Try.func12, Try.ntmps12
        go_wp2_with (go_at_call 24; refine hlk.mono ?_; rintro e w1 ⟨rfl, rfl⟩)
        go_quiet (fail)
        go_wp2
        go_ret
        exact ⟨rfl, HH.out.below (pw_below_drewN (Below.refl _ _) nq)⟩
      · rw [if_neg hr]
        have HS := Lib.hid h
        have hlt : (((B (i : Nat) (j : Nat)).length : Nat) : Int) < r := by omega
        have d1 : decide (r ≤ ((B (i : Nat) (j : Nat)).length : Int)) = false := decide_eq_false (by omega)
        have HN := Lib.hid hN
        have HLT := Lib.hid (And.intro hlt hx)
        have hl3 : (B (i : Nat) (j : Nat)).length < 1001 := by have := h.r1; omega
        clear h hN hb ho e9 hbl hcc hr hlen hx b1 b2 b3 b4 hlt
        go_enter Try.func12, Try.ntmps12
        go_upto_region 3 with (go_at_call 24; refine hlk.mono ?_; rintro e w1 ⟨rfl, rfl⟩)
        go_quiet (fail)
        have hbn := pw_below_drewN (Below.refl w1.heap.size w1) nq
        have HN1 := Lib.hid (HN.out.keep (fun p hp => hbn.block p hp))
        have HB1 := Lib.hid (below_then HS.out.bl HS.out.bl.size hbn)
        clear HN g2 q1 q2 c0 c1 hbn d1
        generalize w1.drewN nq = w2 at HN1 HB1 ⊢
        obtain ⟨_, _, g2, _⟩ := HN1.out.c
        obtain ⟨q', cap', b', hv', hrb', q1, hbl, hcc⟩ := HN1.out.at_ i hi
        rw [hrb] at hrb'
        obtain rfl := Option.some.inj hrb'
        obtain ⟨rfl, rfl⟩ : q = q' ∧ cap = cap' := by injection hv' with h1 _ h2; injection h1 with h1; injection h1 with h1; exact ⟨h1, h2⟩
        have q2 := hcc j hj
        rw [hE.out] at q2
        have HRB := Lib.hid hrb
        have hx1 := below_alloc (Below.refl w2.heap.size w2) (.cells #[.string x] 9)
        obtain ⟨WX, hWX⟩ : ∃ WX, WX = (w2.alloc (.cells #[.string x] 9)).drew := ⟨_, rfl⟩
        have hbx : Below w2.heap.size w2 WX := by rw [hWX]; exact below_drew hx1
        have HX := Lib.hid (And.intro (HN1.out.keep (fun p hp => hbx.block p hp)) (And.intro (below_then HB1.out HB1.out.size hbx) (Nat.le_trans HB1.out.size hbx.size)))
        have HXo := Lib.hid (show WX.ownsRow w0.heap.size 9 1 (.slice A (B (i : Nat) (j : Nat)).length c) (B (i : Nat) (j : Nat)).length (pw_strs (B (i : Nat) (j : Nat))) by rw [← hE.out]; exact HX.out.1.st i j hi hj)
        have HXg := Lib.hid (show ∀ w7, WX.grownBy w7 (Value.slice A (B (i : Nat) (j : Nat)).length c).ownBlock → WX.grownBy w7 (hd i j).ownBlock from fun w7 hh => by rw [hE.out]; exact hh)
        have HXa := Lib.hid (show (Value.slice A (B (i : Nat) (j : Nat)).length c).ownBlock = (hd i j).ownBlock by rw [hE.out])
        have HC : Hid (∀ k u, ([.string x] : List Value)[k]? = some u → WX.cell? ((⟨w2.heap.size, 0, none⟩ : Addr).add k) = some u) := Lib.hid (by
          intro k u hk
          match k, hk with
          | 0, hk =>
            have hc2 : WX.heap[w2.heap.size]? = some (.cells #[.string x] 9 (0, 0)) := by rw [hWX]; exact heap_alloc_new w2 _
            rw [show (⟨w2.heap.size, 0, none⟩ : Addr).add 0 = ⟨w2.heap.size, 0, none⟩ by simp [Addr.add], blk_cell hc2]
            exact hk
          | k + 1, hk => simp at hk)
        have z1 := pw_cell_below (below_drew hx1) g2
        have z2 := pw_cell_below (below_drew hx1) q1
        have z3 := pw_cell_below (below_drew hx1) q2
        have i1 : (i : Int) < (n : Int) := by omega
        have i2 : (j : Int) < (n : Int) := by omega
        have hgo : ((B (i : Nat) (j : Nat)).length + 1) * 16 ≤ 140737488355328 := by omega
        subst hWX
        clear hx1 hbx hcc hbl hv' hrb
        go_upto_region 5 with fail
        go_region_law (go_loud (refine step_append_m (w0 := w0) w0.heap.size rfl (.tmp 52) (.tmp 54) 42 9 (.string ByteArray.empty) 1 16 rfl Try.underlying42 info9 rfl (by decide) (by decide) (.slice A (B (i : Nat) (j : Nat)).length c) (B (i : Nat) (j : Nat)).length (pw_strs (B (i : Nat) (j : Nat))) ⟨w2.heap.size, 0, none⟩ 1 1 [.string x] rfl rfl rfl HC.out (by simp [Value.oneCell']) HXo.out HX.out.2.1 HX.out.2.2 hgo ?_; intro v1 w7 hown hB5 hg5 hat5; have HP5 := Lib.hid (grow_put (l := B (i : Nat) (j : Nat) ++ [x]) HX.out.1 hi hj HRB.out (by simpa [pw_strs] using hown) (HXg.out w7 hg5) (by rw [← HXa.out]; exact hat5) (by rw [List.length_append]; have := HLT.out.1; simp; omega) (fun y hy => by rcases List.mem_append.1 hy with hy | hy; exact HX.out.1.str _ _ y hy; rw [List.mem_singleton.1 hy]; exact HLT.out.2)); have HB5 := Lib.hid (show Below w0.heap.size w0 (w7.setCell ⟨b, j, none⟩ v1) from hB5.setCell (HX.out.1.rw i b HRB.out).1 v1); have y0 := (hg5.block g (blk_lt HX.out.1.g) (own_ne HXo.out HX.out.1.g (by decide))).trans HX.out.1.g; have y1 : w7.cell? ⟨g, 2, none⟩ = some (.slice (some ⟨q, 0, none⟩) n cap) := (by rw [blk_cell y0]; rfl); have y2 : w7.cell? ⟨b, j, none⟩ = some (.slice A (B (i : Nat) (j : Nat)).length c) := (by rw [blk_cell HP5.out.2, ← hE.out]; exact hdr_get n _ j hj); have y4 := blk_frozen HP5.out.2 j; obtain ⟨cs52, y5⟩ := own_typed HX.out.1.L q rfl; have y6 : w7.cell? ⟨q, i, none⟩ = some (.slice (some ⟨b, 0, none⟩) n n) := (by rw [World.cell?_of_block (hg5.block q (blk_lt y5) (own_ne HXo.out y5 (by decide)))]; exact z2); obtain ⟨A2, k2, rfl⟩ := own_slice hown; clear hown hB5 hg5 hat5 y0 y5))
        all_goals
          go_wp2
          go_ret
          obtain ⟨h3, h4, h5, h6, h7⟩ := HS.out
          exact ⟨rfl, HB5.out, by assumption, by assumption, by assumption, by assumption, _, _, _, HP5.out.1⟩
    · rw [decide_eq_false hx, Bool.and_false, if_neg (by decide)]
      have d0 : decide ((5000 : Int) < (x.size : Int)) = true := decide_eq_true (by omega)
      clear hx hb
      go_enter Try.func12, Try.ntmps12
      go_wp2_with (go_at_call 24; refine hlk.mono ?_; rintro e w1 ⟨rfl, rfl⟩)
      go_ret
      exact ⟨rfl, h⟩
  · have hb' : isB n f t = false := by simpa using hb
    rw [hb'] at hlk ⊢
    rw [Bool.false_and, if_neg (by decide)]
    clear hb hb'
    go_enter Try.func12, Try.ntmps12
    go_wp2_with (go_at_call 24; refine hlk.mono ?_; rintro e w1 ⟨rfl, rfl⟩)
    go_ret
    exact ⟨rfl, h⟩
end
end Go.Proofs.Ytmbaagaeobcmaaa.Rc
