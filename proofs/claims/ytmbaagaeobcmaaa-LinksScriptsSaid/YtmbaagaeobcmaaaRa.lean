/- duetref05.New, link, Len: the walks. -/
import Derived.Test.YtmbaagaeobcmaaaRn
set_option linter.unusedVariables false
set_option linter.unusedSimpArgs false
namespace Go.Proofs.Ytmbaagaeobcmaaa.Ra
open Go.RowKit Go.Proofs.Ytmbaagaeobcmaaa.NtK Go.Proofs.Ytmbaagaeobcmaaa.NcK Go.Proofs.Ytmbaagaeobcmaaa.Rn Go.Proofs.YtmbaagaeobcmaaaW.PrintWords Go.Proofs.YtmbaagaeobcmaaaW.PrintLast
section
variable {P : Program} {ops : Array Oper} {o : Oper} {a : Act} {K : Act → World → Prop} {Q : Exit → Act → World → Prop} {E : Prop}
/-- append(v, ys...) in a region that draws, at whatever world. -/
theorem step_append_m {w0 W : World} (base : Nat) (hgd : o.guard = none) (s x : Operand) (t e : TypeId) (z : Value) (size bytes : Nat)
    (ho : o.op = .call { callee := .builtin .append, args := #[s, x], argTypes := #[t, t] })
    (ht : P.underlying t = some (.slice e)) (hinfo : (P.info? e).map (fun i => (i.zero, i.size, i.bytes)) = some (some z, size, bytes)) (hz : z.cells.size = size) (hs0 : 0 < size) (hb0 : 0 < bytes)
    (v : Value) (n : Nat) (xs : List Value) (ad : Addr) (m c : Nat) (ys : List Value) (hs : a.eval s = v) (hx : a.eval x = .slice (some ad) m c) (hys : ys.length = m * size) (hnews : ∀ j u, ys[j]? = some u → W.cell? (ad.add j) = some u) (h1 : ∀ u ∈ ys, u.oneCell' = true)
    (HO : W.ownsRow base e size v n xs) (HB : Below base w0 W) (hbase : base ≤ W.heap.size) (hl : (n + m) * bytes ≤ 140737488355328)
    (h : ∀ v1 w1, w1.ownsRow base e size v1 (n + m) (xs ++ ys) → Below base w0 w1 → W.grownBy w1 v.ownBlock → (v1.ownBlock = v.ownBlock ∨ ∃ b, v1.ownBlock = some b ∧ W.heap.size ≤ b) → K (a.put o.dst v1) w1) :
    if Region.wanted o (yielded ops a.tmps) = true then Oper.wp P o a W K Q else E := by
  have hw : Region.wanted o (yielded ops a.tmps) = true := by simp [Region.wanted, hgd]
  obtain ⟨i0, hi, hzz⟩ := Option.map_eq_some_iff.1 hinfo
  simp only [Prod.mk.injEq] at hzz
  obtain ⟨hz0, hz1, hz2⟩ := hzz
  have hlen : n + m ≤ 140737488355328 := Nat.le_trans (Nat.le_mul_of_pos_right _ hb0) hl
  rw [if_pos hw]
  obtain ⟨v1, w1, hr, hown, hg, _, hat⟩ := run_append_own_at (P := P) W base t o.type e i0 z size bytes ht hi hz0 hz1 hz2 hz hs0 v n xs HO ad m c ys hys hnews h1 (by simp only [maxLen]; omega) hl hbase
  unfold Oper.wp execOp
  simp only [ho, resolve, invoke, builtin, Sem.run_bind, Sem.run_pure, Result.andThen_ok, List.map_toArray, List.map_cons, List.map_nil, hs, hx, hr]
  refine h v1 w1 hown (HB.grown hg hbase (own_base HO)) hg ?_
  rcases hat with hat | hat
  · exact .inl hat
  · exact .inr ⟨_, hat, Nat.le_refl _⟩
end
theorem info42 : (Try.prog.info? 42).map (fun i => (i.zero, i.size, i.bytes)) = some (some (.slice none 0 0), 1, 24) := by kernel_rfl
theorem info52 : (Try.prog.info? 52).map (fun i => (i.zero, i.size, i.bytes)) = some (some (.slice none 0 0), 1, 24) := by kernel_rfl
def nilH : Nat → Nat → Value := fun _ _ => .slice none 0 0
theorem made_hdr (n : Nat) : hdr n (fun _ => .slice none 0 0) = madeCells #[.slice none 0 0] (n * 1) := by
  unfold hdr madeCells
  apply Array.ext'
  simp only [Array.toList_map, Array.toList_range, Nat.mul_one]
  apply List.map_congr_left
  intro k _
  rw [show k % (#[Value.slice none 0 0] : Array Value).size = 0 by show k % 1 = 0; omega]
  rfl
theorem make_hdr (n : Nat) (hn : n ≤ 16) (W : World) : (Instr.makeSlice 52 (.int .i64 (n : Int)) (.int .i64 (n : Int))).run Try.prog W = .ok (.slice (some ⟨W.heap.size, 0, none⟩) n n) (W.alloc (.cells (hdr n (fun _ => .slice none 0 0)) 42)) := by
  obtain ⟨i, hi, he⟩ := Option.map_eq_some_iff.1 info42
  simp only [Prod.mk.injEq] at he
  obtain ⟨h1, h2, h3⟩ := he
  have := run_make W 52 42 i _ Try.underlying52 hi h1 .i64 .i64 (n : Int) (n : Int) (by omega) (Int.le_refl _) (by rw [h3]; omega) (by omega)
  rw [this, h2, Int.toNat_natCast, made_hdr]
  rfl
theorem RNew_bad (s r : Int) (h : okNew s r = false) (w : World) : Calls Try.prog 9 #[.int .i64 s, .int .i64 r] w fun e w' => e = .returned (.tuple #[.pointer none, .int .i64 1]) ∧ Below w.heap.size w w' := by
  unfold okNew at h
  by_cases h1 : 1 ≤ s
  · by_cases h2 : s ≤ 16
    · by_cases h3 : 1 ≤ r
      · have h4 : ¬ r ≤ 1000 := by intro h4; simp [h1, h2, h3, h4] at h
        have d1 : decide (s < 1) = false := decide_eq_false (by omega)
        have d2 : decide (16 < s) = false := decide_eq_false (by omega)
        have d3 : decide (r < 1) = false := decide_eq_false (by omega)
        have d4 : decide (1000 < r) = true := decide_eq_true (by omega)
        clear h h1 h2 h3 h4
        go_enter Try.func9, Try.ntmps9
        go_wp2
        go_ret2
        exact ⟨rfl, Below.refl _ _⟩
      · have d1 : decide (s < 1) = false := decide_eq_false (by omega)
        have d2 : decide (16 < s) = false := decide_eq_false (by omega)
        have d3 : decide (r < 1) = true := decide_eq_true (by omega)
        clear h h1 h2 h3
        go_enter Try.func9, Try.ntmps9
        go_wp2
        go_ret2
        exact ⟨rfl, Below.refl _ _⟩
    · have d1 : decide (s < 1) = false := decide_eq_false (by omega)
      have d2 : decide (16 < s) = true := decide_eq_true (by omega)
      clear h h1 h2
      go_enter Try.func9, Try.ntmps9
      go_wp2
      go_ret2
      exact ⟨rfl, Below.refl _ _⟩
  · have d1 : decide (s < 1) = true := decide_eq_true (by omega)
    clear h h1
    go_enter Try.func9, Try.ntmps9
    go_wp2
    go_ret2
    exact ⟨rfl, Below.refl _ _⟩
set_option maxHeartbeats 4000000 in
set_option maxRecDepth 100000 in
theorem RNew_ok (Kp : Nat → Option Obj) (n : Nat) (r : Int) (h1 : 1 ≤ n) (h2 : n ≤ 16) (h3 : 1 ≤ r) (h4 : r ≤ 1000) (w : World) (hKp : ∀ j o, Kp j = some o → w.heap[j]? = some o) :
    Calls Try.prog 9 #[.int .i64 (n : Int), .int .i64 r] w fun e w' => ∃ g, e = .returned (.tuple #[.pointer (some ⟨g, 0, none⟩), .int .i64 0]) ∧ RNet Kp w w' g n r noBags := by
  have d1 : decide ((n : Int) < 1) = false := decide_eq_false (by omega)
  have d2 : decide ((16 : Int) < (n : Int)) = false := decide_eq_false (by omega)
  have d3 : decide (r < 1) = false := decide_eq_false (by omega)
  have d4 : decide (1000 < r) = false := decide_eq_false (by omega)
  have HR := Lib.hid (And.intro h3 h4)
  have HN0 : Hid (Below w.heap.size w (w.alloc (.cells #[.int .i64 (n : Int), .int .i64 r, .slice none 0 0] 51)) ∧ RN Kp (w.alloc (.cells #[.int .i64 (n : Int), .int .i64 r, .slice none 0 0] 51)) w.heap.size w.heap.size 0 n r noBags (.slice none 0 0) [] nilH) := Lib.hid ⟨below_alloc (Below.refl _ _) _, heap_alloc_new _ _, Nat.le_refl _, own_nil _ _ _ _, rfl, fun i b h => by simp at h, List.nodup_nil, fun i j hi => by omega, fun i j a c hi => by omega, fun f t => by simp [noBags]; omega, fun f t x hx => by simp [noBags] at hx, fun q o hq => ⟨(heap_alloc_old _ _ (blk_lt (hKp q o hq))).trans (hKp q o hq), by have := blk_lt (hKp q o hq); omega, (by simp [Value.ownBlock]), (by simp), fun i j hi => by omega⟩⟩
  clear h3 h4 hKp
  have hmk := make_hdr n h2
  go_enter Try.func9, Try.ntmps9
  go_upto_region 5 with fail
  generalize w.alloc (.cells #[.int .i64 (n : Int), .int .i64 r, .slice none 0 0] 51) = w1 at HN0 ⊢
  clear d1 d2 d3 d4
  go_loopw [7] (fun v7 wr => ∃ (m : Nat) (rb : List Nat) (lv : Value), v7 = .int .i64 m ∧ m ≤ n ∧ Hid (Below w.heap.size w wr ∧ RN Kp wr w.heap.size w.heap.size m n r noBags lv rb nilH)) (fun v7 _ => n - (intOf v7).toNat)
  case atStart => exact ⟨0, [], _, rfl, Nat.zero_le _, HN0⟩
  case round =>
    as_aux_lemma =>
      clear HN0
      obtain ⟨m, rb, lv, rfl, hm, HP⟩ := hrel
      obtain ⟨A, cp, rfl⟩ := own_slice HP.out.2.L
      obtain ⟨_, _, g2, f1⟩ := HP.out.2.c
      by_cases hlt : m < n
      · have dl : decide ((m : Int) < (n : Int)) = true := decide_eq_true (by omega)
        have hgo : (m + 1) * 24 ≤ 140737488355328 := by omega
        obtain ⟨WX, hWX⟩ : ∃ WX, WX = ((wr.alloc (.cells (hdr n (fun _ => .slice none 0 0)) 42)).alloc (.cells #[.slice (some ⟨wr.heap.size, 0, none⟩) n n] 52)).drew := ⟨_, rfl⟩
        have hb1 := below_alloc (Below.refl wr.heap.size wr) (.cells (hdr n (fun _ => .slice none 0 0)) 42)
        have hb2 := below_alloc hb1 (.cells #[.slice (some ⟨wr.heap.size, 0, none⟩) n n] 52)
        have hbx : Below wr.heap.size wr WX := by rw [hWX]; exact below_drew hb2
        have HX := Lib.hid (And.intro (below_then HP.out.1 HP.out.1.size hbx) (And.intro (HP.out.2.keep (fun q hq => hbx.block q hq)) (Nat.le_trans HP.out.1.size hbx.size)))
        have hnb : Hid (WX.heap[wr.heap.size]? = some (.cells (hdr n (fun _ => .slice none 0 0)) 42 (0, 0))) := Lib.hid (by rw [hWX]; exact (heap_alloc_old _ _ (by simp)).trans (heap_alloc_new wr _))
        have hbb : Hid (w.heap.size ≤ wr.heap.size) := Lib.hid HP.out.1.size
        have hfr : Hid (wr.heap.size ∉ rb ∧ Kp wr.heap.size = none) := Lib.hid ⟨fun hm => by
          obtain ⟨i, hi⟩ := List.getElem?_of_mem hm
          have := blk_lt (HP.out.2.rw i _ hi).2
          omega, by
          cases hk : Kp wr.heap.size with
          | none => rfl
          | some o => have := blk_lt (HP.out.2.fr _ o hk).1; omega⟩
        have HC : Hid (∀ j u, ([.slice (some ⟨wr.heap.size, 0, none⟩) n n] : List Value)[j]? = some u → WX.cell? ((⟨wr.heap.size + 1, 0, none⟩ : Addr).add j) = some u) := Lib.hid (by
          intro j u hj
          match j, hj with
          | 0, hj =>
            have hc := heap_alloc_new (wr.alloc (.cells (hdr n (fun _ => .slice none 0 0)) 42)) (.cells #[.slice (some ⟨wr.heap.size, 0, none⟩) n n] 52)
            rw [show (wr.alloc (.cells (hdr n (fun _ => .slice none 0 0)) 42)).heap.size = wr.heap.size + 1 by simp] at hc
            have hc2 : WX.heap[wr.heap.size + 1]? = some (.cells #[.slice (some ⟨wr.heap.size, 0, none⟩) n n] 52 (0, 0)) := by rw [hWX]; exact hc
            rw [show (⟨wr.heap.size + 1, 0, none⟩ : Addr).add 0 = ⟨wr.heap.size + 1, 0, none⟩ by simp [Addr.add], blk_cell hc2]
            exact hj
          | j + 1, hj => simp at hj)
        have z1 := pw_cell_below (below_drew hb1) g2
        have z2 := pw_cell_below (below_drew hb2) g2
        subst hWX
        clear hb1 hb2 hbx
        go_upto_region 7 with fail
        go_region_law (refine step_append_m (w0 := w) w.heap.size rfl (.tmp 35) (.tmp 38) 49 52 (.slice none 0 0) 1 24 rfl Try.underlying49 info52 rfl (by decide) (by decide) (.slice A m cp) m (rb.map fun b : Nat => .slice (some ⟨b, 0, none⟩) n n) ⟨wr.heap.size + 1, 0, none⟩ 1 1 [.slice (some ⟨wr.heap.size, 0, none⟩) n n] rfl rfl rfl HC.out (by simp [Value.oneCell']) HX.out.2.1.L HX.out.1 HX.out.2.2 hgo ?_; intro v1 w7 hown hB5 hg5 hat5; have HP5 := Lib.hid (RN.push HX.out.2.1 (fun _ _ => rfl) hnb.out hbb.out hfr.out.1 hfr.out.2 (by rw [List.map_append]; exact hown) hg5 hat5); have HB5 := Lib.hid (show Below w.heap.size w (w7.setCell ⟨w.heap.size, 2, none⟩ v1) from hB5.setCell HX.out.2.1.hg v1); obtain ⟨A2, k2, rfl⟩ := own_slice hown; have hpc := ((hg5.block w.heap.size (blk_lt HX.out.2.1.g) (own_ne HX.out.2.1.L HX.out.2.1.g (by decide))).trans HX.out.2.1.g); have y3 : w7.cell? ⟨w.heap.size, 2, none⟩ = some (.slice A m cp) := (by rw [blk_cell hpc]; rfl); have y4 := blk_frozen hpc 2; clear hown hB5 hg5 hat5 hpc)
        all_goals
          go_wp2
          go_roundw
          case rel => first | exact ⟨m + 1, rb ++ [wr.heap.size], _, by go_num, by omega, Lib.hid ⟨HB5.out, HP5.out⟩⟩ | repeat (first | (refine And.intro ?_ rfl; exact ⟨m + 1, rb ++ [wr.heap.size], _, by go_num, by omega, Lib.hid ⟨HB5.out, HP5.out⟩⟩) | apply Exists.intro)
          case measure => simp [intOf]; omega
      · obtain rfl : m = n := by omega
        have HF : Hid (RNet Kp w wr w.heap.size m r noBags) := Lib.hid ⟨HP.out.1, h1, h2, HR.out.1, HR.out.2, _, rb, nilH, HP.out.2⟩
        clear g2 f1
        go_wp2
        go_ret2
        exact ⟨_, rfl, HF.out⟩
end Go.Proofs.Ytmbaagaeobcmaaa.Ra
