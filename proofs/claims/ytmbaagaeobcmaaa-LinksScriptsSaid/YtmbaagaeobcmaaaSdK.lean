/- links.Send: the walk. -/
import Derived.Test.YtmbaagaeobcmaaaMpK
import Derived.Test.YtmbaagaeobcmaaaWTab
import Derived.Deep.AppendLies
set_option linter.unusedVariables false
set_option linter.unusedSimpArgs false
namespace Go.Proofs.Ytmbaagaeobcmaaa.SdK
open Go.RowKit Go.Proofs.Ytmbaagaeobcmaaa.NtK Go.Proofs.Ytmbaagaeobcmaaa.NcK Go.Proofs.YtmbaagaeobcmaaaW.PrintWords Go.Proofs.YtmbaagaeobcmaaaW.PrintLast
def sendOk (s f t : Int) (x : ByteArray) : Bool := isB s f t && decide (x.size ≤ 5000)
theorem Send_nil (f t : Int) (x : ByteArray) (w : World) : Calls Try.prog 11 #[.pointer none, .int .i64 f, .int .i64 t, .string x] w fun e w' => e = .returned (.int .i64 1) ∧ Below w.heap.size w w' := by
  go_enter Try.func11, Try.ntmps11
  go_wp2_with (go_at_call 23; refine (is_nil _ _ _).mono ?_; rintro e w1 ⟨rfl, rfl⟩)
  go_ret
  exact ⟨rfl, below_alloc (Below.refl _ _) _⟩
theorem Send_arg {Kp : Nat → Option Obj} {w0 W : World} {g : Nat} {s r : Int} {B : Int → Int → List ByteArray} (h : Net Kp w0 W g s r B) (f t : Int) (x : ByteArray) (hx : sendOk s f t x = false) :
    Calls Try.prog 11 #[.pointer (some ⟨g, 0, none⟩), .int .i64 f, .int .i64 t, .string x] W fun e w' => e = .returned (.int .i64 1) ∧ Below W.heap.size W w' := by
  have c0 := pw_cell_below (below_alloc (Below.refl _ W) (.cells #[.int .i64 f, .int .i64 t] 53)) h.c0
  have H := is_calls g s f t _ c0
  unfold sendOk at hx
  clear c0 h
  cases hi : isB s f t with
  | false =>
    rw [hi] at H
    clear hi hx
    go_enter Try.func11, Try.ntmps11
    go_wp2_with (go_at_call 23; refine H.mono ?_; rintro e w1 ⟨rfl, rfl⟩)
    go_ret
    exact ⟨rfl, below_alloc (Below.refl _ _) _⟩
  | true =>
    rw [hi] at H hx
    have d1 : decide (5000 < (x.size : Int)) = true := by simp at hx ⊢; omega
    have d2 : decide (5000 < x.size) = true := by simp at hx ⊢; omega
    clear hi hx
    go_enter Try.func11, Try.ntmps11
    go_wp2_with (go_at_call 23; refine H.mono ?_; rintro e w1 ⟨rfl, rfl⟩)
    go_ret
    exact ⟨rfl, below_alloc (Below.refl _ _) _⟩
set_option maxHeartbeats 1000000 in
theorem Send_full {Kp : Nat → Option Obj} {w0 W : World} {g : Nat} {s r : Int} {B : Int → Int → List ByteArray} (h : Net Kp w0 W g s r B) (f t : Int) (x : ByteArray) (hx : sendOk s f t x = true) (hr : ((B f t).length : Int) = r) :
    Calls Try.prog 11 #[.pointer (some ⟨g, 0, none⟩), .int .i64 f, .int .i64 t, .string x] W fun e w' => e = .returned (.int .i64 5) ∧ Below W.heap.size W w' := by
  have hB := below_alloc (Below.refl _ W) (.cells #[.int .i64 f, .int .i64 t] 53)
  have h1 := h.below hB
  have c0 := h1.c0
  have H := is_calls g s f t _ c0
  unfold sendOk at hx
  simp at hx
  obtain ⟨hi, hx⟩ := hx
  rw [hi] at H
  obtain ⟨hf, ht⟩ := isB_wf h.s1 hi
  have d1 : decide (5000 < (x.size : Int)) = false := by simp; omega
  have d2 : decide (5000 < x.size) = false := by simp; omega
  have HN := Lib.hid h1.drew
  have L0 : (W.alloc (.cells #[.int .i64 f, .int .i64 t] 53)).cell? ⟨W.heap.size, 0, none⟩ = some (.int .i64 f) := by simp
  have L1 : (W.alloc (.cells #[.int .i64 f, .int .i64 t] 53)).cell? ⟨W.heap.size, 1, none⟩ = some (.int .i64 t) := by simp
  have HL0 := Lib.hid L0
  have HL1 := Lib.hid L1
  have HB := Lib.hid hB
  have HR := Lib.hid hr
  clear h h1 c0 hi hB L0 L1 hr
  go_enter Try.func11, Try.ntmps11
  go_upto_region 4 with (go_at_call 23; refine H.mono ?_; rintro e w1 ⟨rfl, rfl⟩)
  clear H
  generalize W.alloc (.cells #[.int .i64 f, .int .i64 t] 53) = w1 at HN HL0 HL1 HB ⊢
  obtain ⟨bm, A, c, m2, hl, ho⟩ := Net.c2 HN.out f t hf ht
  have m1 := HN.out.c1
  have l0 : w1.drew.cell? ⟨W.heap.size, 0, none⟩ = some (.int .i64 f) := HL0.out
  have l1 : w1.drew.cell? ⟨W.heap.size, 1, none⟩ = some (.int .i64 t) := HL1.out
  have hr := HR.out
  refine wp_region_still_tail 12 (by kernel_rfl) (by kernel_rfl) ?_
  show wpStill _ _ w1.drew _ _ _
  simp only [List.take_succ_cons, List.take_zero, List.drop_succ_cons, List.drop_zero]
  repeat still_step
  refine wpStill_nil ?_
  show wpList _ _ _ _ _ w1.drew
  have hrb : (((B f t).length : Int) == r) = true := by simpa using hr
  clear hl m1 m2 l0 l1
  have HN2 := HN
  go_wp2
  go_ret
  exact ⟨rfl, below_drew HB.out⟩
theorem info9 : (Try.prog.info? 9).map (fun i => (i.zero, i.size, i.bytes)) = some (some (.string ByteArray.empty), 1, 16) := by kernel_rfl
theorem below_setBlock {B : Nat} {w w1 : World} (h : Below B w w1) {b : Nat} (hb : B ≤ b) {o : Obj} : Below B w (Go.ChangeMaps.setBlock w1 b o) :=
  ⟨h.os, h.tape, h.output, by rw [setBlock_size]; exact h.size, fun k hk => (setBlock_other (by omega)).trans (h.block k hk)⟩
theorem own_same {W W1 : World} {base : Nat} {e : TypeId} {size n : Nat} {v : Value} {xs : List Value} (h : W.ownsRow base e size v n xs) (hk : ∀ k, v.ownBlock = some k → W1.heap[k]? = W.heap[k]?) : W1.ownsRow base e size v n xs := by
  refine ⟨h.1, ?_⟩
  rcases h.2 with q | ⟨g', cap, cur, rfl, q1, q2, q3⟩
  · exact .inl q
  · exact .inr ⟨g', cap, cur, rfl, q1, (hk g' rfl).trans q2, q3⟩
theorem mapEntry_run {a : Act} {oi : Oper} {T : TypeId} {x y : Operand} {m k v : Value} {W w1 : World} (hop : oi.op = .mapEntry T x y) (hx : a.eval x = m) (hy : a.eval y = k) (h : (Instr.mapEntry T m k).run Try.prog W = .ok v w1) : (execOp a.eval oi).run Try.prog W = .ok (.value v) w1 := by
  unfold execOp; simp [hop, hx, hy, h, Result.andThen]
theorem entryStore_run {a : Act} {oi : Oper} {T : TypeId} {x y z : Operand} {m k v : Value} {W w1 : World} (hop : oi.op = .entryStore T x y z) (hx : a.eval x = m) (hy : a.eval y = k) (hz : a.eval z = v) (h : (Instr.entryStore T m k v).run Try.prog W = .ok () w1) : (execOp a.eval oi).run Try.prog W = .ok .skip w1 := by
  unfold execOp; simp [hop, hx, hy, hz, h, Result.andThen]
theorem tab6 : rtab .any (opsOf Try.f11 6) = rtab .any (opsOf Try.f11 6) := rfl
set_option maxHeartbeats 4000000 in
set_option maxRecDepth 100000 in
theorem Send_ok {Kp : Nat → Option Obj} {w0 W : World} {g : Nat} {s r : Int} {B : Int → Int → List ByteArray} (h : Net Kp w0 W g s r B) (f t : Int) (x : ByteArray) (hx : sendOk s f t x = true) (hr : ((B f t).length : Int) < r) :
    Calls Try.prog 11 #[.pointer (some ⟨g, 0, none⟩), .int .i64 f, .int .i64 t, .string x] W fun e w' => e = .returned (.int .i64 0) ∧ Net Kp w0 w' g s r (upd B f t (B f t ++ [x])) := by
  have hB := below_alloc (Below.refl _ W) (.cells #[.int .i64 f, .int .i64 t] 53)
  have h1 := h.below hB
  have c0 := h1.c0
  have H := is_calls g s f t _ c0
  unfold sendOk at hx
  simp at hx
  obtain ⟨hi, hx⟩ := hx
  rw [hi] at H
  obtain ⟨hf, ht⟩ := isB_wf h.s1 hi
  have d1 : decide (5000 < (x.size : Int)) = false := by simp; omega
  have d2 : decide (5000 < x.size) = false := by simp; omega
  have HN := Lib.hid h1.drew
  have L0 : (W.alloc (.cells #[.int .i64 f, .int .i64 t] 53)).cell? ⟨W.heap.size, 0, none⟩ = some (.int .i64 f) := by simp
  have L1 : (W.alloc (.cells #[.int .i64 f, .int .i64 t] 53)).cell? ⟨W.heap.size, 1, none⟩ = some (.int .i64 t) := by simp
  have HL0 := Lib.hid L0
  have HL1 := Lib.hid L1
  have HR := Lib.hid hr
  have HX := Lib.hid hx
  clear h h1 c0 hi hB L0 L1 hr hx
  go_enter Try.func11, Try.ntmps11
  go_upto_region 4 with (go_at_call 23; refine H.mono ?_; rintro e w1 ⟨rfl, rfl⟩)
  clear H
  generalize W.alloc (.cells #[.int .i64 f, .int .i64 t] 53) = w1 at HN HL0 HL1 ⊢
  obtain ⟨bm0, A, c, m2, hl, ho⟩ := Net.c2 HN.out f t hf ht
  have m1 := HN.out.c1
  have l0 : w1.drew.cell? ⟨W.heap.size, 0, none⟩ = some (.int .i64 f) := HL0.out
  have l1 : w1.drew.cell? ⟨W.heap.size, 1, none⟩ = some (.int .i64 t) := HL1.out
  have hr := HR.out
  refine wp_region_still_tail 12 (by kernel_rfl) (by kernel_rfl) ?_
  show wpStill _ _ w1.drew _ _ _
  simp only [List.take_succ_cons, List.take_zero, List.drop_succ_cons, List.drop_zero]
  repeat still_step
  refine wpStill_nil ?_
  show wpList _ _ _ _ _ w1.drew
  have hrb : (((B f t).length : Int) == r) = false := by simp; omega
  clear hl m1 m2 l0 l1 ho
  have HL0 : Hid (w1.drew.cell? ⟨W.heap.size, 0, none⟩ = some (.int .i64 f)) := HL0
  have HL1 : Hid (w1.drew.cell? ⟨W.heap.size, 1, none⟩ = some (.int .i64 t)) := HL1
  generalize w1.drew = w2 at HN HL0 HL1 ⊢
  go_upto_region 6 with fail
  -- REGION6
  have hgw := HN.out.hg
  have hB3 := Lib.hid (below_drew HN.out.bl)
  obtain ⟨bm, es, ck, hN2⟩ := HN.out.drew.ex
  have s0 : w2.drew.cell? ⟨g, 2, none⟩ = some (.map (some bm)) := by rw [blk_cell hN2.g]; rfl
  have s1 : w2.drew.cell? ⟨W.heap.size, 0, none⟩ = some (.int .i64 f) := HL0.out
  have s2 : w2.drew.cell? ⟨W.heap.size, 1, none⟩ = some (.int .i64 t) := HL1.out
  clear d1 d2
  obtain ⟨i0, hi9, hz0, hz1, hz2⟩ := info_parts info9
  have hr1 := HN.out.r1
  refine start_ (n := 12) (S := (fun w' => w'.cell? ⟨g, 2, none⟩ = some (.map (some bm)) ∧ w'.cell? ⟨W.heap.size, 0, none⟩ = some (.int .i64 f) ∧ w'.cell? ⟨W.heap.size, 1, none⟩ = some (.int .i64 t))) (ds := [7, 9, 11]) #[false, false, false, false, false, false, false, false, false, false, false, false] (by kernel_rfl) rfl rfl ⟨s0, s1, s2⟩ (fun hHeld => ?_)
  refine with_tab tab6 (fun HT_ => ?_)
  generalize w2.drew = w3 at hN2 hB3 hHeld ⊢
  refine pure_ (i := 0) (N := (some 37)) (v := ?_) (a' := ?_) #[true, false, false, false, false, false, false, false, false, false, false, false] rfl rfl (any_of HT_.out (by kernel_rfl)) (fun _ _ _ h => h) (Or.inl ⟨by rfl, ?_⟩) ?_ ?_
  rotate_left
  · intro w'
    go_simp
    with_reducible rfl
  rotate_left
  · simp only [Act.put, List.setIfInBounds_toArray, List.set_cons_zero, List.set_cons_succ, i64_w, i32_w]
    rfl
  refine pure_ (i := 1) (N := (some 38)) (v := ?_) (a' := ?_) #[true, true, false, false, false, false, false, false, false, false, false, false] rfl rfl (any_of HT_.out (by kernel_rfl)) (fun _ _ _ h => h) (Or.inl ⟨by rfl, ?_⟩) ?_ ?_
  rotate_left
  · intro w'
    go_simp
    with_reducible rfl
  rotate_left
  · simp only [Act.put, List.setIfInBounds_toArray, List.set_cons_zero, List.set_cons_succ, i64_w, i32_w]
    rfl
  refine pure_ (i := 2) (N := (some 39)) (v := ?_) (a' := ?_) #[true, true, true, false, false, false, false, false, false, false, false, false] rfl rfl (any_of HT_.out (by kernel_rfl)) (fun _ _ _ h => h) (Or.inl ⟨by rfl, ?_⟩) ?_ ?_
  rotate_left
  · intro w'
    go_simp
    with_reducible rfl
  rotate_left
  · simp only [Act.put, List.setIfInBounds_toArray, List.set_cons_zero, List.set_cons_succ, i64_w, i32_w]
    rfl
  refine take_ (i := 3) (N := (some 40)) (v := ?_) (a' := ?_) #[true, true, true, true, false, false, false, false, false, false, false, false] rfl rfl (take_of HT_.out (by kernel_rfl)) (fun _ _ _ h => h) (Or.inl ⟨by rfl, ?_⟩) hHeld ?_ ?_
  rotate_left
  · rintro w' ⟨s0, s1, s2⟩
    go_simp
    with_reducible rfl
  rotate_left
  · simp only [Act.put, List.setIfInBounds_toArray, List.set_cons_zero, List.set_cons_succ, i64_w, i32_w]
    rfl
  refine take_ (i := 4) (N := (some 41)) (v := ?_) (a' := ?_) #[true, true, true, true, true, false, false, false, false, false, false, false] rfl rfl (take_of HT_.out (by kernel_rfl)) (fun _ _ _ h => h) (Or.inl ⟨by rfl, ?_⟩) hHeld ?_ ?_
  rotate_left
  · rintro w' ⟨s0, s1, s2⟩
    go_simp
    with_reducible rfl
  rotate_left
  · simp only [Act.put, List.setIfInBounds_toArray, List.set_cons_zero, List.set_cons_succ, i64_w, i32_w]
    rfl
  refine pure_ (i := 5) (N := (some 43)) (v := ?_) (a' := ?_) #[true, true, true, true, true, true, false, false, false, false, false, false] rfl rfl (any_of HT_.out (by kernel_rfl)) (fun _ _ _ h => h) (Or.inl ⟨by rfl, ?_⟩) ?_ ?_
  rotate_left
  · intro w'
    go_simp
    with_reducible rfl
  rotate_left
  · simp only [Act.put, List.setIfInBounds_toArray, List.set_cons_zero, List.set_cons_succ, i64_w, i32_w]
    rfl
  refine one_ (i := 6) (N := (some 44)) #[true, true, true, true, true, true, true, false, false, false, false, false] rfl rfl (one_of HT_.out (by kernel_rfl)) (by decide) (fun K hK => ?_)
  refine value_ (by rfl) rfl (v := .slice (some ⟨w3.heap.size, 0, none⟩) 1 1) (w1 := w3.alloc (.cells #[.string x] 9)) (by go_simp) ?_
  refine hK.out _ _ ⟨pw_cell_below (below_alloc (Below.refl _ _) _) hHeld.1, pw_cell_below (below_alloc (Below.refl _ _) _) hHeld.2.1, pw_cell_below (below_alloc (Below.refl _ _) _) hHeld.2.2⟩ (fun hHeld => ?_)
  have hN3 := hN2.below hgw (below_alloc (Below.refl _ w3) (.cells #[.string x] 9))
  obtain ⟨v0, sto, es1, ck1, hME, hrow, hv0, hES⟩ := hN3.entry f t hf ht
  have hHS : Hid (w3.heap.size < (w3.alloc (.cells #[.string x] 9)).heap.size) := Lib.hid (by simp)
  have hXC : Hid ((w3.alloc (.cells #[.string x] 9)).heap[w3.heap.size]? = some (.cells #[.string x] 9 (0, 0))) := Lib.hid (heap_alloc_new _ _)
  have HB3 := Lib.hid (below_alloc (Below.refl _ w3) (.cells #[.string x] 9))
  have hsz := Lib.hid (show (w3.alloc (.cells #[.string x] 9)).heap.size = w3.heap.size + 1 by simp)
  clear hHeld
  generalize (w3.alloc (.cells #[.string x] 9)) = w4 at hN3 hME hrow hHS hXC HB3 hsz ⊢
  refine last_ (i := 7) (N := (some 45)) #[true, true, true, true, true, true, true, true, false, false, false, false] rfl rfl (one_of HT_.out (by kernel_rfl)) (by decide) (fun K hK => ?_)
  refine value_ (by rfl) rfl (v := .tuple #[v0, goInt sto]) (w1 := Go.ChangeMaps.setBlock w4 bm (.map es1 ck1)) (mapEntry_run rfl rfl rfl hME) ?_
  refine hK.out _ _ ?_
  have hm5 : (Go.ChangeMaps.setBlock w4 bm (.map es1 ck1)).heap[bm]? = some (.map es1 ck1) := setBlock_same hN3.m
  have h5 : ∀ k, k ≠ bm → (Go.ChangeMaps.setBlock w4 bm (.map es1 ck1)).heap[k]? = w4.heap[k]? := fun k hk => setBlock_other hk
  have hz5 := setBlock_size w4 bm (.map es1 ck1)
  have hB5 : Below w0.heap.size w0 (Go.ChangeMaps.setBlock w4 bm (.map es1 ck1)) := below_setBlock (below_then hB3.out hB3.out.size HB3.out) hN3.hbm
  have hrow5 : (Go.ChangeMaps.setBlock w4 bm (.map es1 ck1)).ownsRow w0.heap.size 9 1 v0 (B f t).length (pw_strs (B f t)) := own_same hrow (fun k hk => h5 k (fun e => (hN3.row_ne hrow).2 (by rw [← e]; exact hk.symm)))
  have hx5 : (Go.ChangeMaps.setBlock w4 bm (.map es1 ck1)).heap[w3.heap.size]? = some (.cells #[.string x] 9 (0, 0)) := (h5 _ (fun e => by have := hXC.out; rw [e, hN3.m] at this; cases this)).trans hXC.out
  clear hME
  generalize Go.ChangeMaps.setBlock w4 bm (.map es1 ck1) = w5 at hm5 h5 hz5 hB5 hrow5 hx5 ⊢
  have H5 := Lib.hid h5
  have HM5 := Lib.hid hm5
  have HZ5 := Lib.hid hz5
  clear h5 hm5 hz5
  refine pure_ (i := 8) (N := (some 42)) (v := ?_) (a' := ?_) #[true, true, true, true, true, true, true, true, true, false, false, false] rfl rfl (any_of HT_.out (by kernel_rfl)) (fun _ _ _ h => h) (Or.inl ⟨by rfl, ?_⟩) ?_ ?_
  rotate_left
  · intro w'
    go_simp
    with_reducible rfl
  rotate_left
  · simp only [Act.put, List.setIfInBounds_toArray, List.set_cons_zero, List.set_cons_succ, i64_w, i32_w]
    rfl
  refine pure_ (i := 10) (N := (some 47)) (v := ?_) (a' := ?_) #[true, true, true, true, true, true, true, true, true, false, true, false] rfl rfl (any_of HT_.out (by kernel_rfl)) (fun _ _ _ h => h) (Or.inl ⟨by rfl, ?_⟩) ?_ ?_
  rotate_left
  · intro w'
    go_simp
    with_reducible rfl
  rotate_left
  · simp only [Act.put, List.setIfInBounds_toArray, List.set_cons_zero, List.set_cons_succ, i64_w, i32_w]
    rfl
  refine last_ (i := 9) (N := (some 46)) #[true, true, true, true, true, true, true, true, true, true, true, false] rfl rfl (one_of HT_.out (by kernel_rfl)) (by decide) (fun K hK => ?_)
  refine step_append_lies _ rfl _ _ 42 rfl w0.heap.size 9 i0 (.string ByteArray.empty) 1 16 Try.underlying42 hi9 hz0 hz1 hz2 rfl (by decide) v0 (B f t).length (pw_strs (B f t)) rfl hrow5 ⟨w3.heap.size, 0, none⟩ 1 1 [.string x] rfl rfl (World.news_of_block (cs := #[.string x]) (t := 9) (fr := (0, 0)) hx5) (by simp [Value.oneCell']) (by decide) (by unfold maxLen; omega) (by omega) hB5.size w5.heap.size rfl ?_
  intro g' cap w6 hown6 hgrow6 hat6 hlt6
  refine hK.out _ _ ?_
  have hne5 := (hN3.row_ne hrow)
  have hm6 : w6.heap[bm]? = some (.map es1 ck1) := (hgrow6.block bm (blk_lt HM5.out) hne5.2).trans HM5.out
  obtain ⟨es', hrun, hP⟩ := hES w6 (.slice (some ⟨g', 0, none⟩) ((B f t).length + 1) cap) hm6
  refine last_ (i := 11) (N := none) #[true, true, true, true, true, true, true, true, true, true, true, true] rfl rfl (one_of HT_.out (by kernel_rfl)) (by decide) (fun K hK => ?_)
  refine skip_ (by rfl) rfl (w1 := Go.ChangeMaps.setBlock w6 bm (.map es' ck1)) (entryStore_run rfl rfl rfl rfl hrun) ?_
  refine hK.out _ _ ?_
  refine done_ (done_of HT_.out (by kernel_rfl)) ?_
  have hap : ∀ y ∈ es.toList, y.key ≠ KEY f t → y.val.ownBlock = none ∨ y.val.ownBlock ≠ v0.ownBlock := fun y hy hne => by
    rcases hv0 with e | ⟨x0, hx0, e1, e2⟩
    · cases hyb : y.val.ownBlock with
      | none => exact .inl rfl
      | some k => right; rw [e]; simp [Value.ownBlock]
    · rw [← e2]; exact hN3.apart y hy x0 hx0 (fun e => hne (e.trans e1))
  have hrl : ∀ y ∈ es.toList, ∀ k, y.val.ownBlock = some k → k < w5.heap.size ∧ k ≠ bm := fun y hy k hk => by
    obtain ⟨a, b, e, _, _⟩ := hN3.ks y hy
    have ho := hN3.row y hy a b e
    exact ⟨by rw [HZ5.out]; exact own_lt ho k hk, fun e => (hN3.row_ne ho).2 (by rw [← e]; exact hk.symm)⟩
  have hgb : g' ≠ bm := fun e => by
    obtain ⟨cells, hc⟩ := own_typed hown6 g' rfl
    rw [e, hm6] at hc; cases hc
  have hNew : NetB Kp (Go.ChangeMaps.setBlock w6 bm (.map es' ck1)) w0.heap.size g bm es' ck1 s r (upd B f t (B f t ++ [x])) := by
    refine hN3.put hf ht hP (setBlock_same hm6) ((setBlock_other hN3.g_ne).trans ((hgrow6.block g (by rw [HZ5.out]; exact blk_lt hN3.g) hne5.1).trans (H5.out g hN3.g_ne))) ?_ (fun y hy hne => ?_) (fun y hy hne k hk => ?_) (by simp; omega) (fun y hy => ?_) (fun j o hj => ?_)
    · have e1 : (B f t ++ [x]).length = (B f t).length + 1 := by simp
      have e2 : pw_strs (B f t ++ [x]) = pw_strs (B f t) ++ [.string x] := by simp [pw_strs]
      rw [e1, e2]
      exact own_same hown6 (fun k hk => setBlock_other (fun e => hgb (by rw [← e]; exact Option.some.inj hk)))
    · cases hyb : y.val.ownBlock with
      | none => exact .inl rfl
      | some k =>
        right
        intro e
        have e3 : k = g' := Option.some.inj e
        rcases hat6 with q | q
        · rcases hap y hy hne with z | z
          · rw [hyb] at z; cases z
          · exact z (by rw [hyb, q, e3])
        · have := (hrl y hy k hyb).1; omega
    · refine (setBlock_other (hrl y hy k hk).2).trans ((hgrow6.block k (hrl y hy k hk).1 ?_).trans (H5.out k (hrl y hy k hk).2))
      intro e
      rcases hap y hy hne with z | z
      · rw [hk] at z; cases z
      · exact z (by rw [hk, e])
    · rcases List.mem_append.1 hy with hy | hy
      · exact hN3.str f t y hy
      · rw [List.mem_singleton.1 hy]; exact HX.out
    · obtain ⟨f1, f2, f3, f4⟩ := hN3.fr j o hj
      have hv : v0.ownBlock ≠ some j := by
        rcases hv0 with e | ⟨x0, hx0, _, e2⟩
        · rw [e]; simp [Value.ownBlock]
        · rw [← e2]; exact f4 x0 hx0
      have hj5 : w5.heap[j]? = some o := (H5.out j f3).trans f1
      refine ⟨(setBlock_other f3).trans ((hgrow6.block j (blk_lt hj5) (fun e => hv e.symm)).trans hj5), fun e => ?_⟩
      have e3 : g' = j := Option.some.inj e
      rcases hat6 with q | q
      · exact hv (by rw [q, e3])
      · have := blk_lt hj5; omega
  have hBf : Below w0.heap.size w0 (Go.ChangeMaps.setBlock w6 bm (.map es' ck1)) := below_setBlock (hB5.grown hgrow6 hB5.size (fun k hk => own_base hrow5 k hk)) hN3.hbm
  have HF : Hid (Net Kp w0 (Go.ChangeMaps.setBlock w6 bm (.map es' ck1)) g s r (upd B f t (B f t ++ [x]))) := Lib.hid ⟨hBf, hgw, HN.out.s0, HN.out.s1, HN.out.r0, HN.out.r1, bm, es', ck1, hNew⟩
  clear hBf hNew hrun hP hES hown6 hgrow6 hat6 hlt6 hm6 hrow5 hx5 hB5
  generalize Go.ChangeMaps.setBlock w6 bm (.map es' ck1) = w7 at HF ⊢
  go_wp2
  go_ret
  exact ⟨rfl, HF.out⟩
end Go.Proofs.Ytmbaagaeobcmaaa.SdK
