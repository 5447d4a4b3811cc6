/- links.Take: the walk. -/
import Derived.Test.YtmbaagaeobcmaaaDl
set_option linter.unusedVariables false
set_option linter.unusedSimpArgs false
namespace Go.Proofs.Ytmbaagaeobcmaaa.Nt
theorem key_one {es : Array MapEntry} (h : (es.toList.map (·.key)).Nodup) {x y : MapEntry} (hx : x ∈ es.toList) (hy : y ∈ es.toList) (e : x.key = y.key) : x = y := by
  obtain ⟨i, hi⟩ := List.getElem?_of_mem hx
  obtain ⟨j, hj⟩ := List.getElem?_of_mem hy
  have hil : i < es.toList.length := (List.getElem?_eq_some_iff.1 hi).1
  have a : (es.toList.map (·.key))[i]? = some x.key := by rw [List.getElem?_map, hi]; rfl
  have b : (es.toList.map (·.key))[j]? = some x.key := by rw [List.getElem?_map, hj]; simp [e]
  have hij := (List.getElem?_inj (by simpa using hil) h).1 (a.trans b.symm)
  subst hij
  rw [hi] at hj
  exact Option.some.inj hj
end Go.Proofs.Ytmbaagaeobcmaaa.Nt
namespace Go.Proofs.Ytmbaagaeobcmaaa.Tk
open Go.MapKept Go.WideMaps
open Go.RowKit Go.Proofs.Ytmbaagaeobcmaaa.Nt Go.Proofs.Ytmbaagaeobcmaaa.Nc Go.Proofs.Ytmbaagaeobcmaaa.Sd Go.Proofs.Ytmbaagaeobcmaaa.Dl Go.Proofs.YtmbaagaeobcmaaaW.PrintWords Go.Proofs.YtmbaagaeobcmaaaW.PrintLast
theorem Take_nil (f t i : Int) (w : World) : Calls Try.prog 15 #[.pointer none, .int .i64 f, .int .i64 t, .int .i64 i] w fun e w' => e = .returned (.tuple #[.string ByteArray.empty, .bool false]) ∧ w' = w := by
  go_enter Try.func15, Try.ntmps15
  go_wp2_with (go_at_call 25; refine (has_nil _ _ _ _).mono ?_; rintro e w1 ⟨rfl, rfl⟩)
  go_ret2
  exact ⟨rfl, rfl⟩
theorem Take_no {w0 W : World} {g : Nat} {s r : Int} {B : Int → Int → List ByteArray} (h : Net w0 W g s r B) (f t i : Int) (hh : hasB s f t i (B f t).length = false) :
    Calls Try.prog 15 #[.pointer (some ⟨g, 0, none⟩), .int .i64 f, .int .i64 t, .int .i64 i] W fun e w' => e = .returned (.tuple #[.string ByteArray.empty, .bool false]) ∧ w' = W := by
  have H := has_calls h f t i
  rw [hh] at H
  clear hh h
  go_enter Try.func15, Try.ntmps15
  go_wp2_with (go_at_call 25; refine H.mono ?_; rintro e w1 ⟨rfl, rfl⟩)
  go_ret2
  exact ⟨rfl, rfl⟩
theorem hasB_spec {s f t i : Int} {n : Nat} (h : hasB s f t i n = true) : isB s f t = true ∧ ∃ k : Nat, i = (k : Int) ∧ k < n := by
  unfold hasB at h
  simp at h
  exact ⟨h.1, i.toNat, by omega, by omega⟩
theorem _root_.Go.Proofs.Ytmbaagaeobcmaaa.Nt.NetB.lookM {W : World} {base g bm : Nat} {es : Array MapEntry} {ck : Nat} {s r : Int} {B : Int → Int → List ByteArray} (h : NetB W base g bm es ck s r B) (f t : Int) (hf : Wf f) (ht : Wf t) :
    ∃ v, (∀ w' : World, w'.heap[bm]? = some (.map es ck) → (Instr.lookup 46 (.map (some bm)) (.agg #[.int .i64 f, .int .i64 t]) false).run Try.prog w' = .ok v w') ∧ W.ownsRow base 9 1 v (B f t).length (pw_strs (B f t)) ∧ (v = .slice none 0 0 ∨ ∃ x ∈ es.toList, x.key = KEY f t ∧ x.val = v) := by
  obtain ⟨l, hl⟩ := keyOf53 f t hf ht
  by_cases hex : ∃ x ∈ es.toList, x.key = KEY f t
  · obtain ⟨x, hx, hxk⟩ := hex
    refine ⟨x.val, fun w' hw' => ?_, h.row x hx f t hxk, .inr ⟨x, hx, hxk, rfl⟩⟩
    rcases law.find w' hl es.toList h.keys with ⟨h1, h2⟩ | ⟨j, e0, h1, h2, h3⟩
    · exact absurd hxk (h2 x hx)
    · have he : e0 = x := Nt.key_one h.st.2.2 (List.mem_of_getElem? h2) hx (h3.trans hxk.symm)
      subst he
      have h1' : (Instr.findKey 53 (.agg #[.int .i64 f, .int .i64 t]) es.toList).run Try.prog w' = _ := h1
      have hc : (Instr.checkKey es.isEmpty 10000 53 (.agg #[.int .i64 f, .int .i64 t])).run Try.prog w' = .ok () w' := law.check w' _ hl
      simp [Instr.lookup, run_underlying Try.underlying46, MapKept.run_getObj_map hw', hc, h1', Result.andThen]
  · have hno : ∀ x ∈ es.toList, x.key ≠ KEY f t := fun x hx e => hex ⟨x, hx, e⟩
    refine ⟨.slice none 0 0, fun w' hw' => ?_, by rw [h.no f t hno]; exact own_nil _ _ _ _, .inl rfl⟩
    rcases law.find w' hl es.toList h.keys with ⟨h1, h2⟩ | ⟨j, e0, h1, h2, h3⟩
    · have h1' : (Instr.findKey 53 (.agg #[.int .i64 f, .int .i64 t]) es.toList).run Try.prog w' = _ := h1
      have hc : (Instr.checkKey es.isEmpty 10000 53 (.agg #[.int .i64 f, .int .i64 t])).run Try.prog w' = .ok () w' := law.check w' _ hl
      simp [Instr.lookup, run_underlying Try.underlying46, MapKept.run_getObj_map hw', hc, h1', zero46, Result.andThen]
    · exact absurd h3 (hno e0 (List.mem_of_getElem? h2))
theorem mapUpdate_run {a : Act} {oi : Oper} {T : TypeId} {x y z : Operand} {m k v : Value} {W w1 : World} (hop : oi.op = .mapUpdate T x y z) (hx : a.eval x = m) (hy : a.eval y = k) (hz : a.eval z = v) (h : (Instr.mapUpdate T m k v).run Try.prog W = .ok () w1) : (execOp a.eval oi).run Try.prog W = .ok .skip w1 := by
  unfold execOp; simp [hop, hx, hy, hz, h, Result.andThen]
theorem tab5 : rtab .any (opsOf Try.f15 5) = rtab .any (opsOf Try.f15 5) := rfl
set_option maxHeartbeats 4000000 in
set_option maxRecDepth 100000 in
theorem Take_yes {w0 W : World} {g : Nat} {s r : Int} {B : Int → Int → List ByteArray} (h : Net w0 W g s r B) (f t : Int) (k : Nat) (hi : isB s f t = true) (hk : k < (B f t).length) :
    Calls Try.prog 15 #[.pointer (some ⟨g, 0, none⟩), .int .i64 f, .int .i64 t, .int .i64 (k : Nat)] W fun e w' => e = .returned (.tuple #[.string (B f t)[k], .bool true]) ∧ Net w0 w' g s r (upd B f t ((B f t).eraseIdx k)) := by
  have hh : hasB s f t (k : Int) (B f t).length = true := by unfold hasB; simp [hi, hk]
  have H := has_calls h f t k
  rw [hh] at H
  clear hh
  obtain ⟨hf, ht⟩ := isB_wf h.s1 hi
  have hlr : ((B f t).length : Int) ≤ 1000 := by obtain ⟨_, _, _, hN⟩ := h.ex; have := hN.len f t; have := h.r1; omega
  have HN := Lib.hid (h.below (below_alloc (Below.refl _ W) (.cells #[.int .i64 f, .int .i64 t] 53)))
  have L0 : (W.alloc (.cells #[.int .i64 f, .int .i64 t] 53)).cell? ⟨W.heap.size, 0, none⟩ = some (.int .i64 f) := by simp
  have L1 : (W.alloc (.cells #[.int .i64 f, .int .i64 t] 53)).cell? ⟨W.heap.size, 1, none⟩ = some (.int .i64 t) := by simp
  have HL0 := Lib.hid L0
  have HL1 := Lib.hid L1
  have HLB := Lib.hid (heap_alloc_new W (.cells #[.int .i64 f, .int .i64 t] 53))
  clear h hi L0 L1
  go_enter Try.func15, Try.ntmps15
  go_upto_region 4 with (go_at_call 25; refine H.mono ?_; rintro e W ⟨rfl, rfl⟩)
  clear H
  generalize W.alloc (.cells #[.int .i64 f, .int .i64 t] 53) = w1 at HN HL0 HL1 HLB ⊢
  obtain ⟨bm0, A, c, m2, hl, ho⟩ := Net.c2 HN.out.drew f t hf ht
  obtain ⟨q, rfl, _, hq, hR⟩ := row_of ho (by omega)
  have ck := hR.cell k hk
  have l0 : w1.drew.cell? ⟨W.heap.size, 0, none⟩ = some (.int .i64 f) := HL0.out
  have l1 : w1.drew.cell? ⟨W.heap.size, 1, none⟩ = some (.int .i64 t) := HL1.out
  obtain ⟨y, hy⟩ : ∃ y, y = (B f t)[k] := ⟨_, rfl⟩
  rw [← hy] at ck
  have HY := Lib.hid hy
  clear hy
  refine wp_region_still_tail 9 (by kernel_rfl) (by kernel_rfl) ?_
  show wpStill _ _ w1.drew _ _ _
  simp only [List.take_succ_cons, List.take_zero, List.drop_succ_cons, List.drop_zero]
  repeat still_step
  refine wpStill_nil ?_
  show wpList _ _ _ _ _ w1.drew
  clear hl m2 l0 l1 ho ck hR
  replace HN := Lib.hid HN.out.drew
  have HL0 : Hid (w1.drew.cell? ⟨W.heap.size, 0, none⟩ = some (.int .i64 f)) := HL0
  have HL1 : Hid (w1.drew.cell? ⟨W.heap.size, 1, none⟩ = some (.int .i64 t)) := HL1
  have HLB : Hid (w1.drew.heap[W.heap.size]? = some (.cells #[.int .i64 f, .int .i64 t] 53 (0, 0))) := HLB
  generalize w1.drew = w2 at HN HL0 HL1 HLB ⊢
  go_upto_region 5 with fail
  have ek : IntKind.i64.wrap ((k : Int) + 1) = (k : Int) + 1 := IntWalk.i64_in _ (by omega)
  obtain ⟨bm, es, ck, hN2⟩ := HN.out.drew.ex
  obtain ⟨v, hl, ho, hv0⟩ := hN2.lookM f t hf ht
  obtain ⟨A, c2, rfl⟩ := own_slice ho
  obtain ⟨q2, rfl, _, hq2, hR⟩ := row_of ho (Nat.lt_of_le_of_lt (Nat.zero_le k) hk)
  have s0 : w2.drew.cell? ⟨g, 2, none⟩ = some (.map (some bm)) := by rw [blk_cell hN2.g]; rfl
  have s1 : w2.drew.cell? ⟨W.heap.size, 0, none⟩ = some (.int .i64 f) := HL0.out
  have s2 : w2.drew.cell? ⟨W.heap.size, 1, none⟩ = some (.int .i64 t) := HL1.out
  have s3 := hN2.m
  have hgq : g ≠ q2 := fun e => (hN2.row_ne ho).1 (by rw [e]; rfl)
  have hmq : bm ≠ q2 := fun e => (hN2.row_ne ho).2 (by rw [e]; rfl)
  have hLq : W.heap.size ≠ q2 := fun e => by
    obtain ⟨cur, h1, _, _⟩ := hR.ex
    rw [← e] at h1
    have h2 := HLB.out
    rw [show w2.drew.heap[W.heap.size]? = w2.heap[W.heap.size]? from rfl, h2] at h1
    cases h1
  have hlg := blk_lt hN2.g
  have hlL : W.heap.size < w2.drew.heap.size := blk_lt (show w2.drew.heap[W.heap.size]? = _ from HLB.out)
  have hlm := blk_lt hN2.m
  have hN3 := Lib.hid hN2
  have hR3 := Lib.hid hR
  have hB3 := Lib.hid (below_drew HN.out.bl)
  clear hN2 hR ho
  refine start_ (n := 16) (S := (fun w' => w'.cell? ⟨g, 2, none⟩ = some (.map (some bm)) ∧ w'.cell? ⟨W.heap.size, 0, none⟩ = some (.int .i64 f) ∧ w'.cell? ⟨W.heap.size, 1, none⟩ = some (.int .i64 t) ∧ w'.heap[bm]? = some (.map es ck))) (ds := [15]) #[false, false, false, false, false, false, false, false, false, false, false, false, false, false, false, false] (by kernel_rfl) rfl rfl ⟨s0, s1, s2, s3⟩ (fun hHeld => ?_)
  refine with_tab tab5 (fun HT_ => ?_)
  generalize w2.drew = w3 at hN3 hR3 hB3 hlg hlL hlm hHeld ⊢
  refine pure_ (i := 0) (N := (some 30)) (v := ?_) (a' := ?_) #[true, false, false, false, false, false, false, false, false, false, false, false, false, false, false, false] rfl rfl (any_of HT_.out (by kernel_rfl)) (fun _ _ _ h => h) (Or.inl ⟨by rfl, ?_⟩) ?_ ?_
  rotate_left
  · intro w'
    go_simp
    with_reducible rfl
  rotate_left
  · simp only [Act.put, List.setIfInBounds_toArray, List.set_cons_zero, List.set_cons_succ, i64_w, i32_w]
    rfl
  refine pure_ (i := 1) (N := (some 31)) (v := ?_) (a' := ?_) #[true, true, false, false, false, false, false, false, false, false, false, false, false, false, false, false] rfl rfl (any_of HT_.out (by kernel_rfl)) (fun _ _ _ h => h) (Or.inl ⟨by rfl, ?_⟩) ?_ ?_
  rotate_left
  · intro w'
    go_simp
    with_reducible rfl
  rotate_left
  · simp only [Act.put, List.setIfInBounds_toArray, List.set_cons_zero, List.set_cons_succ, i64_w, i32_w]
    rfl
  refine pure_ (i := 2) (N := (some 32)) (v := ?_) (a' := ?_) #[true, true, true, false, false, false, false, false, false, false, false, false, false, false, false, false] rfl rfl (any_of HT_.out (by kernel_rfl)) (fun _ _ _ h => h) (Or.inl ⟨by rfl, ?_⟩) ?_ ?_
  rotate_left
  · intro w'
    go_simp
    with_reducible rfl
  rotate_left
  · simp only [Act.put, List.setIfInBounds_toArray, List.set_cons_zero, List.set_cons_succ, i64_w, i32_w]
    rfl
  refine take_ (i := 3) (N := (some 33)) (v := ?_) (a' := ?_) #[true, true, true, true, false, false, false, false, false, false, false, false, false, false, false, false] rfl rfl (take_of HT_.out (by kernel_rfl)) (fun _ _ _ h => h) (Or.inl ⟨by rfl, ?_⟩) hHeld ?_ ?_
  rotate_left
  · rintro w' ⟨s0, s1, s2, s3⟩
    go_simp
    with_reducible rfl
  rotate_left
  · simp only [Act.put, List.setIfInBounds_toArray, List.set_cons_zero, List.set_cons_succ, i64_w, i32_w]
    rfl
  refine take_ (i := 4) (N := (some 34)) (v := ?_) (a' := ?_) #[true, true, true, true, true, false, false, false, false, false, false, false, false, false, false, false] rfl rfl (take_of HT_.out (by kernel_rfl)) (fun _ _ _ h => h) (Or.inl ⟨by rfl, ?_⟩) hHeld ?_ ?_
  rotate_left
  · rintro w' ⟨s0, s1, s2, s3⟩
    go_simp
    with_reducible rfl
  rotate_left
  · simp only [Act.put, List.setIfInBounds_toArray, List.set_cons_zero, List.set_cons_succ, i64_w, i32_w]
    rfl
  refine pure_ (i := 5) (N := (some 35)) (v := ?_) (a' := ?_) #[true, true, true, true, true, true, false, false, false, false, false, false, false, false, false, false] rfl rfl (any_of HT_.out (by kernel_rfl)) (fun _ _ _ h => h) (Or.inl ⟨by rfl, ?_⟩) ?_ ?_
  rotate_left
  · intro w'
    go_simp
    with_reducible rfl
  rotate_left
  · simp only [Act.put, List.setIfInBounds_toArray, List.set_cons_zero, List.set_cons_succ, i64_w, i32_w]
    rfl
  refine pure_ (i := 6) (N := (some 36)) (v := ?_) (a' := ?_) #[true, true, true, true, true, true, true, false, false, false, false, false, false, false, false, false] rfl rfl (any_of HT_.out (by kernel_rfl)) (fun _ _ _ h => h) (Or.inl ⟨by rfl, ?_⟩) ?_ ?_
  rotate_left
  · intro w'
    go_simp
    with_reducible rfl
  rotate_left
  · simp only [Act.put, List.setIfInBounds_toArray, List.set_cons_zero, List.set_cons_succ, i64_w, i32_w]
    rfl
  refine pure_ (i := 7) (N := (some 37)) (v := ?_) (a' := ?_) #[true, true, true, true, true, true, true, true, false, false, false, false, false, false, false, false] rfl rfl (any_of HT_.out (by kernel_rfl)) (fun _ _ _ h => h) (Or.inl ⟨by rfl, ?_⟩) ?_ ?_
  rotate_left
  · intro w'
    go_simp
    with_reducible rfl
  rotate_left
  · simp only [Act.put, List.setIfInBounds_toArray, List.set_cons_zero, List.set_cons_succ, i64_w, i32_w]
    rfl
  refine take_ (i := 8) (N := (some 38)) (v := ?_) (a' := ?_) #[true, true, true, true, true, true, true, true, true, false, false, false, false, false, false, false] rfl rfl (take_of HT_.out (by kernel_rfl)) (fun _ _ _ h => h) (Or.inl ⟨by rfl, ?_⟩) hHeld ?_ ?_
  rotate_left
  · rintro w' ⟨s0, s1, s2, s3⟩
    go_simp
    with_reducible rfl
  rotate_left
  · simp only [Act.put, List.setIfInBounds_toArray, List.set_cons_zero, List.set_cons_succ, i64_w, i32_w]
    rfl
  refine take_ (i := 9) (N := (some 39)) (v := ?_) (a' := ?_) #[true, true, true, true, true, true, true, true, true, true, false, false, false, false, false, false] rfl rfl (take_of HT_.out (by kernel_rfl)) (fun _ _ _ h => h) (Or.inl ⟨by rfl, ?_⟩) hHeld ?_ ?_
  rotate_left
  · rintro w' ⟨s0, s1, s2, s3⟩
    go_simp
    with_reducible rfl
  rotate_left
  · simp only [Act.put, List.setIfInBounds_toArray, List.set_cons_zero, List.set_cons_succ, i64_w, i32_w]
    rfl
  refine take_ (i := 10) (N := (some 40)) (v := ?_) (a' := ?_) #[true, true, true, true, true, true, true, true, true, true, true, false, false, false, false, false] rfl rfl (take_of HT_.out (by kernel_rfl)) (fun _ _ _ h => h) (Or.inl ⟨by rfl, ?_⟩) hHeld ?_ ?_
  rotate_left
  · rintro w' ⟨s0, s1, s2, s3⟩
    have hlw := hl w' s3
    go_simp
    with_reducible rfl
  rotate_left
  · simp only [Act.put, List.setIfInBounds_toArray, List.set_cons_zero, List.set_cons_succ, i64_w, i32_w]
    rfl
  refine pure_ (i := 11) (N := (some 41)) (v := ?_) (a' := ?_) #[true, true, true, true, true, true, true, true, true, true, true, true, false, false, false, false] rfl rfl (any_of HT_.out (by kernel_rfl)) (fun _ _ _ h => h) (Or.inl ⟨by rfl, ?_⟩) ?_ ?_
  rotate_left
  · intro w'
    go_simp
    with_reducible rfl
  rotate_left
  · simp only [Act.put, List.setIfInBounds_toArray, List.set_cons_zero, List.set_cons_succ, i64_w, i32_w]
    rfl
  refine pure_ (i := 12) (N := (some 42)) (v := ?_) (a' := ?_) #[true, true, true, true, true, true, true, true, true, true, true, true, true, false, false, false] rfl rfl (any_of HT_.out (by kernel_rfl)) (fun _ _ _ h => h) (Or.inl ⟨by rfl, ?_⟩) ?_ ?_
  rotate_left
  · intro w'
    go_simp
    with_reducible rfl
  rotate_left
  · simp only [Act.put, List.setIfInBounds_toArray, List.set_cons_zero, List.set_cons_succ, i64_w, i32_w]
    rfl
  refine pure_ (i := 13) (N := (some 43)) (v := ?_) (a' := ?_) #[true, true, true, true, true, true, true, true, true, true, true, true, true, true, false, false] rfl rfl (any_of HT_.out (by kernel_rfl)) (fun _ _ _ h => h) (Or.inl ⟨by rfl, ?_⟩) ?_ ?_
  rotate_left
  · intro w'
    go_simp
    with_reducible rfl
  rotate_left
  · simp only [Act.put, List.setIfInBounds_toArray, List.set_cons_zero, List.set_cons_succ, i64_w, i32_w]
    rfl
  refine one_ (i := 14) (N := (some 44)) #[true, true, true, true, true, true, true, true, true, true, true, true, true, true, true, false] rfl rfl (one_of HT_.out (by kernel_rfl)) (by decide) (fun K hK => ?_)
  refine goes_ (N := some 44) Try.func26 (by kernel_rfl) rfl #[.slice (some ⟨q2, 0, none⟩) (B f t).length c2, .int .i64 (k : Nat), .int .i64 ((k : Int) + 1)] (by rfl) rfl rfl (by simp only [List.map_toArray, List.map_cons, List.map_nil]; rfl) ?_
  refine (Delete_calls q2 c2 (B f t) k w3 hR3.out hk).mono ?_
  rintro e w4 ⟨rfl, hR4, hB4⟩
  refine ⟨_, rfl, ?_⟩
  refine hK.out _ _ ⟨?_, ?_, ?_, ?_⟩ (fun hHeld => ?_)
  · exact (World.cell?_of_block (hB4.block g hgq hlg)).trans hHeld.1
  · exact (World.cell?_of_block (hB4.block _ hLq hlL)).trans hHeld.2.1
  · exact (World.cell?_of_block (hB4.block _ hLq hlL)).trans hHeld.2.2.1
  · exact (hB4.block bm hmq hlm).trans hHeld.2.2.2
  obtain ⟨es', ck', hrun, hP⟩ := hN3.out.update f t hf ht w4 hHeld.2.2.2 (.slice (some ⟨q2, 0, none⟩) ((B f t).length - 1) c2)
  refine last_ (i := 15) (N := none) #[true, true, true, true, true, true, true, true, true, true, true, true, true, true, true, true] rfl rfl (one_of HT_.out (by kernel_rfl)) (by decide) (fun K hK => ?_)
  refine skip_ (by rfl) rfl (w1 := Go.ChangeMaps.setBlock w4 bm (.map es' ck')) (mapUpdate_run rfl rfl rfl rfl hrun) ?_
  refine hK.out _ _ ?_
  refine done_ (done_of HT_.out (by kernel_rfl)) ?_
  have hel : ((B f t).eraseIdx k).length = (B f t).length - 1 := by rw [List.length_eraseIdx, if_pos hk]
  have hap : ∀ y ∈ es.toList, y.key ≠ KEY f t → y.val.ownBlock = none ∨ y.val.ownBlock ≠ some q2 := fun y hy hne => by
    rcases hv0 with e | ⟨x0, hx0, e1, e2⟩
    · cases e
    · have := hN3.out.apart y hy x0 hx0 (fun e => hne (e.trans e1))
      rw [e2] at this; exact this
  have hrl : ∀ y ∈ es.toList, ∀ j, y.val.ownBlock = some j → j < w3.heap.size ∧ j ≠ bm := fun y hy j hj => by
    obtain ⟨a, b, e, _, _⟩ := hN3.out.ks y hy
    have ho := hN3.out.row y hy a b e
    exact ⟨own_lt ho j hj, fun e => (hN3.out.row_ne ho).2 (by rw [← e]; exact hj.symm)⟩
  have hNew : NetB (Go.ChangeMaps.setBlock w4 bm (.map es' ck')) w0.heap.size g bm es' ck' s r (upd B f t ((B f t).eraseIdx k)) := by
    refine hN3.out.put hf ht hP (setBlock_same hHeld.2.2.2) ((setBlock_other hN3.out.g_ne).trans (hB4.block g hgq hlg)) ?_ (fun y hy hne => ?_) (fun y hy hne j hj => ?_) ?_ (fun y hy => ?_)
    · have ho4 := hR4.own hq2
      rw [hel] at ho4 ⊢
      exact own_same ho4 (fun j hj => setBlock_other (fun e => hmq (by rw [← e]; exact (Option.some.inj hj).symm)))
    · exact hap y hy hne
    · refine (setBlock_other (hrl y hy j hj).2).trans (hB4.block j (fun e => ?_) (hrl y hy j hj).1)
      rcases hap y hy hne with z | z
      · rw [hj] at z; cases z
      · exact z (by rw [hj, e])
    · have := hN3.out.len f t; rw [hel]; omega
    · exact hN3.out.str f t y (List.mem_of_mem_eraseIdx hy)
  have hBf : Below w0.heap.size w0 (Go.ChangeMaps.setBlock w4 bm (.map es' ck')) := below_setBlock ⟨hB4.os.trans hB3.out.os, hB4.tape.trans hB3.out.tape, hB4.output.trans hB3.out.output, Nat.le_trans hB3.out.size hB4.size, fun j hj => (hB4.block j (by omega) (by have := hB3.out.size; omega)).trans (hB3.out.block j hj)⟩ hN3.out.hbm
  have HF : Hid (Net w0 (Go.ChangeMaps.setBlock w4 bm (.map es' ck')) g s r (upd B f t ((B f t).eraseIdx k))) := Lib.hid ⟨hBf, HN.out.hg, HN.out.s0, HN.out.s1, HN.out.r0, HN.out.r1, bm, es', ck', hNew⟩
  clear hBf hNew hrun hP hl hHeld hB4 hR4
  generalize Go.ChangeMaps.setBlock w4 bm (.map es' ck') = w7 at HF ⊢
  go_wp2
  go_ret2
  exact ⟨by rw [← HY.out]; rfl, HF.out⟩
end Go.Proofs.Ytmbaagaeobcmaaa.Tk
