/- duetref05's Cast, Take, Double, Turn: the walks. -/
import Derived.Test.YtmbaagaeobcmaaaRc
set_option linter.unusedVariables false
set_option linter.unusedSimpArgs false
namespace Go.Proofs.Ytmbaagaeobcmaaa.Re
open Go.RowKit Go.Proofs.Ytmbaagaeobcmaaa.NtK Go.Proofs.Ytmbaagaeobcmaaa.NcK Go.Proofs.Ytmbaagaeobcmaaa.SdK Go.Proofs.Ytmbaagaeobcmaaa.TnK Go.Proofs.Ytmbaagaeobcmaaa.CsK Go.Proofs.Ytmbaagaeobcmaaa.Rn Go.Proofs.Ytmbaagaeobcmaaa.Ra Go.Proofs.Ytmbaagaeobcmaaa.Rc Go.Proofs.YtmbaagaeobcmaaaW.PrintWords Go.Proofs.YtmbaagaeobcmaaaW.PrintLast
section
variable {Kp : Nat → Option Obj} {w0 W : World} {g n : Nat} {r : Int} {B : Int → Int → List ByteArray}
set_option maxHeartbeats 1000000 in
theorem RCast_calls (h : RNet Kp w0 W g n r B) (f : Int) (x : ByteArray) :
    Calls Try.prog 14 #[.pointer (some ⟨g, 0, none⟩), .int .i64 f, .string x] W fun e w' => e = .returned (.int .i64 ((castR n r B f x n).1 : Nat)) ∧ RNet Kp w0 w' g n r (castR n r B f x n).2 := by
  have hn := h.s1
  have HN := Lib.hid h
  clear h
  go_enter Try.func14, Try.ntmps14
  go_upto_region 3 with fail
  go_loopw [7, 8] (fun v7 v8 wr => ∃ k : Nat, v8 = .int .i64 k ∧ k ≤ n ∧ v7 = .int .i64 ((castR n r B f x k).1 : Nat) ∧ Hid (RNet Kp w0 wr g n r (castR n r B f x k).2)) (fun _ v8 _ => n - (intOf v8).toNat)
  case atStart => exact ⟨0, rfl, Nat.zero_le _, rfl, HN⟩
  case round =>
    obtain ⟨k, rfl, hk, rfl, HR⟩ := hrel
    obtain ⟨c0, _⟩ := RNet.c HR.out
    have hle := castR_le n r B f x k
    have HD : Hid (castR n r B f x (k + 1) = ((if (sendR n r (castR n r B f x k).2 f (k : Nat) x).1 = 0 then (castR n r B f x k).1 + 1 else (castR n r B f x k).1), (sendR n r (castR n r B f x k).2 f (k : Nat) x).2)) := Lib.hid rfl
    obtain ⟨⟨cc, BB⟩, hcb⟩ : ∃ cb, castR n r B f x k = cb := ⟨_, rfl⟩
    have HE := Lib.hid hcb
    simp only [hcb] at hle HD HR ⊢
    clear hcb
    by_cases hlt : k < n
    · have HS := RSend_calls HR.out f (k : Nat) x
      generalize hse : sendR n r BB f (k : Nat) x = se at HS HD
      obtain ⟨e1, B1⟩ := se
      by_cases h0 : e1 = 0
      · subst h0
        clear hse
        go_wp2_with (go_at_call 12; with_reducible refine HS.mono ?_; rintro e w3 ⟨rfl, hN3⟩)
        go_roundw
        case rel => first | exact ⟨k + 1, by go_num, by omega, by rw [HD.out]; go_num, by rw [HD.out]; exact Lib.hid hN3⟩ | repeat (first | (refine And.intro ?_ rfl; exact ⟨k + 1, by go_num, by omega, by rw [HD.out]; go_num, by rw [HD.out]; exact Lib.hid hN3⟩) | apply Exists.intro)
        case measure => simp [intOf]; omega
      · have hb0 : (e1 == 0) = false := by simpa using h0
        have HH0 := Lib.hid h0
        clear h0 hse
        go_wp2_with (go_at_call 12; with_reducible refine HS.mono ?_; rintro e w3 ⟨rfl, hN3⟩)
        go_roundw
        case rel => first | exact ⟨k + 1, by go_num, by omega, by rw [HD.out]; simp [HH0.out], by rw [HD.out]; exact Lib.hid hN3⟩ | repeat (first | (refine And.intro ?_ rfl; exact ⟨k + 1, by go_num, by omega, by rw [HD.out]; simp [HH0.out], by rw [HD.out]; exact Lib.hid hN3⟩) | apply Exists.intro)
        case measure => simp [intOf]; omega
    · obtain rfl : k = n := by omega
      go_wp2
      go_ret
      rw [HE.out]
      exact ⟨rfl, HR.out⟩
theorem strs_at {W : World} {base c : Nat} {A : Option Addr} {l : List ByteArray} (h : W.ownsRow base 9 1 (.slice A l.length c) l.length (pw_strs l)) (k : Nat) (hk : k < l.length) : ∃ ad, A = some ad ∧ W.cell? (ad.add k) = some (.string l[k]) ∧ ∃ cs, W.heap[(ad.add k).block]? = some (.cells cs 9 (0, 0)) := by
  rcases h.2 with ⟨_, h0⟩ | ⟨q, cap, cur, e, _, hq, _, _, _, ht⟩
  · omega
  · injection e with e1
    refine ⟨_, e1, ?_, _, by rw [add_plain]; exact hq⟩
    rw [add_plain, blk_cell hq]
    have hm : (pw_strs l)[k]? = some (.string l[k]) := by unfold pw_strs; rw [List.getElem?_map, List.getElem?_eq_getElem hk]; rfl
    rw [← ht, List.getElem?_take] at hm
    split at hm
    · simpa using hm
    · cases hm
theorem hasB_len (f t i : Int) (hb : isB n f t = true) : hasB n f t i (B f t).length = true ↔ 0 ≤ i ∧ i < ((lenR n B f t : Nat) : Int) := by
  unfold hasB lenR
  rw [hb, if_pos rfl]
  simp
theorem hasB_no (f t i : Int) (hb : isB n f t = false) : hasB n f t i (B f t).length = false := by unfold hasB; rw [hb]; rfl
theorem strs_reads {W : World} {base c : Nat} {A : Option Addr} {l : List ByteArray} (h : W.ownsRow base 9 1 (.slice A l.length c) l.length (pw_strs l)) : ReadsOf Value.string ByteArray.empty W A l.length l := by
  obtain ⟨A', c', e, hr⟩ := own_reads_of (enc := Value.string) (d := ByteArray.empty) (show W.ownsRow base 9 1 (.slice A l.length c) l.length (encs Value.string l) from h)
  injection e with e1
  rw [e1]; exact hr
section
variable {P : Program} {ops : Array Oper} {o : Oper} {a : Act} {K : Act → World → Prop} {Q : Exit → Act → World → Prop} {E : Prop}
/-- append(v, ys...) in a region that draws: ys a row that is read, none let in. -/
theorem step_append_of {w0 W : World} (base : Nat) (hgd : o.guard = none) (s x : Operand) (t e : TypeId) (bytes : Nat) (z : Value)
    (ho : o.op = .call { callee := .builtin .append, args := #[s, x], argTypes := #[t, t] })
    (ht : P.underlying t = some (.slice e)) (hinfo : (P.info? e).map (fun i => (i.zero, i.size, i.bytes)) = some (some z, 1, bytes)) (hz : z.cells.size = 1) (hb0 : 0 < bytes)
    (v : Value) (xs ys : List ByteArray) (A : Option Addr) (m c : Nat) (hs : a.eval s = v) (hx : a.eval x = .slice A m c)
    (HO : W.ownsRow base e 1 v xs.length (pw_strs xs)) (HR : ReadsOf Value.string ByteArray.empty W A m ys) (HB : Below base w0 W) (hbase : base ≤ W.heap.size) (hl : (xs.length + m) * bytes ≤ 140737488355328)
    (h : ∀ v1 w1, w1.ownsRow base e 1 v1 (xs ++ ys).length (pw_strs (xs ++ ys)) → Below base w0 w1 → W.grownBy w1 v.ownBlock → (v1.ownBlock = v.ownBlock ∨ ∃ b, v1.ownBlock = some b ∧ W.heap.size ≤ b) → K (a.put o.dst v1) w1) :
    if Region.wanted o (yielded ops a.tmps) = true then Oper.wp P o a W K Q else E := by
  obtain rfl : ys.length = m := HR.1
  have hw : Region.wanted o (yielded ops a.tmps) = true := by simp [Region.wanted, hgd]
  obtain ⟨i0, hi, hzz⟩ := Option.map_eq_some_iff.1 hinfo
  simp only [Prod.mk.injEq] at hzz
  obtain ⟨hz0, hz1, hz2⟩ := hzz
  have hlen : xs.length + ys.length ≤ 140737488355328 := Nat.le_trans (Nat.le_mul_of_pos_right _ hb0) hl
  rw [if_pos hw]
  have hrun : ∃ v1 w1, (Builtin.append_ #[t, t] o.type #[v, .slice A ys.length c]).run P W = .ok v1 w1 ∧ w1.ownsRow base e 1 v1 (xs ++ ys).length (pw_strs (xs ++ ys)) ∧ W.grownBy w1 v.ownBlock ∧ (v1.ownBlock = v.ownBlock ∨ v1.ownBlock = some W.heap.size) := by
    rcases A with _ | ad
    · have h0 : ys.length = 0 := by
        rcases Nat.eq_zero_or_pos ys.length with h0 | h0
        · exact h0
        · obtain ⟨ad, h, _⟩ := HR.2.2 h0
          cases h
      obtain rfl : ys = [] := List.eq_nil_of_length_eq_zero h0
      refine ⟨v, W, ?_, by simpa using HO, World.grownBy.refl W _, .inl rfl⟩
      rcases HO.2 with ⟨rfl, hn⟩ | ⟨g, cap, cur, rfl, _, _, hnc, _⟩
      · simp [Builtin.append_, run_underlying ht, sizeOf, typeInfo, hi, Builtin.lenOf, Builtin.firstCells]
      · simp [Builtin.append_, run_underlying ht, sizeOf, typeInfo, hi, Builtin.lenOf, Builtin.firstCells, hnc, storeCells]
    · have hcells : ∀ j u, (pw_strs ys)[j]? = some u → W.cell? (ad.add j) = some u := by
        intro j u hu
        have hj : j < ys.length := by
          rcases Nat.lt_or_ge j ys.length with h | h
          · exact h
          · simp [pw_strs, List.getElem?_eq_none h] at hu
        obtain ⟨ad', h', hc⟩ := HR.2.2 (by omega)
        injection h' with h'
        subst h'
        have hu2 := encs_get (enc := Value.string) (d := ByteArray.empty) ys j hj
        rw [show pw_strs ys = encs Value.string ys from rfl, hu2] at hu
        rw [← hu]
        exact hc j (by omega)
      obtain ⟨v1, w1, hr, h2, h3, _, h5⟩ := run_append_own_at (P := P) W base t o.type e i0 z 1 bytes ht hi hz0 hz1 hz2 hz (by omega) v xs.length (pw_strs xs) HO ad ys.length c (pw_strs ys) (by simp [pw_strs]) hcells
        (by intro u hu; simp only [pw_strs, List.mem_map] at hu; obtain ⟨q, _, rfl⟩ := hu; rfl) (by simp only [maxLen]; omega) hl hbase
      exact ⟨v1, w1, hr, by simpa [pw_strs] using h2, h3, h5⟩
  obtain ⟨v1, w1, hr, hown, hg, hat⟩ := hrun
  unfold Oper.wp execOp
  simp only [ho, resolve, invoke, builtin, Sem.run_bind, Sem.run_pure, Result.andThen_ok, List.map_toArray, List.map_cons, List.map_nil, hs, hx, hr]
  refine h v1 w1 hown (HB.grown hg hbase (own_base HO)) hg ?_
  rcases hat with hat | hat
  · exact .inl hat
  · exact .inr ⟨_, hat, Nat.le_refl _⟩
end
theorem hasB_iff (f t i : Int) : hasB n f t i (B f t).length = true ↔ 0 ≤ i ∧ i < ((lenR n B f t : Nat) : Int) := by
  cases hb : isB n f t with
  | true => exact hasB_len f t i hb
  | false =>
    rw [hasB_no f t i hb]
    unfold lenR
    rw [hb]
    simp
theorem RDouble_calls (h : RNet Kp w0 W g n r B) (f t i : Int) :
    Calls Try.prog 18 #[.pointer (some ⟨g, 0, none⟩), .int .i64 f, .int .i64 t, .int .i64 i] W fun e w' => e = .returned (.int .i64 (doubleR n r B f t i).1) ∧ RNet Kp w0 w' g n r (doubleR n r B f t i).2 := by
  have hlk := link_calls h f t
  have hle := RLen_calls h f t
  unfold doubleR
  cases hb : isB n f t with
  | false =>
    rw [hb] at hlk
    rw [if_neg (by decide)]
    clear hb hle
    go_enter Try.func18, Try.ntmps18
    go_wp2_with (go_at_call 24; refine hlk.mono ?_; rintro e w1 ⟨rfl, rfl⟩)
    go_ret
    exact ⟨rfl, h⟩
  | true =>
    rw [hb] at hlk
    rw [if_pos rfl]
    have hiff := hasB_len (B := B) f t i hb
    have hl2 : lenR n B f t = (B f t).length := by unfold lenR; rw [hb, if_pos rfl]
    cases hh : hasB n f t i (B f t).length with
    | false =>
      rw [if_neg (by decide)]
      rw [hh] at hiff
      by_cases h0 : i < 0
      · have d0 : decide (i < 0) = true := decide_eq_true h0
        clear hb hle hh hiff h0 hl2
        go_enter Try.func18, Try.ntmps18
        go_wp2_with (go_at_call 24; refine hlk.mono ?_; rintro e w1 ⟨rfl, rfl⟩)
        go_ret
        exact ⟨rfl, h⟩
      · have d0 : decide (i < 0) = false := decide_eq_false h0
        have d1 : decide (((lenR n B f t : Nat) : Int) ≤ i) = true := decide_eq_true (by
          have h9 : ¬ (0 ≤ i ∧ i < ((lenR n B f t : Nat) : Int)) := fun q => by have := hiff.2 q; cases this
          omega)
        generalize lenR n B f t = ll at hle d1
        clear hb hh hiff h0 hl2
        go_enter Try.func18, Try.ntmps18
        go_wp2_with (first | (go_at_call 24; refine hlk.mono ?_; rintro e w1 ⟨rfl, rfl⟩) | (go_at_call 22; refine hle.mono ?_; rintro e w1 ⟨rfl, rfl⟩))
        go_ret
        exact ⟨rfl, h⟩
    | true =>
      rw [if_pos rfl]
      obtain ⟨p0, p1⟩ := hiff.1 hh
      obtain ⟨k, rfl⟩ : ∃ k : Nat, i = (k : Int) := ⟨i.toNat, by omega⟩
      have d0 : decide ((k : Int) < 0) = false := decide_eq_false (by omega)
      have d1 : decide (((lenR n B f t : Nat) : Int) ≤ (k : Int)) = false := decide_eq_false (by omega)
      have hk : k < (B f t).length := by omega
      obtain ⟨_, b1, b2, b3, b4⟩ := isB_spec hb
      obtain ⟨a, rfl⟩ : ∃ a : Nat, f = (a : Int) := ⟨f.toNat, by omega⟩
      obtain ⟨c, rfl⟩ : ∃ c : Nat, t = (c : Int) := ⟨t.toNat, by omega⟩
      obtain ⟨q, cap, b, A, cp, g2, q1, q2, ho⟩ := RNet.way h a c (by omega) (by omega)
      have k0 : (0 : Int) ≤ (a : Int) := by omega
      have k1 : (0 : Int) ≤ (c : Int) := by omega
      have k2 : (0 : Int) ≤ (k : Int) := by omega
      have i1 : (a : Int) < (n : Int) := by omega
      have i2 : (c : Int) < (n : Int) := by omega
      have i3 : (k : Int) < ((B (a : Nat) (c : Nat)).length : Int) := by omega
      have hx := strs_at ho k hk
      obtain ⟨ad, hA, q3, _⟩ := hx
      subst hA
      have hs := RSend_calls h (a : Nat) (c : Nat) ((B (a : Nat) (c : Nat))[k])
      have HV : Hid ((B (a : Nat) (c : Nat)).getD ((k : Nat) : Int).toNat ByteArray.empty = (B (a : Nat) (c : Nat))[k]) := Lib.hid (by rw [Int.toNat_natCast, List.getD_eq_getElem?_getD, List.getElem?_eq_getElem hk]; rfl)
      rw [HV.out]
      generalize (B (a : Nat) (c : Nat))[k] = y at hs q3 ⊢
      generalize hsr : sendR n r B (a : Nat) (c : Nat) y = sr at hs ⊢
      clear hb hh hiff hl2 ho HV hk b1 b2 b3 b4 p0 p1 h hsr
      have d1n : decide (lenR n B (a : Nat) (c : Nat) ≤ k) = false := decide_eq_false (by have := of_decide_eq_false d1; omega)
      generalize lenR n B (a : Nat) (c : Nat) = ll at hle d1 d1n
      generalize (B (a : Nat) (c : Nat)).length = lk at q2 i3
      go_enter Try.func18, Try.ntmps18
      go_wp2_with (first | (go_at_call 24; refine hlk.mono ?_; rintro e w1 ⟨rfl, rfl⟩) | (go_at_call 22; refine hle.mono ?_; rintro e w1 ⟨rfl, rfl⟩) | (go_at_call 12; refine hs.mono ?_; rintro e w2 ⟨rfl, hN2⟩))
      go_ret
      exact ⟨rfl, hN2⟩
end
end Go.Proofs.Ytmbaagaeobcmaaa.Re
