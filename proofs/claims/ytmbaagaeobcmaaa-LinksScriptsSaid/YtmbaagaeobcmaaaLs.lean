/- LinksScripts: the walk. -/
import Derived.Test.YtmbaagaeobcmaaaPs
import Derived.Test.YtmbaagaeobcmaaaOpw
set_option linter.unusedVariables false
set_option linter.unusedSimpArgs false
namespace Go.Proofs.Ytmbaagaeobcmaaa.Ls
open Go.RowKit Go.Proofs.Ytmbaagaeobcmaaa.NtK Go.Proofs.Ytmbaagaeobcmaaa.NcK Go.Proofs.Ytmbaagaeobcmaaa.SdK Go.Proofs.Ytmbaagaeobcmaaa.TnK Go.Proofs.Ytmbaagaeobcmaaa.CsK Go.Proofs.Ytmbaagaeobcmaaa.Rn Go.Proofs.Ytmbaagaeobcmaaa.Ra Go.Proofs.Ytmbaagaeobcmaaa.Rc Go.Proofs.Ytmbaagaeobcmaaa.Re Go.Proofs.Ytmbaagaeobcmaaa.Rk Go.Proofs.Ytmbaagaeobcmaaa.Rt Go.Proofs.Ytmbaagaeobcmaaa.Pr Go.Proofs.Ytmbaagaeobcmaaa.Ps Go.Proofs.Ytmbaagaeobcmaaa.Ln Go.Proofs.Ytmbaagaeobcmaaa.Opw Go.Proofs.YtmbaagaeobcmaaaW.PrintWords Go.Proofs.YtmbaagaeobcmaaaW.PrintLast
theorem at_T31 {w : World} {A : Option Addr} {n : Nat} {xs : List S31} (h : Kd.C k31 w A n xs) (i : Nat) (hn : xs.length = n) (h1 : i < xs.length) : ∃ ad, A = some ad ∧ w.cell? (ad.add (i * 7)) = some (.int .i64 xs[i].f0) ∧ w.cell? ⟨(ad.add (i * 7)).block, (ad.add (i * 7)).off + 1, none⟩ = some (.int .i64 xs[i].f1) ∧
    w.cell? ⟨(ad.add (i * 7)).block, (ad.add (i * 7)).off + 2, none⟩ = some (.int .i64 xs[i].f2) ∧ w.cell? ⟨(ad.add (i * 7)).block, (ad.add (i * 7)).off + 3, none⟩ = some (.string xs[i].f3) ∧ w.cell? ⟨(ad.add (i * 7)).block, (ad.add (i * 7)).off + 4, none⟩ = some (.int .i64 xs[i].f4) ∧
    w.cell? ⟨(ad.add (i * 7)).block, (ad.add (i * 7)).off + 5, none⟩ = some (.int .i64 xs[i].f5) ∧ w.cell? ⟨(ad.add (i * 7)).block, (ad.add (i * 7)).off + 6, none⟩ = some (.int .u8 xs[i].f6) := by
  obtain ⟨ad, c, e, _, hK, hc0⟩ := Kd.C_get h ⟨0, 0, 0, ByteArray.empty, 0, 0, 0⟩ (i : Int) (by omega) (by omega)
  rw [Int.toNat_natCast] at hK hc0
  have hg : xs.getD i ⟨0, 0, 0, ByteArray.empty, 0, 0, 0⟩ = xs[i] := by rw [List.getD_eq_getElem?_getD, List.getElem?_eq_getElem h1]; rfl
  rw [hg] at hK
  have hc : ∀ j u, c[j]? = some u → w.cell? (ad.add (i * 7 + j)) = some u := hc0
  obtain rfl := k31_open hK
  refine ⟨ad, e, hc 0 _ rfl, ?_, ?_, ?_, ?_, ?_, ?_⟩
  · rw [← add_field _ _ 1 (by omega)]; exact hc 1 _ rfl
  · rw [← add_field _ _ 2 (by omega)]; exact hc 2 _ rfl
  · rw [← add_field _ _ 3 (by omega)]; exact hc 3 _ rfl
  · rw [← add_field _ _ 4 (by omega)]; exact hc 4 _ rfl
  · rw [← add_field _ _ 5 (by omega)]; exact hc 5 _ rfl
  · rw [← add_field _ _ 6 (by omega)]; exact hc 6 _ rfl
abbrev opO (x0 x1 x2 : Int) (x3 : ByteArray) (x4 x5 x6 : Int) : Obj := .cells #[.int .i64 x0, .int .i64 x1, .int .i64 x2, .string x3, .int .i64 x4, .int .i64 x5, .int .u8 x6] 31 (0, 0)
theorem c7 {w W : World} {bx gP gR n : Nat} {r : Int} {B1 B2 : Bags} {x0 x1 x2 : Int} {x3 : ByteArray} {x4 x5 x6 : Int} (h : Pair (one bx (opO x0 x1 x2 x3 x4 x5 x6)) w W gP gR n r B1 B2) :
    W.cell? ⟨bx, 0, none⟩ = some (.int .i64 x0) ∧ W.cell? ⟨bx, 1, none⟩ = some (.int .i64 x1) ∧ W.cell? ⟨bx, 2, none⟩ = some (.int .i64 x2) ∧ W.cell? ⟨bx, 3, none⟩ = some (.string x3) ∧ W.cell? ⟨bx, 4, none⟩ = some (.int .i64 x4) ∧ W.cell? ⟨bx, 5, none⟩ = some (.int .i64 x5) ∧ W.cell? ⟨bx, 6, none⟩ = some (.int .u8 x6) := by
  have hb := h.ext bx _ (show one bx (opO x0 x1 x2 x3 x4 x5 x6) bx = some (opO x0 x1 x2 x3 x4 x5 x6) by unfold one; rw [if_pos rfl])
  exact ⟨by rw [blk_cell hb]; rfl, by rw [blk_cell hb]; rfl, by rw [blk_cell hb]; rfl, by rw [blk_cell hb]; rfl, by rw [blk_cell hb]; rfl, by rw [blk_cell hb]; rfl, by rw [blk_cell hb]; rfl⟩
theorem lenP {E : Nat → Option Obj} {w W : World} {gP gR n : Nat} {r : Int} {B1 B2 : Bags} (h : Pair E w W gP gR n r B1 B2) (f t : Int) (hf : (Lit.int .i64 f).wf = true) (ht : (Lit.int .i64 t).wf = true) : Calls Try.prog 21 #[.pointer (some ⟨gP, 0, none⟩), .int .i64 f, .int .i64 t] W fun e w' => e = .returned (.int .i64 ((B1 f t).length : Nat)) ∧ w' = W := by
  obtain ⟨K, hK⟩ := h.net
  exact Len_calls hK f t hf ht
theorem lenQ {E : Nat → Option Obj} {w W : World} {gP gR n : Nat} {r : Int} {B1 B2 : Bags} (h : Pair E w W gP gR n r B1 B2) (hz : Zero n B2) (f t : Int) : Calls Try.prog 22 #[.pointer (some ⟨gR, 0, none⟩), .int .i64 f, .int .i64 t] W fun e w' => e = .returned (.int .i64 ((B2 f t).length : Nat)) ∧ w' = W := by
  obtain ⟨bm, es, ck, lv, rb, hd, hN, hR⟩ := h.ex
  have := RLen_calls (⟨h.bl, h.s0, h.s1, h.r0, h.r1, lv, rb, hd, hR⟩ : RNet _ w W gR n r B2) f t
  rw [len_same hz] at this
  exact this
theorem castP {K : Nat → Option Obj} {w0 W : World} {g n : Nat} {r : Int} {B : Bags} (h : Net K w0 W g (n : Int) r B) (f : Int) (x : ByteArray) : Calls Try.prog 13 #[.pointer (some ⟨g, 0, none⟩), .int .i64 f, .string x] W fun e w' => e = .returned (.int .i64 ((castR n r B f x n).1 : Nat)) ∧ Net K w0 w' g n r (castR n r B f x n).2 := Cast_calls h f x
set_option maxHeartbeats 8000000 in
set_option maxRecDepth 100000 in
theorem law (s r : Int) (A : Option Addr) (c : Nat) (ops : List S31) (w : World) (hC : Kd.C k31 w A ops.length ops) (hc : ops.length ≤ c) (hok : ∀ y ∈ ops, okOp y) :
    Calls Try.prog 3 #[.int .i64 s, .int .i64 r, .slice A ops.length c] w fun e w' => e = .returned (.bool true) ∧ Below w.heap.size w w' := by
  cases hn : okNew s r with
  | false =>
    have hz : okNew s r = false := hn
    have hp := fun W => New_bad s r hn W
    have hq := fun W => RNew_bad s r hn W
    clear hn hC hok
    go_enter Try.func3, Try.ntmps3
    go_upto_region 6 with (first
      | (go_at_call 8; with_reducible refine (hp _).mono ?_; rintro e w1 ⟨rfl, hB1⟩)
      | (go_at_call 9; with_reducible refine (hq _).mono ?_; rintro e w2 ⟨rfl, hB2⟩))
    have HB := Lib.hid (below_then hB1 hB1.size hB2)
    clear hB1 hB2 hp hq
    go_loopw [11] (fun v11 wr => v11 = .int .i64 0 ∧ wr = w2) (fun _ wr => 0)
    case atStart => exact ⟨rfl, rfl⟩
    case round =>
      obtain ⟨rfl, rfl⟩ := hrel
      by_cases h0 : 0 < ops.length
      · have d0 : decide ((0 : Int) < (ops.length : Int)) = true := decide_eq_true (by omega)
        go_wp2_with (go_at_call 10; with_reducible refine (Lv.live_calls _).mono ?_; rintro e w3 ⟨rfl, hB3⟩)
        go_ret
        exact ⟨rfl, below_then HB.out HB.out.size hB3⟩
      · have d0 : decide ((0 : Int) < (ops.length : Int)) = false := decide_eq_false (by omega)
        go_wp2_with (go_at_call 10; with_reducible refine (Lv.live_calls _).mono ?_; rintro e w3 ⟨rfl, hB3⟩)
        go_ret
        exact ⟨rfl, below_then HB.out HB.out.size hB3⟩
  | true =>
    have hn2 := hn
    unfold okNew at hn2
    simp at hn2
    obtain ⟨n1, n2, n3, n4⟩ := hn2
    obtain ⟨n, rfl⟩ : ∃ n : Nat, s = (n : Int) := ⟨s.toNat, by omega⟩
    have hp := New_ok (fun _ => none) (n : Int) r hn w (fun j o h => by cases h)
    have HC := Lib.hid hC
    have HO := Lib.hid hok
    have HN := Lib.hid (And.intro n1 (And.intro n2 (And.intro n3 n4)))
    clear hn hC hok n1 n2 n3 n4
    go_enter Try.func3, Try.ntmps3
    go_upto_region 6 with (first
      | (go_at_call 8; with_reducible refine hp.mono ?_; rintro e w1 ⟨gP, rfl, hN1⟩)
      | (go_at_call 9; with_reducible refine (pair_new hN1 (by have := HN.out.1; omega) (by have := HN.out.2.1; omega) HN.out.2.2.1 HN.out.2.2.2).mono ?_; rintro e w2 ⟨gR, rfl, hP2⟩))
    have HP2 := Lib.hid hP2
    clear hP2 hN1 hp
    go_loopw [11] (fun v11 wr => ∃ (k : Nat) (E : Nat → Option Obj) (B : Bags), v11 = .int .i64 k ∧ k ≤ ops.length ∧ k ≤ 60 ∧ Hid (Pair E w wr gP gR n r B B ∧ Zero n B)) (fun v11 _ => 60 - (intOf v11).toNat)
    case atStart => exact ⟨0, _, noBags, rfl, Nat.zero_le _, Nat.zero_le _, Lib.hid ⟨HP2.out, zero_no n⟩⟩
    case round =>
      clear HP2
      obtain ⟨k, E, B, rfl, hk1, hk2, HP⟩ := hrel
      by_cases hlt : k < ops.length
      · have dl : decide ((k : Int) < (ops.length : Int)) = true := decide_eq_true (by omega)
        by_cases h60 : k < 60
        · have d60 : decide ((k : Int) < 60) = true := decide_eq_true (by omega)
          obtain ⟨ad, rfl, y0, y1, y2, y3, y4, y5, y6⟩ := at_T31 (Kd.C_below HC.out HP.out.1.bl) k rfl hlt
          have k0 : (0 : Int) ≤ (k : Int) := by omega
          have k1 : (k : Int) < (ops.length : Int) := by omega
          have HX := Lib.hid (HO.out _ (List.getElem_mem hlt))
          generalize ops[k] = x at y0 y1 y2 y3 y4 y5 y6 HX
          obtain ⟨x0, x1, x2, x3, x4, x5, x6⟩ := x
          simp only at y0 y1 y2 y3 y4 y5 y6
          go_upto_region 9 with fail
          have hba := below_alloc (Below.refl wr.heap.size wr) (.cells #[.int .i64 x0, .int .i64 x1, .int .i64 x2, .string x3, .int .i64 x4, .int .i64 x5, .int .u8 x6] 31)
          have HP2 := Lib.hid (HP.out.1.box hba wr.heap.size (opO x0 x1 x2 x3 x4 x5 x6) (Nat.le_refl _) (heap_alloc_new wr _))
          have HZ0 := Lib.hid HP.out.2
          clear HP hba y0 y1 y2 y3 y4 y5 y6
          generalize wr.alloc (.cells #[.int .i64 x0, .int .i64 x1, .int .i64 x2, .string x3, .int .i64 x4, .int .i64 x5, .int .u8 x6] 31) = w3 at HP2 ⊢
          generalize wr.heap.size = bx at HP2 ⊢
          obtain ⟨z0, z1, z2, z3, z4, z5, z6⟩ := c7 HP2.out
          by_cases hs : (5100 : Int) < (x3.size : Int)
          · have d3 : decide ((5100 : Int) < (x3.size : Int)) = true := decide_eq_true hs
            go_wp2_with (go_at_call 10; with_reducible refine (Lv.live_calls _).mono ?_; rintro e w9 ⟨rfl, hB9⟩)
            go_ret
            exact ⟨rfl, below_then HP2.out.bl HP2.out.bl.size hB9⟩
          · have d3 : decide ((5100 : Int) < (x3.size : Int)) = false := decide_eq_false hs
            clear hs
            by_cases q0 : x0 = 0
            · have e0 : (x0 == 0) = true := by simp [q0]
              clear q0
              as_aux_lemma =>
                go_upto_region 15 with fail
                have h0 := HP2.out.below (below_drew (Below.refl w3.heap.size w3))
                go_region_held3 (fun w' => w'.cell? ⟨bx, 0, none⟩ = some (.int .i64 x0) ∧ w'.cell? ⟨bx, 1, none⟩ = some (.int .i64 x1) ∧ w'.cell? ⟨bx, 2, none⟩ = some (.int .i64 x2) ∧ w'.cell? ⟨bx, 3, none⟩ = some (.string x3) ∧ w'.cell? ⟨bx, 4, none⟩ = some (.int .i64 x4) ∧ w'.cell? ⟨bx, 5, none⟩ = some (.int .i64 x5) ∧ w'.cell? ⟨bx, 6, none⟩ = some (.int .u8 x6))
                  (first | exact c7 h0 | exact c7 h1 | exact c7 h3 | exact c7 h2)
                  ((first
                    | (go_at_call 11; (with_reducible refine (h0.p_op (fun K hK => Send_calls hK x1 x2 x3)).mono ?_); rintro e w4 ⟨rfl, h1⟩; clear h0)
                    | (go_at_call 12; (with_reducible refine (h0.r_op (fun K hK => RSend_calls hK x1 x2 x3)).mono ?_); rintro e w4 ⟨rfl, h3⟩; clear h0)
                    | (go_at_call 12; (with_reducible refine (h1.r_op (fun K hK => RSend_calls hK x1 x2 x3)).mono ?_); rintro e w5 ⟨rfl, h2⟩; clear h1)
                    | (go_at_call 11; (with_reducible refine (h3.p_op (fun K hK => Send_calls hK x1 x2 x3)).mono ?_); rintro e w5 ⟨rfl, h2⟩; clear h3)))
                all_goals
                  go_split_ands
                  have HZ := Lib.hid (zero_send (r := r) HZ0.out x1 x2 x3)
                  have H2 := Lib.hid h2
                  clear h2 HP2 HZ0 z0 z1 z2 z3 z4 z5 z6
                  obtain ⟨a0, a1, a2, a3, a4, a5, a6⟩ := c7 H2.out
                  go_upto_region 24 with fail
                  go_quiet ((first
                    | (go_at_call 21; exact Calls.quiet_of_same (lenP (H2.out.below (pw_below_drewN (Below.refl _ _) _)) x1 x2 HX.out.2.1 HX.out.2.2.1))
                    | (go_at_call 22; exact Calls.quiet_of_same (lenQ (H2.out.below (pw_below_drewN (Below.refl _ _) _)) HZ.out x1 x2))))
                  replace H2 := Lib.hid (H2.out.below (pw_below_drewN (Below.refl _ _) nq))
                  go_wp2
                  go_roundw
                  case rel => first | exact ⟨k + 1, _, _, by go_num, by omega, by omega, Lib.hid ⟨H2.out, HZ.out⟩⟩ | repeat (first | (refine And.intro ?_ rfl; exact ⟨k + 1, _, _, by go_num, by omega, by omega, Lib.hid ⟨H2.out, HZ.out⟩⟩) | apply Exists.intro)
                  case measure => simp [intOf]; omega
            · have e0 : (x0 == 0) = false := by simp [q0]
              by_cases q1 : x0 = 1
              · have e1 : (x0 == 1) = true := by simp [q1]
                clear q0 q1
                as_aux_lemma =>
                  go_upto_region 17 with fail
                  have h0 := HP2.out.below (below_drew (Below.refl w3.heap.size w3))
                  go_region_held3 (fun w' => w'.cell? ⟨bx, 0, none⟩ = some (.int .i64 x0) ∧ w'.cell? ⟨bx, 1, none⟩ = some (.int .i64 x1) ∧ w'.cell? ⟨bx, 2, none⟩ = some (.int .i64 x2) ∧ w'.cell? ⟨bx, 3, none⟩ = some (.string x3) ∧ w'.cell? ⟨bx, 4, none⟩ = some (.int .i64 x4) ∧ w'.cell? ⟨bx, 5, none⟩ = some (.int .i64 x5) ∧ w'.cell? ⟨bx, 6, none⟩ = some (.int .u8 x6))
                    (first | exact c7 h0 | exact c7 h1 | exact c7 h3 | exact c7 h2)
                    ((first
                      | (go_at_call 13; (with_reducible refine (h0.p_op (fun K hK => castP hK x1 x3)).mono ?_); rintro e w4 ⟨rfl, h1⟩; clear h0)
                      | (go_at_call 14; (with_reducible refine (h0.r_op (fun K hK => RCast_calls hK x1 x3)).mono ?_); rintro e w4 ⟨rfl, h3⟩; clear h0)
                      | (go_at_call 14; (with_reducible refine (h1.r_op (fun K hK => RCast_calls hK x1 x3)).mono ?_); rintro e w5 ⟨rfl, h2⟩; clear h1)
                      | (go_at_call 13; (with_reducible refine (h3.p_op (fun K hK => castP hK x1 x3)).mono ?_); rintro e w5 ⟨rfl, h2⟩; clear h3)))
                  all_goals
                    go_split_ands
                    have HZ := Lib.hid (zero_cast (r := r) HZ0.out x1 x3 n)
                    have H2 := Lib.hid h2
                    clear h2 HP2 HZ0 z0 z1 z2 z3 z4 z5 z6
                    obtain ⟨a0, a1, a2, a3, a4, a5, a6⟩ := c7 H2.out
                    go_upto_region 24 with fail
                    go_quiet ((first
                      | (go_at_call 21; exact Calls.quiet_of_same (lenP (H2.out.below (pw_below_drewN (Below.refl _ _) _)) x1 x2 HX.out.2.1 HX.out.2.2.1))
                      | (go_at_call 22; exact Calls.quiet_of_same (lenQ (H2.out.below (pw_below_drewN (Below.refl _ _) _)) HZ.out x1 x2))))
                    replace H2 := Lib.hid (H2.out.below (pw_below_drewN (Below.refl _ _) nq))
                    go_wp2
                    go_roundw
                    case rel => first | exact ⟨k + 1, _, _, by go_num, by omega, by omega, Lib.hid ⟨H2.out, HZ.out⟩⟩ | repeat (first | (refine And.intro ?_ rfl; exact ⟨k + 1, _, _, by go_num, by omega, by omega, Lib.hid ⟨H2.out, HZ.out⟩⟩) | apply Exists.intro)
                    case measure => simp [intOf]; omega
              · have e1 : (x0 == 1) = false := by simp [q1]
                by_cases q2 : x0 = 2
                · have e2 : (x0 == 2) = true := by simp [q2]
                  clear q0 q1 q2
                  as_aux_lemma =>
                    go_upto_region 24 with (first
                      | (go_at_call 15; (with_reducible refine (HP2.out.p_op (fun K hK => Take_calls hK x1 x2 x4)).mono ?_); rintro e w4 ⟨rfl, h1⟩; obtain ⟨b0, b1, b2, b3, b4, b5, b6⟩ := c7 h1)
                      | (go_at_call 16; (with_reducible refine (h1.r_op (fun K hK => RTake_calls hK x1 x2 x4)).mono ?_); rintro e w5 ⟨rfl, h2⟩; clear h1 b0 b1 b2 b3 b4 b5 b6; obtain ⟨b0, b1, b2, b3, b4, b5, b6⟩ := c7 h2))
                    clear b0 b1 b2 b3 b4 b5 b6
                    have HZ := Lib.hid (zero_take HZ0.out x1 x2 x4)
                    have H2 := Lib.hid h2
                    clear h2 HP2 HZ0 z0 z1 z2 z3 z4 z5 z6
                    obtain ⟨a0, a1, a2, a3, a4, a5, a6⟩ := c7 H2.out
                    go_upto_region 24 with fail
                    go_quiet ((first
                      | (go_at_call 21; exact Calls.quiet_of_same (lenP (H2.out.below (pw_below_drewN (Below.refl _ _) _)) x1 x2 HX.out.2.1 HX.out.2.2.1))
                      | (go_at_call 22; exact Calls.quiet_of_same (lenQ (H2.out.below (pw_below_drewN (Below.refl _ _) _)) HZ.out x1 x2))))
                    replace H2 := Lib.hid (H2.out.below (pw_below_drewN (Below.refl _ _) nq))
                    go_wp2
                    go_roundw
                    case rel => first | exact ⟨k + 1, _, _, by go_num, by omega, by omega, Lib.hid ⟨H2.out, HZ.out⟩⟩ | repeat (first | (refine And.intro ?_ rfl; exact ⟨k + 1, _, _, by go_num, by omega, by omega, Lib.hid ⟨H2.out, HZ.out⟩⟩) | apply Exists.intro)
                    case measure => simp [intOf]; omega
                · have e2 : (x0 == 2) = false := by simp [q2]
                  by_cases q3 : x0 = 3
                  · have e3 : (x0 == 3) = true := by simp [q3]
                    clear q0 q1 q2 q3
                    as_aux_lemma =>
                      go_upto_region 23 with fail
                      have h0 := HP2.out.below (below_drew (Below.refl w3.heap.size w3))
                      go_region_held3 (fun w' => w'.cell? ⟨bx, 0, none⟩ = some (.int .i64 x0) ∧ w'.cell? ⟨bx, 1, none⟩ = some (.int .i64 x1) ∧ w'.cell? ⟨bx, 2, none⟩ = some (.int .i64 x2) ∧ w'.cell? ⟨bx, 3, none⟩ = some (.string x3) ∧ w'.cell? ⟨bx, 4, none⟩ = some (.int .i64 x4) ∧ w'.cell? ⟨bx, 5, none⟩ = some (.int .i64 x5) ∧ w'.cell? ⟨bx, 6, none⟩ = some (.int .u8 x6))
                        (first | exact c7 h0 | exact c7 h1 | exact c7 h3 | exact c7 h2)
                        ((first
                          | (go_at_call 17; (with_reducible refine (h0.p_op (fun K hK => Double_calls hK x1 x2 x4)).mono ?_); rintro e w4 ⟨rfl, h1⟩; clear h0)
                          | (go_at_call 18; (with_reducible refine (h0.r_op (fun K hK => RDouble_calls hK x1 x2 x4)).mono ?_); rintro e w4 ⟨rfl, h3⟩; clear h0)
                          | (go_at_call 18; (with_reducible refine (h1.r_op (fun K hK => RDouble_calls hK x1 x2 x4)).mono ?_); rintro e w5 ⟨rfl, h2⟩; clear h1)
                          | (go_at_call 17; (with_reducible refine (h3.p_op (fun K hK => Double_calls hK x1 x2 x4)).mono ?_); rintro e w5 ⟨rfl, h2⟩; clear h3)))
                      all_goals
                        go_split_ands
                        have HZ := Lib.hid (zero_double (r := r) HZ0.out x1 x2 x4)
                        have H2 := Lib.hid h2
                        clear h2 HP2 HZ0 z0 z1 z2 z3 z4 z5 z6
                        obtain ⟨a0, a1, a2, a3, a4, a5, a6⟩ := c7 H2.out
                        go_upto_region 24 with fail
                        go_quiet ((first
                          | (go_at_call 21; exact Calls.quiet_of_same (lenP (H2.out.below (pw_below_drewN (Below.refl _ _) _)) x1 x2 HX.out.2.1 HX.out.2.2.1))
                          | (go_at_call 22; exact Calls.quiet_of_same (lenQ (H2.out.below (pw_below_drewN (Below.refl _ _) _)) HZ.out x1 x2))))
                        replace H2 := Lib.hid (H2.out.below (pw_below_drewN (Below.refl _ _) nq))
                        go_wp2
                        go_roundw
                        case rel => first | exact ⟨k + 1, _, _, by go_num, by omega, by omega, Lib.hid ⟨H2.out, HZ.out⟩⟩ | repeat (first | (refine And.intro ?_ rfl; exact ⟨k + 1, _, _, by go_num, by omega, by omega, Lib.hid ⟨H2.out, HZ.out⟩⟩) | apply Exists.intro)
                        case measure => simp [intOf]; omega
                  · have e3 : (x0 == 3) = false := by simp [q3]
                    clear q0 q1 q2 q3
                    as_aux_lemma =>
                      go_upto_region 13 with fail
                      have h0 := HP2.out.below (below_drew (Below.refl w3.heap.size w3))
                      go_region_held3 (fun w' => w'.cell? ⟨bx, 0, none⟩ = some (.int .i64 x0) ∧ w'.cell? ⟨bx, 1, none⟩ = some (.int .i64 x1) ∧ w'.cell? ⟨bx, 2, none⟩ = some (.int .i64 x2) ∧ w'.cell? ⟨bx, 3, none⟩ = some (.string x3) ∧ w'.cell? ⟨bx, 4, none⟩ = some (.int .i64 x4) ∧ w'.cell? ⟨bx, 5, none⟩ = some (.int .i64 x5) ∧ w'.cell? ⟨bx, 6, none⟩ = some (.int .u8 x6))
                        (first | exact c7 h0 | exact c7 h1 | exact c7 h3 | exact c7 h2)
                        ((first
                          | (go_at_call 19; (with_reducible refine (h0.p_op (fun K hK => Turn_calls hK x1 x2 x4 x5 x6)).mono ?_); rintro e w4 ⟨rfl, h1⟩; clear h0)
                          | (go_at_call 20; (with_reducible refine (h0.r_op (fun K hK => RTurn_calls hK x1 x2 x4 x5 x6)).mono ?_); rintro e w4 ⟨rfl, h3⟩; clear h0)
                          | (go_at_call 20; (with_reducible refine (h1.r_op (fun K hK => RTurn_calls hK x1 x2 x4 x5 x6)).mono ?_); rintro e w5 ⟨rfl, h2⟩; clear h1)
                          | (go_at_call 19; (with_reducible refine (h3.p_op (fun K hK => Turn_calls hK x1 x2 x4 x5 x6)).mono ?_); rintro e w5 ⟨rfl, h2⟩; clear h3)))
                      all_goals
                        go_split_ands
                        have HZ := Lib.hid (zero_turn HZ0.out x1 x2 x4 x5 x6)
                        have H2 := Lib.hid h2
                        clear h2 HP2 HZ0 z0 z1 z2 z3 z4 z5 z6
                        obtain ⟨a0, a1, a2, a3, a4, a5, a6⟩ := c7 H2.out
                        go_upto_region 24 with fail
                        go_quiet ((first
                          | (go_at_call 21; exact Calls.quiet_of_same (lenP (H2.out.below (pw_below_drewN (Below.refl _ _) _)) x1 x2 HX.out.2.1 HX.out.2.2.1))
                          | (go_at_call 22; exact Calls.quiet_of_same (lenQ (H2.out.below (pw_below_drewN (Below.refl _ _) _)) HZ.out x1 x2))))
                        replace H2 := Lib.hid (H2.out.below (pw_below_drewN (Below.refl _ _) nq))
                        go_wp2
                        go_roundw
                        case rel => first | exact ⟨k + 1, _, _, by go_num, by omega, by omega, Lib.hid ⟨H2.out, HZ.out⟩⟩ | repeat (first | (refine And.intro ?_ rfl; exact ⟨k + 1, _, _, by go_num, by omega, by omega, Lib.hid ⟨H2.out, HZ.out⟩⟩) | apply Exists.intro)
                        case measure => simp [intOf]; omega
        · have d60 : decide ((k : Int) < 60) = false := decide_eq_false (by omega)
          go_wp2_with (go_at_call 10; with_reducible refine (Lv.live_calls _).mono ?_; rintro e w3 ⟨rfl, hB3⟩)
          go_ret
          exact ⟨rfl, below_then HP.out.1.bl HP.out.1.bl.size hB3⟩
      · have dl : decide ((k : Int) < (ops.length : Int)) = false := decide_eq_false (by omega)
        go_wp2_with (go_at_call 10; with_reducible refine (Lv.live_calls _).mono ?_; rintro e w3 ⟨rfl, hB3⟩)
        go_ret
        exact ⟨rfl, below_then HP.out.1.bl HP.out.1.bl.size hB3⟩
end Go.Proofs.Ytmbaagaeobcmaaa.Ls
