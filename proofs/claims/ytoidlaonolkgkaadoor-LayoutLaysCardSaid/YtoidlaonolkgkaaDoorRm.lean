/- The document's Text and Lay: the walks; and that Lay answers as the program's. -/
import Derived.Test.YtoidlaonolkgkaaDoorGf
import Derived.Test.YtoidlaonolkgkaaDoorGs
import Derived.Test.YtoidlaonolkgkaaDoorGv
import Derived.Test.YtoidlaonolkgkaaDoorGq
import Derived.Test.YtoidlaonolkgkaaDoorLem
import Derived.Test.YtoidlaonolkgkaaDoorPx4
set_option linter.unusedVariables false
set_option linter.unusedSimpArgs false
namespace Go.Proofs.YtoidlaonolkgkaaDoor.Gt
open Go.RowKit Go.Proofs.YtoidlaonolkgkaaDoor.Giv Go.Proofs.YtoidlaonolkgkaaDoor.Gr Go.Proofs.YtoidlaonolkgkaaDoor.Gl Go.Proofs.YtoidlaonolkgkaaDoor.Gn Go.Proofs.YtoidlaonolkgkaaDoorW.PrintWords Go.Proofs.YtoidlaonolkgkaaDoorW.PrintLast Go.Proofs.YtoidlaonolkgkaaDoor.P Go.Proofs.YtoidlaonolkgkaaDoor.Gc Go.Proofs.YtoidlaonolkgkaaDoor.Gd Go.Proofs.YtoidlaonolkgkaaDoor.Ge Go.Proofs.YtoidlaonolkgkaaDoor.Gf Go.Proofs.YtoidlaonolkgkaaDoor.Gs
/-- One cell more: what is said, and the blanks behind it. -/
def refC (st : List UInt8 × List UInt8) (c : S47) : List UInt8 × List UInt8 :=
  if c.f0 = 0 ∨ c.f0 = 32 then (st.1, st.2 ++ [32]) else if c.f0 = -1 then st else (st.1 ++ st.2 ++ Lib.encodeRune (signN c.f0), [])
def refS (row : List S47) : List UInt8 × List UInt8 := row.foldl refC ([], [])
theorem refS_take (row : List S47) (j : Nat) (h : j < row.length) : refS (row.take (j + 1)) = refC (refS (row.take j)) row[j] := by
  unfold refS
  rw [List.take_succ_eq_append_getElem h, List.foldl_append]; rfl
theorem sign_ne (x : Int) (h : x ≠ 32) : signN x ≠ 32 := by unfold signN; split <;> omega
theorem trim_app (l m : List UInt8) (h : ∀ x ∈ m, x ≠ 32) (hm : m ≠ []) : trimR (l ++ m) = l ++ m := by
  obtain ⟨a, x, rfl⟩ : ∃ a x, m = a ++ [x] := ⟨m.dropLast, m.getLast hm, (List.dropLast_concat_getLast hm).symm⟩
  rw [← List.append_assoc, trimR_other _ _ (h x (by simp))]
theorem enc_ne (r : Int) (h : r ≠ 32) : ∀ x ∈ Lib.encodeRune r, x ≠ 32 := fun x hx e => h (enc_blank r x hx e)
theorem enc_nil (r : Int) : Lib.encodeRune r ≠ [] := fun e => by have := (enc_len r).1; rw [e] at this; simp at this
theorem enc_32 : Lib.encodeRune 32 = [32] := by decide
/-- What is said is the program's row without the blanks at its end. -/
theorem refS_says (row : List S47) : ∀ j, j ≤ row.length → (refS (row.take j)).1 = trimR (rowB (row.take j)) ∧ (refS (row.take j)).1 ++ (refS (row.take j)).2 = rowB (row.take j)
  | 0, _ => by simp [refS, rowB, trimR]
  | j + 1, h => by
    obtain ⟨h1, h2⟩ := refS_says row j (by omega)
    rw [refS_take row j (by omega), rowB_take row j (by omega)]
    generalize refS (row.take j) = st at h1 h2 ⊢
    generalize rowB (row.take j) = b at h1 h2 ⊢
    generalize row[j] = c
    unfold refC cellB
    by_cases c0 : c.f0 = 0
    · rw [if_pos (.inl c0), if_neg (by omega), if_pos c0]
      have e : Lib.encodeRune (signN 32) = [32] := by decide
      rw [e, trimR_blank]
      exact ⟨h1, by rw [← h2, List.append_assoc]⟩
    · by_cases c1 : c.f0 = 32
      · rw [if_pos (.inr c1), if_neg (by omega), if_neg c0, c1]
        have e : Lib.encodeRune (signN 32) = [32] := by decide
        rw [e, trimR_blank]
        exact ⟨h1, by rw [← h2, List.append_assoc]⟩
      · rw [if_neg (by rintro (h | h); exact c0 h; exact c1 h)]
        by_cases c2 : c.f0 = -1
        · rw [if_pos c2, if_pos c2, List.append_nil]
          exact ⟨h1, h2⟩
        · rw [if_neg c2, if_neg c2, if_neg c0, h2, trim_app _ _ (enc_ne _ (sign_ne _ c1)) (enc_nil _), List.append_nil]
          exact ⟨rfl, rfl⟩
theorem refS_row (row : List S47) : (refS row).1 = rowT row := by
  have h := (refS_says row row.length (Nat.le_refl _)).1
  rw [List.take_length] at h
  exact h
theorem refS_len (row : List S47) (j : Nat) (h : j ≤ row.length) : (refS (row.take j)).1.length + (refS (row.take j)).2.length ≤ 4 * j := by
  have h2 := (refS_says row j h).2
  have h3 := rowB_len (row.take j)
  rw [← h2, List.length_append, List.length_take] at h3
  omega
theorem ts_up {w0 w1 wr : World} {v : Value} {l : List ByteArray} (h : TS w1 wr v l) (hB : Below w0.heap.size w0 w1) : TS w0 wr v l :=
  ⟨own_weaken h.row hB.size, below_then' hB h.bel⟩
theorem bs_ap (l m : List UInt8) : (⟨l.toArray⟩ : ByteArray) ++ ⟨m.toArray⟩ = ⟨(l ++ m).toArray⟩ := by
  apply ByteArray.ext
  simp
set_option maxHeartbeats 8000000 in
set_option maxRecDepth 100000 in
theorem rtext_calls (A : Option Addr) (c : Nat) (rows : List (List S47)) (row col : Int) (w : World) (hC : Kd.C (Kd.slice 47 k47) w A rows.length rows) (hl : rows.length ≤ 1000) (hr : ∀ r ∈ rows, r.length ≤ 1000) :
    Calls Tryd.prog 15 #[.agg #[.slice A rows.length c, .int .i64 row, .int .i64 col]] w fun e w' => ∃ v, e = .returned v ∧ TS w w' v (pageT rows) := by
  have HRr := Lib.hid hr
  have HC0 := Lib.hid hC
  clear hr hC
  go_enter Tryd.func15, Tryd.ntmps15
  go_upto_region 3 with fail
  have HB0 := Lib.hid (below_alloc (Below.refl w.heap.size w) (.cells #[.slice A rows.length c, .int .i64 row, .int .i64 col] 32))
  have HX1 := Lib.hid (heap_alloc_new w (.cells #[.slice A rows.length c, .int .i64 row, .int .i64 col] 32))
  have HC := Lib.hid (Kd.C_below HC0.out HB0.out)
  clear HC0
  generalize w.alloc (.cells #[.slice A rows.length c, .int .i64 row, .int .i64 col] 32) = w1 at HB0 HX1 HC ⊢
  have HS1 := Lib.hid (blk_lt HX1.out)
  generalize w.heap.size = bx at HX1 HS1 ⊢
  go_loopw [3, 4] (fun v3 v4 wr => ∃ k : Nat, v4 = .int .i64 k ∧ k ≤ rows.length ∧ Hid (TS w1 wr v3 (pageT (rows.take k)))) (fun _ v4 _ => rows.length - (intOf v4).toNat)
  case atStart => exact ⟨0, rfl, Nat.zero_le _, Lib.hid ⟨own_nil _ _ _ _, Below.refl _ _⟩⟩
  case round =>
    obtain ⟨k, rfl, hk, HT⟩ := hrel
    obtain ⟨A3, c3, rfl⟩ := own_slice HT.out.row
    have x0 : wr.cell? ⟨bx, 0, none⟩ = some (.slice A rows.length c) := by rw [blk_cell ((HT.out.bel.block _ HS1.out).trans HX1.out)]; rfl
    by_cases hlt : k < rows.length
    · have dl : decide ((k : Int) < (rows.length : Int)) = true := decide_eq_true (by omega)
      obtain ⟨ad, A0, c0, rfl, cw0, hc0, hCr⟩ := at_L6 HC.out (k : Int) (by omega) (by omega)
      rw [rdL6 rows k hlt] at cw0 hc0 hCr
      rw [Int.toNat_natCast] at cw0
      have cw := pw_cell_below HT.out.bel cw0
      have hk0 : (0 : Int) ≤ (k : Int) := by omega
      have hk1 : (k : Int) < (rows.length : Int) := by omega
      have HP : Hid (pageT (rows.take (k + 1)) = pageT (rows.take k) ++ [⟨(rowT rows[k]).toArray⟩] ∧ rows[k].length ≤ 1000) := Lib.hid ⟨pageT_take rows k hlt, HRr.out _ (List.getElem_mem hlt)⟩
      generalize rows[k] = row at cw cw0 hc0 hCr HP
      have hrl := HP.out.2
      have HCr := Lib.hid hCr
      have HCW := Lib.hid cw0
      clear hCr cw0
      have hpl : (pageT (rows.take k)).length = k := by unfold pageT; rw [List.length_map, List.length_take]; omega
      have HPL := Lib.hid hpl
      generalize pageT (rows.take k) = strs at *
      clear hpl
      go_upto_region 8 with fail
      clear x0 cw
      go_loopw [5, 6, 7] (fun v5 v6 v7 wi => ∃ j : Nat, v7 = .int .i64 j ∧ j ≤ row.length ∧ v5 = .string ⟨(refS (row.take j)).1.toArray⟩ ∧ v6 = .string ⟨(refS (row.take j)).2.toArray⟩ ∧ Hid (TS w1 wi (.slice A3 strs.length c3) strs)) (fun _ _ v7 _ => row.length - (intOf v7).toNat)
      case atStart => exact ⟨0, rfl, Nat.zero_le _, rfl, rfl, HT⟩
      case round =>
        clear HT
        obtain ⟨j, rfl, hj, rfl, rfl, HTi⟩ := hrel
        have x0 : wr.cell? ⟨bx, 0, none⟩ = some (.slice (some ad) rows.length c) := by rw [blk_cell ((HTi.out.bel.block _ HS1.out).trans HX1.out)]; rfl
        have cw := pw_cell_below HTi.out.bel HCW.out
        have hsl := refS_len row j hj
        by_cases hlj : j < row.length
        · have dl2 : decide ((j : Int) < (row.length : Int)) = true := decide_eq_true (by omega)
          have hj0 : (0 : Int) ≤ (j : Int) := by omega
          have hj1 : (j : Int) < (row.length : Int) := by omega
          obtain ⟨ad2, rfl, dw, dm⟩ := at_T47 (Kd.C_below HCr.out HTi.out.bel) (j : Int) (by omega) (by omega)
          rw [rd47 row j hlj, Int.toNat_natCast] at dw dm
          have HX : Hid (refS (row.take (j + 1)) = refC (refS (row.take j)) row[j]) := Lib.hid (refS_take row j hlj)
          generalize row[j] = x at dw dm HX
          obtain ⟨x0_, x1_⟩ := x
          dsimp only at dw dm
          generalize refS (row.take j) = st at HX hsl ⊢
          obtain ⟨s, b⟩ := st
          simp only at hsl ⊢
          have hs1 : (⟨s.toArray⟩ : ByteArray).size = s.length := by show s.toArray.size = _; simp
          have hs2 : (⟨b.toArray⟩ : ByteArray).size = b.length := by show b.toArray.size = _; simp
          by_cases q0 : x0_ = 0 ∨ x0_ = 32
          · have HN : Hid (refS (row.take (j + 1)) = (s, b ++ [32])) := Lib.hid (by rw [HX.out]; unfold refC; rw [if_pos q0])
            rcases q0 with q0 | q0
            · have e0 : (x0_ == 0) = true := by simp [q0]
              clear q0 dm
              go_wp2
              go_roundw
              case rel => first | exact ⟨j + 1, by go_num, by omega, (by rw [HN.out]), (by rw [HN.out]; exact congrArg Value.string (bs_ap b [32])), HTi⟩ | repeat (first | (refine And.intro ?_ rfl; exact ⟨j + 1, by go_num, by omega, (by rw [HN.out]), (by rw [HN.out]; exact congrArg Value.string (bs_ap b [32])), HTi⟩) | apply Exists.intro)
              case measure => simp [intOf]; omega
            · have e0 : (x0_ == 0) = false := by simp [q0]
              have e1 : (x0_ == 32) = true := by simp [q0]
              clear q0 dm
              go_wp2
              go_roundw
              case rel => first | exact ⟨j + 1, by go_num, by omega, (by rw [HN.out]), (by rw [HN.out]; exact congrArg Value.string (bs_ap b [32])), HTi⟩ | repeat (first | (refine And.intro ?_ rfl; exact ⟨j + 1, by go_num, by omega, (by rw [HN.out]), (by rw [HN.out]; exact congrArg Value.string (bs_ap b [32])), HTi⟩) | apply Exists.intro)
              case measure => simp [intOf]; omega
          · have e0 : (x0_ == 0) = false := by simp only [beq_eq_false_iff_ne]; omega
            have e1 : (x0_ == 32) = false := by simp only [beq_eq_false_iff_ne]; omega
            by_cases q1 : x0_ = -1
            · have HN : Hid (refS (row.take (j + 1)) = (s, b)) := Lib.hid (by rw [HX.out]; unfold refC; rw [if_neg q0, if_pos q1])
              have e2 : (x0_ != -1) = false := by simp [q1]
              clear q0 q1 dm
              go_wp2
              go_roundw
              case rel => first | exact ⟨j + 1, by go_num, by omega, (by rw [HN.out]), (by rw [HN.out]), HTi⟩ | repeat (first | (refine And.intro ?_ rfl; exact ⟨j + 1, by go_num, by omega, (by rw [HN.out]), (by rw [HN.out]), HTi⟩) | apply Exists.intro)
              case measure => simp [intOf]; omega
            · have HN : Hid (refS (row.take (j + 1)) = (s ++ b ++ Lib.encodeRune (signN x0_), [])) := Lib.hid (by rw [HX.out]; unfold refC; rw [if_neg q0, if_neg q1])
              have e2 : (x0_ != -1) = true := by simp [q1]
              have hsg := fun W => duetref12_Sign.calls 1 x0_ (signB x0_) W (Sign_f 0 x0_)
              have hsz : (signB x0_).size ≤ 4 := by unfold signB; show (Lib.encodeRune (signN x0_)).toArray.size ≤ 4; rw [List.size_toArray]; exact (enc_len _).2
              have HSB : Hid (signB x0_ = ⟨(Lib.encodeRune (signN x0_)).toArray⟩) := Lib.hid rfl
              generalize signB x0_ = sg at hsg hsz HSB
              clear q0 q1 dm
              go_wp2_with (go_at_call 21; go_loud (refine (hsg _).mono ?_; rintro e w5 ⟨rfl, hB5⟩; have HT5 := Lib.hid (HTi.out.below hB5); clear hB5))
              go_roundw
              case rel => first | exact ⟨j + 1, by go_num, by omega, (by rw [HN.out, HSB.out]; exact congrArg Value.string (by rw [bs_ap, bs_ap])), (by rw [HN.out]), HT5⟩ | repeat (first | (refine And.intro ?_ rfl; exact ⟨j + 1, by go_num, by omega, (by rw [HN.out, HSB.out]; exact congrArg Value.string (by rw [bs_ap, bs_ap])), (by rw [HN.out]), HT5⟩) | apply Exists.intro)
              case measure => simp [intOf]; omega
        · obtain rfl : j = row.length := by omega
          have HT3 := HTi
          have HN : Hid ((⟨(refS (row.take row.length)).1.toArray⟩ : ByteArray) = ⟨(rowT row).toArray⟩) := Lib.hid (by rw [List.take_length, refS_row])
          obtain ⟨str, hstr⟩ : ∃ s : ByteArray, s = ⟨(refS (row.take row.length)).1.toArray⟩ := ⟨_, rfl⟩
          rw [← hstr] at HN ⊢
          have hgo : (strs.length + 1) * 16 ≤ 140737488355328 := by rw [HPL.out]; omega
          have HPN : Hid (pageT (rows.take (k + 1)) = strs ++ [str]) := Lib.hid (by rw [HP.out.1, HN.out])
          clear hstr hsl
          go_wp2_with (at_builtin; go_loud (refine print_append w1.heap.size rfl _ _ 37 9 (.string ByteArray.empty) 16 rfl Tryd.underlying37 info9 rfl (by decide) (.slice A3 strs.length c3) (strs.map Value.string) (.string str) rfl rfl rfl (by rw [List.length_map]; exact HT3.out.row) HT3.out.bel HT3.out.bel.size (by rw [List.length_map]; omega) ?_; intro v1 w7 hown hB7 hgr hat; have HT7 := Lib.hid (HT3.out.push hown hB7); clear hown hB7 hgr hat))
          go_roundw
          case rel => first | exact ⟨k + 1, by go_num, by omega, Lib.hid (by rw [HPN.out]; exact HT7.out)⟩ | repeat (first | (refine And.intro ?_ rfl; exact ⟨k + 1, by go_num, by omega, Lib.hid (by rw [HPN.out]; exact HT7.out)⟩) | apply Exists.intro)
          case measure => simp [intOf]; omega
    · obtain rfl : k = rows.length := by omega
      have hT := HT.out
      rw [List.take_length] at hT
      have HT2 := Lib.hid (ts_up hT HB0.out)
      clear hT HT
      go_wp2
      go_ret
      exact ⟨_, rfl, by show TS w wr (.slice A3 (pageT (rows.take rows.length)).length c3) _; rw [List.take_length]; exact HT2.out⟩
end Go.Proofs.YtoidlaonolkgkaaDoor.Gt
namespace Go.Proofs.YtoidlaonolkgkaaDoor.P
open Go.RowKit Go.Proofs.YtoidlaonolkgkaaDoor.Giv Go.Proofs.YtoidlaonolkgkaaDoor.Ge Go.Proofs.YtoidlaonolkgkaaDoor.Gd Go.Proofs.YtoidlaonolkgkaaDoor.Gc Go.Proofs.YtoidlaonolkgkaaDoor.Gt Go.Proofs.YtoidlaonolkgkaaDoor.Gr Go.Proofs.YtoidlaonolkgkaaDoorW.PrintWords Go.Proofs.YtoidlaonolkgkaaDoorW.PrintLast
/-- The document says of a page what the program says. -/
def duetref21_Text.f (l0 : List (List S47)) (a1 a2 : Int) : Option (List ByteArray) := layout_Text.f l0 a1 a2
theorem duetref21_Text.calls (A0 : Option Addr) (c0 : Nat) (l0 : List (List S47)) (a1 a2 : Int) (r : List ByteArray) (w : World) (hr0 : Kd.C (Kd.slice 47 k47) w A0 l0.length l0) (hc0 : l0.length ≤ c0) (h : duetref21_Text.f l0 a1 a2 = some r) :
    Calls Tryd.prog 15 #[.agg #[.slice A0 l0.length c0, .int .i64 a1, .int .i64 a2]] w fun e w' => ∃ v0_ : Value, e = .returned v0_ ∧ Kd.R Kd.string 9 w' w.heap.size (fun _ => True) v0_ r ∧ Below w.heap.size w w' := by
  unfold duetref21_Text.f layout_Text.f at h
  split at h
  · rename_i hb
    obtain rfl := Option.some.inj h
    refine (rtext_calls A0 c0 l0 a1 a2 w hr0 hb.1 hb.2).mono ?_
    rintro e w' ⟨v, rfl, hT⟩
    exact ⟨v, rfl, strs_R hT, hT.bel⟩
  · cases h
end Go.Proofs.YtoidlaonolkgkaaDoor.P
/- The document's Lay in plain Lean: its carets, its runes, its marks; and that all is as the program leaves it. -/
set_option linter.unusedVariables false
set_option linter.unusedSimpArgs false
namespace Go.Proofs.YtoidlaonolkgkaaDoor.Rl
open Go.RowKit Go.Proofs.YtoidlaonolkgkaaDoor.Giv Go.Proofs.YtoidlaonolkgkaaDoor.Gr Go.Proofs.YtoidlaonolkgkaaDoor.Gl Go.Proofs.YtoidlaonolkgkaaDoor.Gn Go.Proofs.YtoidlaonolkgkaaDoor.Gy Go.Proofs.YtoidlaonolkgkaaDoor.Gz Go.Proofs.YtoidlaonolkgkaaDoor.Gp Go.Proofs.YtoidlaonolkgkaaDoor.Gk Go.Proofs.YtoidlaonolkgkaaDoor.Gb Go.Proofs.YtoidlaonolkgkaaDoor.Gc Go.Proofs.YtoidlaonolkgkaaDoor.Gq Go.Proofs.YtoidlaonolkgkaaDoor.P Go.Proofs.YtoidlaonolkgkaaDoor.Lem Go.Proofs.YtoidlaonolkgkaaDoorW.PrintWords Go.Proofs.YtoidlaonolkgkaaDoorW.PrintLast Go.Proofs.YtoidlaonolkgkaaDoorW.PrintMore
def pI (a : Pos) : Int × Int := ((a.1 : Int), (a.2 : Int))
theorem step_f (a : Pos) (w wd : Nat) (hr : a.1 ≤ 1000000) (hc : a.2 ≤ 1000000) (hw : w ≤ 2) : duetref21_step.f (a.1 : Int) (a.2 : Int) (w : Int) (wd : Int) = some (pI (roomP wd a w)) := by
  unfold duetref21_step.f roomP pI
  rw [show wrap64 ((a.2 : Int) + (w : Int)) = (a.2 : Int) + (w : Int) by unfold wrap64; omega]
  by_cases h : wd < a.2 + w
  · rw [if_pos (by omega), if_pos h, show wrap64 ((a.1 : Int) + 1) = ((a.1 + 1 : Nat) : Int) by unfold wrap64; omega]; rfl
  · rw [if_neg (by omega), if_neg h]
theorem w64s (i : Nat) (h : i ≤ 1000000) : wrap64 ((i : Int) + 1) = ((i + 1 : Nat) : Int) := by unfold wrap64; omega
theorem w64a (a : Pos) (w : Nat) (h : a.2 ≤ 1000000) (hw : w ≤ 2) : wrap64 ((pI a).2 + (w : Int)) = ((a.2 + w : Nat) : Int) := by unfold pI wrap64; simp only; omega
theorem lt_big (i : Nat) (h : i ≤ 1000000) : i < 8796093022208 := Nat.lt_of_le_of_lt h (by decide)
/-- How far a place can be. -/
def Near (wd : Nat) (k : Nat) (a : Pos) : Prop := a.1 ≤ k ∧ a.2 ≤ wd
theorem near_pos {wd k : Nat} (h2 : 2 ≤ wd) {a : Pos} (h : Near wd k a) (x : Int) : Near wd (k + 1) (posL wd a x) := by
  unfold posL Near at *
  have hw := width_le x
  split
  · exact ⟨by omega, h.2⟩
  · obtain ⟨u, v, _⟩ := room_le wd a (widthN x).toNat h2 h.2 (by omega)
    exact ⟨by simp only; omega, u⟩
theorem near_run {wd : Nat} (h2 : 2 ≤ wd) (l : List Int) : ∀ {k : Nat} {a : Pos}, Near wd k a → Near wd (k + l.length) (posR wd a l) := by
  induction l with
  | nil => intro k a h; exact h
  | cons x l ih =>
    intro k a h
    have := ih (near_pos h2 h x)
    rw [List.length_cons, show k + (l.length + 1) = k + 1 + l.length by omega]
    exact this
theorem near_mono {wd k k' : Nat} {a : Pos} (h : Near wd k a) (hk : k ≤ k') : Near wd k' a := ⟨Nat.le_trans h.1 hk, h.2⟩
theorem near_room {wd k : Nat} (h2 : 2 ≤ wd) {a : Pos} (h : Near wd k a) (w : Nat) (hw : w ≤ 2) : Near wd (k + 1) (roomP wd a w) ∧ (roomP wd a w).2 + w ≤ wd := by
  obtain ⟨u, v, _⟩ := room_le wd a w h2 h.2 hw
  have := h.1
  exact ⟨⟨by omega, by omega⟩, u⟩
theorem posL_some (wd : Nat) (a : Pos) (x : Int) (h : widthN x ≠ 0) : posL wd a x = ((roomP wd a (widthN x).toNat).1, (roomP wd a (widthN x).toNat).2 + (widthN x).toNat) := by unfold posL; rw [if_neg h]
theorem posL_zero (wd : Nat) (a : Pos) (x : Int) (h : widthN x = 0) : posL wd a x = a := by unfold posL; rw [if_pos h]
theorem behind_l0 (wd : Nat) (h2 : 2 ≤ wd) (h5 : wd ≤ 512) (l : List Int) (hl : l.length ≤ 2000) (K : Nat) : ∀ (m i : Nat) (a : Pos), i + m = l.length → Near wd (i + 3000) a → duetref21_behind.l0 (m + 1 + K) (wd : Int) l ((i : Nat) : Int) (a.1 : Int) (a.2 : Int) = some (pI (posR wd a (l.drop i)))
  | 0, i, a, h, hn => by
    rw [show 0 + 1 + K = K + 1 by omega, duetref21_behind.l0, if_neg (by omega), List.drop_eq_nil_of_le (by omega)]; rfl
  | m + 1, i, a, h, hn => by
    have hi : i < l.length := by omega
    have hw := width_le l[i]
    have hr : rd l (i : Int) = l[i] := by unfold rd; rw [Int.toNat_natCast, List.getD_eq_getElem?_getD, List.getElem?_eq_getElem hi]; rfl
    have hi1 : wrap64 ((i : Int) + 1) = ((i + 1 : Nat) : Int) := by unfold wrap64; omega
    rw [show m + 1 + 1 + K = (m + K + 1) + 1 by omega, duetref21_behind.l0, if_pos (by omega), if_pos (by omega), hr, refWidth_f, Option.bind_some, hi1, List.drop_eq_getElem_cons hi, posR_cons]
    by_cases h0 : widthN l[i] = 0
    · rw [if_neg (by omega), posL_zero _ _ _ h0, show m + K + 1 = m + 1 + K by omega]
      exact behind_l0 wd h2 h5 l hl K m (i + 1) a (by omega) (near_mono hn (by omega))
    · obtain ⟨w, hwn⟩ : ∃ w : Nat, widthN l[i] = (w : Int) := ⟨(widthN l[i]).toNat, by omega⟩
      have hn1 := hn.1
      have hn2 := hn.2
      rw [if_pos (by omega), posL_some _ _ _ h0, hwn, Int.toNat_natCast, step_f a w wd (by omega) (by omega) (by omega), Option.bind_some, show m + K + 1 = m + 1 + K by omega]
      obtain ⟨⟨u1, u2⟩, u3⟩ := near_room h2 hn w (by omega)
      have hc : wrap64 ((pI (roomP wd a w)).2 + (w : Int)) = (((roomP wd a w).2 + w : Nat) : Int) := by unfold pI wrap64; simp only; omega
      rw [hc]
      exact behind_l0 wd h2 h5 l hl K m (i + 1) ((roomP wd a w).1, (roomP wd a w).2 + w) (by omega) ⟨by simp only; omega, u3⟩
theorem behind_f (wd : Nat) (h2 : 2 ≤ wd) (h5 : wd ≤ 512) (l : List Int) (hl : l.length ≤ 2000) (a : Pos) (ha : Near wd 3000 a) : duetref21_behind.f (l.length + 1) (wd : Int) (a.1 : Int) (a.2 : Int) l = some (pI (posR wd a l)) := by
  unfold duetref21_behind.f
  have := behind_l0 wd h2 h5 l hl 0 l.length 0 a (by omega) (near_mono ha (by omega))
  rw [List.drop_zero] at this
  exact this
/-- A place as the document's. -/
def pS (a : Pos) : S58 := ⟨(a.1 : Int), (a.2 : Int)⟩
def placesL (wd : Nat) (a : Pos) (l : List Int) (k : Nat) : List S58 := (List.range k).map fun j => pS (placeL wd a l j)
theorem places_succ (wd : Nat) (a : Pos) (l : List Int) (k : Nat) : placesL wd a l (k + 1) = placesL wd a l k ++ [pS (placeL wd a l k)] := by unfold placesL; rw [List.range_succ, List.map_append]; rfl
theorem places_len (wd : Nat) (a : Pos) (l : List Int) (k : Nat) : (placesL wd a l k).length = k := by unfold placesL; rw [List.length_map, List.length_range]
theorem nextW_nil : nextW [] = 1 := rfl
/-- From the rune q on: the first that takes a cell. -/
theorem carets_l1 (wd : Nat) (h2 : 2 ≤ wd) (h5 : wd ≤ 512) (a0 : Pos) (l : List Int) (hl : l.length ≤ 2000) (i : Nat) (hi : i ≤ l.length) (a : Pos) (ha : a = posR wd a0 (l.take i)) (hn : Near wd (i + 3000) a) (K : Nat) :
    ∀ (m q : Nat), q + m = l.length → i ≤ q → nextW (l.drop i) = nextW (l.drop q) → (∀ (h : i < l.length), i < q → widthN l[i] = 0) →
      ∃ K2, K ≤ K2 ∧ duetref21_carets.l1 (m + 3 + K) (wd : Int) l (placesL wd a0 l i) ((i : Nat) : Int) ((q : Nat) : Int) (a.1 : Int) (a.2 : Int) = duetref21_carets.l0 K2 (wd : Int) l (placesL wd a0 l (i + 1)) ((i + 1 : Nat) : Int) ((if i < l.length then (posR wd a0 (l.take (i + 1))).1 else a.1 : Nat) : Int) ((if i < l.length then (posR wd a0 (l.take (i + 1))).2 else a.2 : Nat) : Int)
  | 0, q, h, hiq, hnx, hz => by
    have hq : q = l.length := by omega
    subst hq
    have hn1 := hn.1
    have hn2 := hn.2
    refine ⟨K + 1, by omega, ?_⟩
    rw [show 0 + 3 + K = K + 1 + 1 + 1 by omega, duetref21_carets.l1, if_neg (by omega), duetref21_carets.j2, if_pos rfl, show (1 : Int) = ((1 : Nat) : Int) from rfl, step_f a 1 wd (by omega) (by omega) (by omega), Option.bind_some, places_len, if_pos (lt_big i (by omega))]
    rw [show ((i : Nat) : Int) + ((1 : Nat) : Int) = (i : Int) + 1 from rfl, w64s i (by omega), places_succ]
    have hpl : placeL wd a0 l i = roomP wd a 1 := by
      unfold placeL
      rw [hnx, List.drop_eq_nil_of_le (Nat.le_refl _), nextW_nil, ← ha]; rfl
    rw [hpl]
    by_cases hlt : i < l.length
    · have h0 := hz hlt hlt
      have e : posR wd a0 (l.take (i + 1)) = a := by rw [List.take_succ_eq_append_getElem hlt, posR_append, ← ha]; show posL wd a l[i] = a; exact posL_zero _ _ _ h0
      rw [if_pos hlt, if_pos hlt, e]; rfl
    · rw [if_neg hlt, if_neg hlt]; rfl
  | m + 1, q, h, hiq, hnx, hz => by
    have hq : q < l.length := by omega
    have hw := width_le l[q]
    have hr : rd l (q : Int) = l[q] := by unfold rd; rw [Int.toNat_natCast, List.getD_eq_getElem?_getD, List.getElem?_eq_getElem hq]; rfl
    have hn1 := hn.1
    have hn2 := hn.2
    have hlt : i < l.length := by omega
    rw [show m + 1 + 3 + K = (m + K + 2) + 1 + 1 by omega, duetref21_carets.l1, if_pos (by omega), if_pos (by omega), hr, refWidth_f, Option.bind_some]
    by_cases h0 : widthN l[q] = 0
    · rw [if_pos h0, w64s q (by omega)]
      have := carets_l1 wd h2 h5 a0 l hl i hi a ha hn K m (q + 1) (by omega) (by omega) (by rw [hnx, List.drop_eq_getElem_cons hq, nextW_zero _ _ h0]) (fun h9 h8 => by
        by_cases e : i = q
        · subst e; exact h0
        · exact hz h9 (by omega))
      rw [show m + K + 2 + 1 = m + 3 + K by omega]
      exact this
    · obtain ⟨w, hwn⟩ : ∃ w : Nat, widthN l[q] = (w : Int) := ⟨(widthN l[q]).toNat, by omega⟩
      have hnw : nextW (l.drop i) = (w : Int) := by rw [hnx, List.drop_eq_getElem_cons hq, nextW_some _ _ h0, hwn]
      have hpl : placeL wd a0 l i = roomP wd a w := by
        unfold placeL
        rw [hnw, Int.toNat_natCast, ← ha]
      obtain ⟨⟨u1, u2⟩, u3⟩ := near_room h2 hn w (by omega)
      refine ⟨m + K + 2, by omega, ?_⟩
      rw [if_neg h0, duetref21_carets.j2, if_neg (by omega), if_pos (by omega), if_pos (by omega), hr, show m + K + 2 = (m + K + 1) + 1 by omega, refWidth_f, Option.bind_some, hwn, step_f a w wd (by omega) (by omega) (by omega), Option.bind_some, places_len, if_pos (lt_big i (by omega)), Option.bind_some, Option.bind_some, w64s i (by omega), places_succ, hpl, if_pos hlt, if_pos hlt]
      by_cases e : q = i
      · subst e
        rw [if_pos rfl]
        have hp : posR wd a0 (l.take (q + 1)) = ((roomP wd a w).1, (roomP wd a w).2 + w) := by
          rw [List.take_succ_eq_append_getElem hq, posR_append, ← ha]
          show posL wd a l[q] = _
          rw [posL_some _ _ _ h0, hwn, Int.toNat_natCast]
        rw [w64a (roomP wd a w) w (by omega) (by omega), hp]; rfl
      · rw [if_neg (by omega)]
        have h00 := hz hlt (by omega)
        have hp : posR wd a0 (l.take (i + 1)) = a := by rw [List.take_succ_eq_append_getElem hlt, posR_append, ← ha]; show posL wd a l[i] = a; exact posL_zero _ _ _ h00
        rw [hp]; rfl
theorem up {α : Type} (f : Nat → Option α) (h : ∀ k, LeO (f k) (f (k + 1))) {k : Nat} {r : α} (hk : f k = some r) {n : Nat} (hn : k ≤ n) : f n = some r := by
  induction hn with
  | refl => exact hk
  | step _ ih => exact h _ r ih
theorem carets_l0 (wd : Nat) (h2 : 2 ≤ wd) (h5 : wd ≤ 512) (a0 : Pos) (ha0 : Near wd 3000 a0) (l : List Int) (hl : l.length ≤ 2000) :
    ∀ (m i : Nat), i + m = l.length + 1 → ∃ K, duetref21_carets.l0 K (wd : Int) l (placesL wd a0 l i) ((i : Nat) : Int) ((posR wd a0 (l.take i)).1 : Int) ((posR wd a0 (l.take i)).2 : Int) = some (placesL wd a0 l (l.length + 1))
  | 0, i, h => by
    refine ⟨0 + 1, ?_⟩
    rw [duetref21_carets.l0, if_neg (by omega), show i = l.length + 1 by omega]
  | m + 1, i, h => by
    obtain ⟨K, hK⟩ := carets_l0 wd h2 h5 a0 ha0 l hl m (i + 1) (by omega)
    have hn : Near wd (i + 3000) (posR wd a0 (l.take i)) := near_mono (near_run h2 (l.take i) ha0) (by rw [List.length_take]; omega)
    obtain ⟨K2, h1, h3⟩ := carets_l1 wd h2 h5 a0 l hl i (by omega) _ rfl hn K (l.length - i) i (by omega) (Nat.le_refl _) rfl (fun _ h => absurd h (Nat.lt_irrefl _))
    refine ⟨(l.length - i + 3 + K) + 1, ?_⟩
    rw [duetref21_carets.l0, if_pos (by omega), h3]
    have h4 := up (fun k => duetref21_carets.l0 k (wd : Int) l (placesL wd a0 l (i + 1)) ((i + 1 : Nat) : Int) ((posR wd a0 (l.take (i + 1))).1 : Int) ((posR wd a0 (l.take (i + 1))).2 : Int)) (fun k => (duetref21_carets.mono_l k).1 _ _ _ _ _ _) hK h1
    by_cases hlt : i < l.length
    · rw [if_pos hlt, if_pos hlt]; exact h4
    · rw [if_neg hlt, if_neg hlt]
      have e : l.take (i + 1) = l.take i := by rw [List.take_of_length_le (by omega), List.take_of_length_le (by omega)]
      rw [e] at h4; exact h4
theorem carets_f (wd : Nat) (h2 : 2 ≤ wd) (h5 : wd ≤ 512) (a0 : Pos) (ha0 : Near wd 3000 a0) (l : List Int) (hl : l.length ≤ 2000) : ∃ K, duetref21_carets.f K (wd : Int) (a0.1 : Int) (a0.2 : Int) l = some (placesL wd a0 l (l.length + 1)) := by
  obtain ⟨K, h⟩ := carets_l0 wd h2 h5 a0 ha0 l hl (l.length + 1) 0 (by omega)
  exact ⟨K, h⟩
theorem places_get (wd : Nat) (a : Pos) (l : List Int) (n j : Nat) (h : j < n) : (placesL wd a l n)[j]? = some (pS (placeL wd a l j)) := by
  unfold placesL; rw [List.getElem?_map, List.getElem?_range h]; rfl
theorem rd_place (wd : Nat) (a : Pos) (l : List Int) (n j : Nat) (h : j < n) : rd_T58 (placesL wd a l n) (j : Int) = pS (placeL wd a l j) := by
  unfold rd_T58; rw [Int.toNat_natCast, List.getD_eq_getElem?_getD, places_get _ _ _ _ _ h]; rfl
/-- The last row, seen so far. -/
def lastF (wd : Nat) (a : Pos) (l : List Int) (m : Nat) (os : List Int) : Nat := os.foldl (fun m x => if 0 ≤ x ∧ x ≤ (l.length : Int) then max m (placeL wd a l x.toNat).1 else m) m
theorem last_le (wd : Nat) (a : Pos) (l : List Int) (os : List Int) : ∀ (m N : Nat), lastF wd a l m os ≤ N ↔ m ≤ N ∧ ∀ x ∈ os, 0 ≤ x → x ≤ (l.length : Int) → (placeL wd a l x.toNat).1 ≤ N := by
  induction os with
  | nil => intro m N; simp [lastF]
  | cons y os ih =>
    intro m N
    show lastF wd a l (if 0 ≤ y ∧ y ≤ (l.length : Int) then max m (placeL wd a l y.toNat).1 else m) os ≤ N ↔ _
    rw [ih]
    constructor
    · rintro ⟨h1, h3⟩
      split at h1
      · rename_i hy
        refine ⟨by omega, fun x hx => ?_⟩
        rcases List.mem_cons.1 hx with rfl | hx
        · intro _ _; omega
        · exact h3 x hx
      · rename_i hy
        refine ⟨h1, fun x hx => ?_⟩
        rcases List.mem_cons.1 hx with rfl | hx
        · intro h5 h6; exact absurd ⟨h5, h6⟩ hy
        · exact h3 x hx
    · rintro ⟨h1, h3⟩
      refine ⟨?_, fun x hx => h3 x (List.mem_cons_of_mem _ hx)⟩
      split
      · rename_i hy
        have := h3 y (by simp) hy.1 hy.2
        omega
      · exact h1
/-- One other's mark. -/
def markF (wd : Nat) (a : Pos) (l : List Int) (G : Grd) (x : Int) : Grd :=
  if 0 ≤ x ∧ x ≤ (l.length : Int) then
    (if (placeL wd a l x.toNat).2 + 1 < wd ∧ (G (placeL wd a l x.toNat).1 ((placeL wd a l x.toNat).2 + 1)).1 = -1 then markG (markG G (placeL wd a l x.toNat).1 (placeL wd a l x.toNat).2) (placeL wd a l x.toNat).1 ((placeL wd a l x.toNat).2 + 1)
    else markG G (placeL wd a l x.toNat).1 (placeL wd a l x.toNat).2) else G
theorem markG_rune (G : Grd) (R C i k : Nat) : (markG G R C i k).1 = (G i k).1 := by
  unfold markG updG updM
  by_cases hi : i = R
  · subst hi
    by_cases hk : k = C
    · subst hk; simp
    · simp [hk]
  · simp [hi]
theorem markG_mark (G : Grd) (R C i k : Nat) : (markG G R C i k).2 = ((G i k).2 || decide (i = R ∧ k = C)) := by
  unfold markG updG updM
  by_cases hi : i = R
  · subst hi
    by_cases hk : k = C
    · subst hk; simp
    · simp [hk]
  · simp [hi]
theorem markF_rune (wd : Nat) (a : Pos) (l : List Int) (G : Grd) (x : Int) (i k : Nat) : (markF wd a l G x i k).1 = (G i k).1 := by
  unfold markF
  split
  · split
    · rw [markG_rune, markG_rune]
    · rw [markG_rune]
  · rfl
theorem marksF_rune (wd : Nat) (a : Pos) (l : List Int) (os : List Int) : ∀ (G : Grd) (i k : Nat), (os.foldl (markF wd a l) G i k).1 = (G i k).1 := by
  induction os with
  | nil => intro G i k; rfl
  | cons y os ih => intro G i k; rw [List.foldl_cons, ih, markF_rune]
/-- How wide a mark is. -/
def mkW (wd : Nat) (a : Pos) (l : List Int) (G : Grd) (j : Nat) : Nat := if (placeL wd a l j).2 + 1 < wd ∧ (G (placeL wd a l j).1 ((placeL wd a l j).2 + 1)).1 = -1 then 2 else 1
theorem markF_mark (wd : Nat) (a : Pos) (l : List Int) (G : Grd) (x : Int) (i k : Nat) : (markF wd a l G x i k).2 = true ↔ (G i k).2 = true ∨ (0 ≤ x ∧ x ≤ (l.length : Int) ∧ i = (placeL wd a l x.toNat).1 ∧ (placeL wd a l x.toNat).2 ≤ k ∧ k < (placeL wd a l x.toNat).2 + mkW wd a l G x.toNat) := by
  unfold markF mkW
  by_cases hx : 0 ≤ x ∧ x ≤ (l.length : Int)
  · rw [if_pos hx]
    by_cases hc : (placeL wd a l x.toNat).2 + 1 < wd ∧ (G (placeL wd a l x.toNat).1 ((placeL wd a l x.toNat).2 + 1)).1 = -1
    · rw [if_pos hc, if_pos hc, markG_mark, markG_mark, Bool.or_eq_true, Bool.or_eq_true, decide_eq_true_eq, decide_eq_true_eq, or_assoc]
      refine or_congr_right ?_
      constructor
      · rintro (h | h) <;> omega
      · intro h
        by_cases hk : k = (placeL wd a l x.toNat).2
        · exact .inl ⟨h.2.2.1, hk⟩
        · exact .inr ⟨h.2.2.1, by omega⟩
    · rw [if_neg hc, if_neg hc, markG_mark, Bool.or_eq_true, decide_eq_true_eq]
      refine or_congr_right ?_
      constructor
      · intro h; omega
      · intro h; exact ⟨h.2.2.1, by omega⟩
  · rw [if_neg hx]
    constructor
    · exact fun h => .inl h
    · rintro (h | h)
      · exact h
      · exact absurd ⟨h.1, h.2.1⟩ hx
theorem mkW_congr (wd : Nat) (a : Pos) (l : List Int) {G H : Grd} (h : ∀ i k, (G i k).1 = (H i k).1) (j : Nat) : mkW wd a l G j = mkW wd a l H j := by unfold mkW; rw [h]
theorem marksF_mark (wd : Nat) (a : Pos) (l : List Int) (os : List Int) : ∀ (G : Grd) (i k : Nat), (os.foldl (markF wd a l) G i k).2 = true ↔ (G i k).2 = true ∨ ∃ x ∈ os, 0 ≤ x ∧ x ≤ (l.length : Int) ∧ i = (placeL wd a l x.toNat).1 ∧ (placeL wd a l x.toNat).2 ≤ k ∧ k < (placeL wd a l x.toNat).2 + mkW wd a l G x.toNat := by
  induction os with
  | nil => intro G i k; simp
  | cons y os ih =>
    intro G i k
    rw [List.foldl_cons, ih, markF_mark]
    have hw : ∀ j, mkW wd a l (markF wd a l G y) j = mkW wd a l G j := fun j => mkW_congr wd a l (markF_rune wd a l G y) j
    constructor
    · rintro ((h | h) | ⟨x, hx, h⟩)
      · exact .inl h
      · exact .inr ⟨y, by simp, h⟩
      · rw [hw] at h; exact .inr ⟨x, List.mem_cons_of_mem _ hx, h⟩
    · rintro (h | ⟨x, hx, h⟩)
      · exact .inl (.inl h)
      · rcases List.mem_cons.1 hx with rfl | hx
        · exact .inl (.inr h)
        · exact .inr ⟨x, hx, by rw [hw]; exact h⟩
/-- Within a row that may be, a half stands behind what is wide. -/
theorem go_next (a b : S47) (l2 : List S47) (hb : b.f0 = -1) : ∀ (l1 : List S47) (o pm : Bool), rowGo o pm (l1 ++ a :: b :: l2) = true → widthN a.f0 = 2
  | [], o, pm, h => by
    rw [List.nil_append, rowGo] at h
    split at h
    · cases h
    · rw [rowGo] at h
      split at h
      · cases h
      · rename_i h1 h3
        cases hw : (widthN a.f0 == 2) with
        | true => simpa using hw
        | false => exact absurd (show cellBad (widthN a.f0 == 2) a.f1 b = true by unfold cellBad; rw [hb, hw]; rfl) h3
  | c :: l1, o, pm, h => by
    rw [List.cons_append, rowGo] at h
    split at h
    · cases h
    · exact go_next a b l2 hb l1 _ _ h
theorem row_next (wd : Nat) (r : Cells) (k : Nat) (hk : k + 1 < wd) (h : rowGo false false (rowS wd r) = true) (hb : (r (k + 1)).1 = -1) : widthN (r k).1 = 2 := by
  have e : rowS wd r = rowS k r ++ ⟨(r k).1, (r k).2⟩ :: ⟨(r (k + 1)).1, (r (k + 1)).2⟩ :: rowS (wd - (k + 2)) (fun q => r (k + 2 + q)) := by
    have h1 := rowS_split (k + 2) (wd - (k + 2)) r
    rw [show k + 2 + (wd - (k + 2)) = wd by omega, show k + 2 = k + 1 + 1 from rfl, rowS_one, rowS_one] at h1
    rw [h1]; simp
  rw [e] at h
  exact go_next _ _ _ hb _ _ _ h
/-- What lies behind the pen stays. -/
theorem run_fixed (wd : Nat) (h2 : 2 ≤ wd) (l : List Int) : ∀ (s : LS), s.col ≤ wd → ∀ i k, (i < s.row ∨ (i = s.row ∧ k < s.col)) → ((runL wd s l).G i k).1 = (s.G i k).1 := by
  induction l with
  | nil => intro s _ i k _; rfl
  | cons x l ih =>
    intro s hc i k h
    rw [runL_cons]
    have hw := width_le x
    obtain ⟨u1, u2, u3⟩ := room_le wd (s.row, s.col) (widthN x).toNat h2 hc (by omega)
    simp only at u2 u3
    have hr : (roomP wd (s.row, s.col) (widthN x).toNat).1 = s.row → (roomP wd (s.row, s.col) (widthN x).toNat).2 = s.col := by
      unfold roomP; split
      · intro e; simp only at e; omega
      · intro _; rfl
    by_cases h0 : widthN x = 0
    · have e : layL wd s x = s := by unfold layL; rw [if_pos h0]
      rw [e]; exact ih s hc i k h
    · have e : layL wd s x = ⟨(roomP wd (s.row, s.col) (widthN x).toNat).1, (roomP wd (s.row, s.col) (widthN x).toNat).2 + (widthN x).toNat, max s.n ((roomP wd (s.row, s.col) (widthN x).toNat).1 + 1), layG s.G (roomP wd (s.row, s.col) (widthN x).toNat).1 (roomP wd (s.row, s.col) (widthN x).toNat).2 x (widthN x)⟩ := by unfold layL; rw [if_neg h0]
      have hpos : i < (roomP wd (s.row, s.col) (widthN x).toNat).1 ∨ (i = (roomP wd (s.row, s.col) (widthN x).toNat).1 ∧ k < (roomP wd (s.row, s.col) (widthN x).toNat).2) := by
        by_cases e4 : (roomP wd (s.row, s.col) (widthN x).toNat).1 = s.row
        · have := hr e4; omega
        · omega
      rw [e, ih _ u1 i k (by simp only; omega)]
      simp only
      rw [layG_rune, if_neg (by omega), if_neg (by omega)]
/-- A mark is as wide as what comes. -/
theorem mkW_next (wd : Nat) (h2 : 2 ≤ wd) (m : List Int) : ∀ (s : LS), Nice wd s m → s.col ≤ wd → (∀ i, rowGo false false (rowS wd ((runL wd s m).G i)) = true) →
    (if (caretP wd s m).2 + 1 < wd ∧ ((runL wd s m).G (caretP wd s m).1 ((caretP wd s m).2 + 1)).1 = -1 then 2 else 1) = (nextW m).toNat := by
  induction m with
  | nil =>
    intro s hN _ _
    have h1 := hN.rest ((caretP wd s []).2 + 1) (by omega)
    refine (if_neg ?_).trans rfl
    rintro ⟨_, h⟩
    rw [show (runL wd s []).G = s.G from rfl, h1] at h
    exact absurd h (by decide)
  | cons x m ih =>
    intro s hN hc hrow
    have hw := width_le x
    by_cases h0 : widthN x = 0
    · have e : layL wd s x = s := by unfold layL; rw [if_pos h0]
      have hcp : caretP wd s (x :: m) = caretP wd s m := by unfold caretP; rw [nextW_zero _ _ h0]
      have hN2 := Nice.lay h2 hN
      rw [runL_cons] at hrow ⊢
      rw [e] at hrow hN2 ⊢
      rw [hcp, nextW_zero _ _ h0]
      exact ih s hN2 hc hrow
    · have hcp : caretP wd s (x :: m) = roomP wd (s.row, s.col) (widthN x).toNat := by unfold caretP; rw [nextW_some _ _ h0]
      have hfit := hN.fit
      rw [hcp, nextW_some _ _ h0] at hfit
      rw [hcp, nextW_some _ _ h0]
      rw [runL_cons] at hrow ⊢
      have e : layL wd s x = ⟨(roomP wd (s.row, s.col) (widthN x).toNat).1, (roomP wd (s.row, s.col) (widthN x).toNat).2 + (widthN x).toNat, max s.n ((roomP wd (s.row, s.col) (widthN x).toNat).1 + 1), layG s.G (roomP wd (s.row, s.col) (widthN x).toNat).1 (roomP wd (s.row, s.col) (widthN x).toNat).2 x (widthN x)⟩ := by unfold layL; rw [if_neg h0]
      have hC : ((runL wd (layL wd s x) m).G (roomP wd (s.row, s.col) (widthN x).toNat).1 (roomP wd (s.row, s.col) (widthN x).toNat).2).1 = x := by
        rw [run_fixed wd h2 m _ (by rw [e]; exact hfit) _ _ (by rw [e]; exact .inr ⟨rfl, by simp only; omega⟩), e]
        simp only
        rw [layG_rune, if_neg (by omega), if_pos ⟨rfl, rfl⟩]
      by_cases hx : widthN x = 2
      · have hC1 : ((runL wd (layL wd s x) m).G (roomP wd (s.row, s.col) (widthN x).toNat).1 ((roomP wd (s.row, s.col) (widthN x).toNat).2 + 1)).1 = -1 := by
          rw [run_fixed wd h2 m _ (by rw [e]; exact hfit) _ _ (by rw [e]; exact .inr ⟨rfl, by simp only; omega⟩), e]
          simp only
          rw [layG_rune, if_pos ⟨hx, rfl, rfl⟩]
        rw [if_pos ⟨by omega, hC1⟩, hx]; rfl
      · rw [if_neg ?_]
        · omega
        · rintro ⟨h3, h4⟩
          have := row_next wd _ _ h3 (hrow _) h4
          rw [hC] at this
          exact hx this
end Go.Proofs.YtoidlaonolkgkaaDoor.Rl
/- The document's page in its box, and what is beside it. -/
set_option linter.unusedVariables false
set_option linter.unusedSimpArgs false
namespace Go.Proofs.YtoidlaonolkgkaaDoor.Pg
open Go.RowKit Go.Proofs.YtoidlaonolkgkaaDoor.Giv Go.Proofs.YtoidlaonolkgkaaDoor.Gr Go.Proofs.YtoidlaonolkgkaaDoor.Gl Go.Proofs.YtoidlaonolkgkaaDoor.Gn Go.Proofs.YtoidlaonolkgkaaDoor.Gy Go.Proofs.YtoidlaonolkgkaaDoor.Gz Go.Proofs.YtoidlaonolkgkaaDoor.Gp Go.Proofs.YtoidlaonolkgkaaDoor.Gk Go.Proofs.YtoidlaonolkgkaaDoor.Gb Go.Proofs.YtoidlaonolkgkaaDoor.Gq Go.Proofs.YtoidlaonolkgkaaDoor.Rl Go.Proofs.YtoidlaonolkgkaaDoor.P Go.Proofs.YtoidlaonolkgkaaDoorW.PrintWords Go.Proofs.YtoidlaonolkgkaaDoorW.PrintLast
/-- Blocks of other kinds than rows and their cells are kept. -/
def KpG (w w' : World) : Prop := ∀ (j : Nat) (t : TypeId) (cells : Array Value), t ≠ 45 → t ≠ 47 → w.heap[j]? = some (.cells cells t (0, 0)) → w'.heap[j]? = some (.cells cells t (0, 0))
theorem KpG.trans {a b c : World} (h : KpG a b) (k : KpG b c) : KpG a c := fun j t cells h1 h2 hc => k j t cells h1 h2 (h j t cells h1 h2 hc)
theorem kpg_below {w w1 : World} (hb : Below w.heap.size w w1) : KpG w w1 := fun j t cells _ _ hc => (hb.block j (blk_lt hc)).trans hc
theorem blk_ne {w : World} {j b : Nat} {t t' : TypeId} {cs cs' : Array Value} (h : w.heap[j]? = some (.cells cs t (0, 0))) (h' : w.heap[b]? = some (.cells cs' t' (0, 0))) (ht : t ≠ t') : j ≠ b := fun e => by
  rw [e, h'] at h; have h2 := Option.some.inj h; injection h2 with _ h3; exact ht h3.symm
/-- A page in its box. -/
structure Pg (W wr : World) (p : Nat) (X Y : Int) (v : Value) (width n : Nat) (G : Grd) (bs : List Nat) : Prop where
  b : wr.heap[p]? = some (.cells #[v, .int .i64 X, .int .i64 Y] 32 (0, 0))
  hp : W.heap.size ≤ p
  grid : Grid W.heap.size wr v width n G bs
  bel : Below W.heap.size W wr
section
variable {W wr w1 : World} {p : Nat} {X Y : Int} {v v1 : Value} {width n : Nat} {G : Grd} {bs : List Nat}
theorem Pg.c (h : Pg W wr p X Y v width n G bs) : wr.cell? ⟨p, 0, none⟩ = some v ∧ wr.cell? ⟨p, 1, none⟩ = some (.int .i64 X) ∧ wr.cell? ⟨p, 2, none⟩ = some (.int .i64 Y) ∧ (∀ i, wr.frozen? ⟨p, i, none⟩ = false) :=
  ⟨by rw [blk_cell h.b]; rfl, by rw [blk_cell h.b]; rfl, by rw [blk_cell h.b]; rfl, fun i => blk_frozen h.b i⟩
theorem Pg.below (h : Pg W wr p X Y v width n G bs) (hb : Below wr.heap.size wr w1) : Pg W w1 p X Y v width n G bs :=
  ⟨(hb.block p (blk_lt h.b)).trans h.b, h.hp, h.grid.below hb, below_then' h.bel hb⟩
theorem Pg.new {W wr : World} (hb : Below W.heap.size W wr) (X Y : Int) (width : Nat) : Pg W (wr.alloc (.cells #[.slice none 0 0, .int .i64 X, .int .i64 Y] 32)) wr.heap.size X Y (.slice none 0 0) width 0 (fun _ _ => (0, false)) [] :=
  ⟨heap_alloc_new _ _, hb.size, ⟨rfl, own_nil _ _ _ _, fun i b h => by simp at h, List.nodup_nil, fun _ _ _ => rfl⟩, hb.alloc hb.size _⟩
theorem Pg.fresh (h : Pg W wr p X Y v width n G bs) : wr.heap.size ∉ bs := fun hm => by
  obtain ⟨i, hi⟩ := List.getElem?_of_mem hm
  have := blk_lt (h.grid.blk i _ hi).2
  omega
theorem Pg.grown (h : Pg W wr p X Y v width n G bs) (hg : wr.grownBy w1 v.ownBlock) : w1.heap[p]? = some (.cells #[v, .int .i64 X, .int .i64 Y] 32 (0, 0)) :=
  (hg.block p (blk_lt h.b) (own_ne h.grid.own h.b (by decide))).trans h.b
/-- A row more. -/
theorem Pg.push {b : Nat} (h : Pg W wr p X Y v width n G bs) (hb : wr.heap[b]? = some (.cells (rowC width (fun _ => (0, false))).toArray 47 (0, 0))) (hbase : W.heap.size ≤ b) (hnew : b ∉ bs)
    (hown : w1.ownsRow W.heap.size 45 1 v1 (n + 1) ((bs ++ [b]).map fun b : Nat => .slice (some ⟨b, 0, none⟩) width width)) (hg : wr.grownBy w1 v.ownBlock) : Pg W (w1.setCell ⟨p, 0, none⟩ v1) p X Y v1 width (n + 1) G (bs ++ [b]) := by
  have hpn := own_ne h.grid.own h.b (by decide)
  have hp1 := h.grown hg
  have kp : ∀ j t cells, t ≠ 45 → j ≠ p → wr.heap[j]? = some (.cells cells t (0, 0)) → (w1.setCell ⟨p, 0, none⟩ v1).heap[j]? = some (.cells cells t (0, 0)) := fun j t cells ht hj hc => (Below.heap_setCell w1 ⟨p, 0, none⟩ v1 j hj).trans ((hg.block j (blk_lt hc) (own_ne h.grid.own hc (fun e => ht e.symm))).trans hc)
  have hbel : Below W.heap.size W w1 := pw_below_grown h.bel v.ownBlock (Nat.le_trans h.hp (Nat.le_of_lt (blk_lt h.b))) hg (fun k hk => own_base h.grid.own k hk)
  have hz : (fun _ : Nat => ((0, false) : Int × Bool)) = G n := by funext k; exact (h.grid.zero n k (Nat.le_refl _)).symm
  refine ⟨blk_put hp1 0 v1 rfl, h.hp, ⟨by rw [List.length_append, h.grid.len]; rfl, own_setCell hown (own_ne hown hp1 (by decide)) v1, fun i c hi => ?_, ?_, fun i k hi => h.grid.zero i k (by omega)⟩, hbel.setCell h.hp v1⟩
  · have hne : ∀ c cells, wr.heap[c]? = some (.cells cells 47 (0, 0)) → c ≠ p := fun c cells hc => blk_ne hc h.b (by decide)
    by_cases hi2 : i < bs.length
    · rw [List.getElem?_append_left hi2] at hi
      obtain ⟨x1, x2⟩ := h.grid.blk i c hi
      exact ⟨x1, kp c 47 _ (by decide) (hne c _ x2) x2⟩
    · rw [List.getElem?_append_right (by omega)] at hi
      have h0 : i - bs.length = 0 := by
        rcases Nat.eq_zero_or_pos (i - bs.length) with q | q
        · exact q
        · rw [List.getElem?_eq_none (by simp; omega)] at hi; cases hi
      rw [h0] at hi
      obtain rfl := Option.some.inj hi
      have e : i = n := by have := h.grid.len; omega
      rw [e, ← hz]
      exact ⟨hbase, kp b 47 _ (by decide) (hne b _ hb) hb⟩
  · rw [List.nodup_append]
    exact ⟨h.grid.nd, by simp, fun x hx y hy e => hnew (by rw [List.mem_singleton.1 hy] at e; rw [← e]; exact hx)⟩
/-- A row's cells are others. -/
theorem Pg.row {b R : Nat} {r : Nat → Int × Bool} (h : Pg W wr p X Y v width n G bs) (hb : bs[R]? = some b) (hR : R < n) (hw : w1.heap[b]? = some (.cells (rowC width r).toArray 47 (0, 0)))
    (hk : ∀ j, j ≠ b → w1.heap[j]? = wr.heap[j]?) (hbel : Below W.heap.size W w1) : Pg W w1 p X Y v width n (updG G R r) bs := by
  have hbt := (h.grid.blk R b hb).2
  refine ⟨(hk p (blk_ne h.b hbt (by decide))).trans h.b, h.hp, ⟨h.grid.len, own_keep h.grid.own (fun j hj => ?_), fun i c hi => ?_, h.grid.nd, fun i k hi => ?_⟩, hbel⟩
  · obtain ⟨cs, hc⟩ := own_typed h.grid.own j hj
    exact hk j (blk_ne hc hbt (by decide))
  · obtain ⟨x1, x2⟩ := h.grid.blk i c hi
    refine ⟨x1, ?_⟩
    unfold updG
    by_cases e : i = R
    · subst e
      rw [hb] at hi
      obtain rfl := Option.some.inj hi
      rw [if_pos rfl]; exact hw
    · rw [if_neg e]
      have hcb : c ≠ b := fun e2 => by
        subst e2
        have l1 := (List.getElem?_eq_some_iff.1 hi)
        have l2 := (List.getElem?_eq_some_iff.1 hb)
        obtain ⟨a1, a2⟩ := l1
        obtain ⟨b1, b2⟩ := l2
        have hp := List.pairwise_iff_getElem.1 h.grid.nd
        rcases Nat.lt_or_ge i R with q | q
        · exact hp i R a1 b1 q (a2.trans b2.symm)
        · exact hp R i b1 a1 (by omega) (b2.trans a2.symm)
      exact (hk c hcb).trans x2
  · unfold updG
    rw [if_neg (by omega)]
    exact h.grid.zero i k hi
theorem kpg_cell {b i : Nat} {cs : Array Value} {u : Value} (hb : wr.heap[b]? = some (.cells cs 47 (0, 0))) : KpG wr (wr.setCell ⟨b, i, none⟩ u) := fun j t cells _ ht hc => (Below.heap_setCell wr ⟨b, i, none⟩ u j (blk_ne hc hb ht)).trans hc
theorem Pg.setR {b R C : Nat} (x : Int) (h : Pg W wr p X Y v width n G bs) (hb : bs[R]? = some b) (hR : R < n) (hC : C < width) (i : Nat) (hi : i = C * 2) :
    Pg W (wr.setCell ⟨b, i, none⟩ (.int .i64 x)) p X Y v width n (updG G R (updR (G R) C x)) bs ∧ KpG wr (wr.setCell ⟨b, i, none⟩ (.int .i64 x)) := by
  subst hi
  obtain ⟨x1, x2⟩ := h.grid.blk R b hb
  refine ⟨h.row hb hR (blk_put x2 (C * 2) _ ?_) (fun j hj => Below.heap_setCell wr ⟨b, C * 2, none⟩ _ j hj) (h.bel.setCell x1 _), kpg_cell x2⟩
  rw [List.setIfInBounds_toArray, Nat.mul_comm, rowC_setR _ _ _ _ hC]
theorem Pg.setM {b R C : Nat} (h : Pg W wr p X Y v width n G bs) (hb : bs[R]? = some b) (hR : R < n) (hC : C < width) (i : Nat) (hi : i = C * 2 + 1) :
    Pg W (wr.setCell ⟨b, i, none⟩ (.bool true)) p X Y v width n (markG G R C) bs ∧ KpG wr (wr.setCell ⟨b, i, none⟩ (.bool true)) := by
  subst hi
  obtain ⟨x1, x2⟩ := h.grid.blk R b hb
  refine ⟨h.row hb hR (blk_put x2 (C * 2 + 1) _ ?_) (fun j hj => Below.heap_setCell wr ⟨b, C * 2 + 1, none⟩ _ j hj) (h.bel.setCell x1 _), kpg_cell x2⟩
  rw [List.setIfInBounds_toArray, Nat.mul_comm, rowC_setM _ _ _ hC]
theorem Pg.cellR {b R C : Nat} (h : Pg W wr p X Y v width n G bs) (hb : bs[R]? = some b) (hC : C < width) : wr.cell? ⟨b, C * 2, none⟩ = some (.int .i64 (G R C).1) ∧ wr.cell? ⟨b, C * 2 + 1, none⟩ = some (.bool (G R C).2) ∧ ∀ i, wr.frozen? ⟨b, i, none⟩ = false := by
  obtain ⟨x1, x2⟩ := h.grid.blk R b hb
  obtain ⟨y1, y2⟩ := rowC_get width (G R) C hC
  refine ⟨?_, ?_, fun i => blk_frozen x2 i⟩
  · rw [blk_cell x2, Nat.mul_comm]; simpa using y1
  · rw [blk_cell x2, Nat.mul_comm]; simpa using y2
/-- A place's box. -/
def At (w : World) (q : Nat) (r c : Int) : Prop := w.heap[q]? = some (.cells #[.int .i64 r, .int .i64 c] 58 (0, 0))
theorem At.c {w : World} {q : Nat} {r c : Int} (h : At w q r c) : w.cell? ⟨q, 0, none⟩ = some (.int .i64 r) ∧ w.cell? ⟨q, 1, none⟩ = some (.int .i64 c) ∧ ∀ i, w.frozen? ⟨q, i, none⟩ = false :=
  ⟨by rw [blk_cell h]; rfl, by rw [blk_cell h]; rfl, fun i => blk_frozen h i⟩
/-- A cell of a box of another kind is another. -/
theorem Pg.other {q i : Nat} {cs : Array Value} (h : Pg W wr p X Y v width n G bs) (hq : wr.heap[q]? = some (.cells cs 58 (0, 0))) (hb : W.heap.size ≤ q) (u : Value) : Pg W (wr.setCell ⟨q, i, none⟩ u) p X Y v width n G bs := by
  have hk : ∀ (b : Nat) (t : TypeId) (cells : Array Value), t ≠ 58 → wr.heap[b]? = some (.cells cells t (0, 0)) → (wr.setCell ⟨q, i, none⟩ u).heap[b]? = some (.cells cells t (0, 0)) := fun b t cells ht hc => (Below.heap_setCell wr ⟨q, i, none⟩ u b (blk_ne hc hq ht)).trans hc
  exact ⟨hk p 32 _ (by decide) h.b, h.hp, ⟨h.grid.len, own_setCell h.grid.own (own_ne h.grid.own hq (by decide)) u, fun a b hb2 => ⟨(h.grid.blk a b hb2).1, hk b 47 _ (by decide) (h.grid.blk a b hb2).2⟩, h.grid.nd, h.grid.zero⟩, h.bel.setCell hb u⟩
/-- A row of another kind grows. -/
theorem Pg.grow {B n2 size : Nat} {e : TypeId} {u : Value} {xs : List Value} (h : Pg W wr p X Y v width n G bs) (ho : wr.ownsRow B e size u n2 xs) (he : e = 3) (hg : wr.grownBy w1 u.ownBlock) (hb : Below W.heap.size W w1) : Pg W w1 p X Y v width n G bs := by
  subst he
  have hk : ∀ (j : Nat) (t : TypeId) (cells : Array Value), t ≠ 3 → wr.heap[j]? = some (.cells cells t (0, 0)) → w1.heap[j]? = some (.cells cells t (0, 0)) := fun j t cells ht hc => (hg.block j (blk_lt hc) (own_ne ho hc (fun e => ht e.symm))).trans hc
  exact ⟨hk p 32 _ (by decide) h.b, h.hp, ⟨h.grid.len, own_keep h.grid.own (fun j hj => by obtain ⟨cs, hc⟩ := own_typed h.grid.own j hj; exact (hk j 45 _ (by decide) hc).trans hc.symm), fun a b hb2 => ⟨(h.grid.blk a b hb2).1, hk b 47 _ (by decide) (h.grid.blk a b hb2).2⟩, h.grid.nd, h.grid.zero⟩, hb⟩
end
theorem reads_int {w : World} {A : Option Addr} {l : List Int} (h : Kd.C (Kd.int .i64) w A l.length l) : ReadsInt w .i64 A l.length l := readsInt_of.2 (Kd.reads_of_C (enc := Value.int .i64) (d := (0 : Int)) (h1 := fun _ => rfl) h)
/-- A row of numbers of its own, kept beside. -/
def Own3 (B : Nat) (w : World) (v : Value) (l : List Int) : Prop := w.ownsRow B 3 1 v l.length (nums .i64 l)
theorem Own3.keep {B : Nat} {w w1 : World} {v : Value} {l : List Int} (h : Own3 B w v l) (hk : KpG w w1) : Own3 B w1 v l :=
  own_keep h (fun j hj => by obtain ⟨cs, hc⟩ := own_typed h j hj; exact (hk j 3 _ (by decide) (by decide) hc).trans hc.symm)
theorem Own3.set {B q i : Nat} {w : World} {v u : Value} {l : List Int} {cs : Array Value} {t : TypeId} (h : Own3 B w v l) (hq : w.heap[q]? = some (.cells cs t (0, 0))) (ht : t ≠ 3) : Own3 B (w.setCell ⟨q, i, none⟩ u) v l :=
  own_keep h (fun j hj => by obtain ⟨cs2, hc⟩ := own_typed h j hj; exact Below.heap_setCell w ⟨q, i, none⟩ u j (blk_ne hc hq (fun e => ht e.symm)))
theorem Own3.at_ {B : Nat} {w : World} {v : Value} {l : List Int} (h : Own3 B w v l) (k : Nat) (hk : k < l.length) : ∃ ad c, v = .slice (some ad) l.length c ∧ w.cell? (ad.add k) = some (.int .i64 l[k]) := by
  obtain ⟨A, c, e, hr⟩ := own_reads h
  obtain ⟨ad, rfl, hc⟩ := hr.at_ (k : Int) (by omega) (by omega)
  rw [rd_nat l k hk, Int.toNat_natCast] at hc
  exact ⟨ad, c, e, hc⟩
end Go.Proofs.YtoidlaonolkgkaaDoor.Pg
/- The document's Lay: the walk. -/
set_option linter.unusedVariables false
set_option linter.unusedSimpArgs false
namespace Go.Proofs.YtoidlaonolkgkaaDoor.Rw
open Go.RowKit Go.Proofs.YtoidlaonolkgkaaDoor.Giv Go.Proofs.YtoidlaonolkgkaaDoor.Gr Go.Proofs.YtoidlaonolkgkaaDoor.Gl Go.Proofs.YtoidlaonolkgkaaDoor.Gn Go.Proofs.YtoidlaonolkgkaaDoor.Gy Go.Proofs.YtoidlaonolkgkaaDoor.Gz Go.Proofs.YtoidlaonolkgkaaDoor.Gp Go.Proofs.YtoidlaonolkgkaaDoor.Gk Go.Proofs.YtoidlaonolkgkaaDoor.Gb Go.Proofs.YtoidlaonolkgkaaDoor.Gq Go.Proofs.YtoidlaonolkgkaaDoor.Rl Go.Proofs.YtoidlaonolkgkaaDoor.Pg Go.Proofs.YtoidlaonolkgkaaDoor.P Go.Proofs.YtoidlaonolkgkaaDoorW.PrintWords Go.Proofs.YtoidlaonolkgkaaDoorW.PrintLast Go.Proofs.YtoidlaonolkgkaaDoorW.PrintMore
theorem field58 (a b : Int) : ∀ w : World, (Instr.field 58 (.agg #[.int .i64 a, .int .i64 b]) 0).run Tryd.prog w = .ok (.int .i64 a) w := fun _ => by kernel_rfl
theorem max2_int' (x y : Int) : Builtin.max2 (.int .i64 x) (.int .i64 y) = pure (.int .i64 (max x y)) := by
  rw [max2_int]
  congr 2
  split <;> omega
theorem last_snoc (wd : Nat) (a : Pos) (l : List Int) (m : Nat) (os : List Int) (k : Nat) (h : k < os.length) : lastF wd a l m (os.take (k + 1)) = if 0 ≤ os[k] ∧ os[k] ≤ (l.length : Int) then max (lastF wd a l m (os.take k)) (placeL wd a l os[k].toNat).1 else lastF wd a l m (os.take k) := by
  unfold lastF
  rw [List.take_succ_eq_append_getElem h, List.foldl_append]; rfl
theorem row_bound (wd : Nat) (all : List Int) (k : Nat) : (runL wd st0 (all.take k)).row ≤ (posR wd (0, 0) all).1 := by
  have h := posR_row wd (all.drop k) (posR wd (0, 0) (all.take k))
  rw [← posR_append, List.take_append_drop] at h
  have h2 := runL_pos wd (all.take k) st0
  have h3 : (runL wd st0 (all.take k)).row = (posR wd (0, 0) (all.take k)).1 := congrArg Prod.fst h2
  rw [h3]; exact h
theorem run_col (wd : Nat) (hw0 : 2 ≤ wd) (l : List Int) : (runL wd st0 l).col ≤ wd := by
  have h2 := runL_pos wd l st0
  have h3 : (runL wd st0 l).col = (posR wd (0, 0) l).2 := congrArg Prod.snd h2
  rw [h3]; exact (near_run hw0 l (k := 0) (a := (0, 0)) ⟨Nat.le_refl _, Nat.zero_le _⟩).2
theorem layL_some (wd : Nat) (s : LS) (x : Int) (R C : Nat) (h : widthN x ≠ 0) (hR : roomP wd (s.row, s.col) (widthN x).toNat = (R, C)) : layL wd s x = ⟨R, C + (widthN x).toNat, max s.n (R + 1), layG s.G R C x (widthN x)⟩ := by
  unfold layL
  rw [if_neg h, hR]
theorem at_one {w : World} {q : Nat} {r c C : Int} (h : At w q r c) : At (w.setCell ⟨q, 1, none⟩ (.int .i64 C)) q r C := blk_put h 1 _ rfl
theorem at_two {w : World} {q : Nat} {r c R C : Int} (h : At w q r c) : At ((w.setCell ⟨q, 0, none⟩ (.int .i64 R)).setCell ⟨q, 1, none⟩ (.int .i64 C)) q R C := blk_put (blk_put h 0 _ rfl) 1 _ rfl
/-- The page, the place and the runes. -/
def St (w5 wr : World) (p q : Nat) (X Y : Int) (v : Value) (wd n : Nat) (G : Grd) (bs : List Nat) (r c : Int) (v18 : Value) (all : List Int) : Prop := Pg w5 wr p X Y v wd n G bs ∧ At wr q r c ∧ Own3 w5.heap.size wr v18 all
section
variable {w5 wr w1 : World} {p q : Nat} {X Y : Int} {v : Value} {wd n : Nat} {G : Grd} {bs : List Nat} {r c : Int} {v18 : Value} {all : List Int}
theorem St.two (h : St w5 wr p q X Y v wd n G bs r c v18 all) (hq : w5.heap.size ≤ q) (R C : Int) : St w5 ((wr.setCell ⟨q, 0, none⟩ (.int .i64 R)).setCell ⟨q, 1, none⟩ (.int .i64 C)) p q X Y v wd n G bs R C v18 all :=
  ⟨(h.1.other h.2.1 hq _).other (blk_put h.2.1 0 _ rfl) hq _, at_two h.2.1, (h.2.2.set h.2.1 (by decide)).set (blk_put h.2.1 0 _ rfl) (by decide)⟩
theorem St.one (h : St w5 wr p q X Y v wd n G bs r c v18 all) (hq : w5.heap.size ≤ q) (C : Int) (m : Nat) (hm : C = (m : Int)) : St w5 (wr.setCell ⟨q, 1, none⟩ (.int .i64 C)) p q X Y v wd n G bs r (m : Int) v18 all := by
  subst hm
  exact ⟨h.1.other h.2.1 hq _, at_one h.2.1, h.2.2.set h.2.1 (by decide)⟩
theorem St.below (h : St w5 wr p q X Y v wd n G bs r c v18 all) (hb : Below wr.heap.size wr w1) : St w5 w1 p q X Y v wd n G bs r c v18 all :=
  ⟨h.1.below hb, (hb.block _ (blk_lt h.2.1)).trans h.2.1, h.2.2.keep (kpg_below hb)⟩
theorem St.setR {b R C : Nat} (x : Int) (h : St w5 wr p q X Y v wd n G bs r c v18 all) (hb : bs[R]? = some b) (hR : R < n) (hC : C < wd) (i : Nat) (hi : i = C * 2) : St w5 (wr.setCell ⟨b, i, none⟩ (.int .i64 x)).drew p q X Y v wd n (updG G R (updR (G R) C x)) bs r c v18 all := by
  obtain ⟨h1, h2⟩ := h.1.setR x hb hR hC i hi
  exact St.below ⟨h1, h2 _ _ _ (by decide) (by decide) h.2.1, h.2.2.keep h2⟩ (below_drew (Below.refl _ _))
theorem St.setM {b R C : Nat} (h : St w5 wr p q X Y v wd n G bs r c v18 all) (hb : bs[R]? = some b) (hR : R < n) (hC : C < wd) (i : Nat) (hi : i = C * 2 + 1) : St w5 (wr.setCell ⟨b, i, none⟩ (.bool true)).drew p q X Y v wd n (markG G R C) bs r c v18 all := by
  obtain ⟨h1, h2⟩ := h.1.setM hb hR hC i hi
  exact St.below ⟨h1, h2 _ _ _ (by decide) (by decide) h.2.1, h.2.2.keep h2⟩ (below_drew (Below.refl _ _))
end
theorem place_fit (wd : Nat) (h2 : 2 ≤ wd) (a : Pos) (ha : a.2 ≤ wd) (l : List Int) (j : Nat) : (placeL wd a l j).2 + 1 ≤ wd := by
  unfold placeL
  have hw := nextW_range (l.drop j)
  have hc := (near_run h2 (l.take j) (k := a.1) (a := a) ⟨Nat.le_refl _, ha⟩).2
  obtain ⟨u, _, _⟩ := room_le wd (posR wd a (l.take j)) (nextW (l.drop j)).toNat h2 hc (by omega)
  omega
theorem grid_set {base : Nat} {wr : World} {v : Value} {width n : Nat} {G : Grd} {bs : List Nat} (h : Grid base wr v width n G bs) (j i : Nat) (u : Value) (hj : j < base) : Grid base (wr.setCell ⟨j, i, none⟩ u) v width n G bs :=
  ⟨h.len, own_setCell h.own (fun e => by have := own_base h.own j e.symm; omega) u, fun a b hb => ⟨(h.blk a b hb).1, (Below.heap_setCell wr ⟨j, i, none⟩ u b (fun e => by have := (h.blk a b hb).1; have e2 : b = j := e; omega)).trans (h.blk a b hb).2⟩, h.nd, h.zero⟩
theorem grid_down {base B : Nat} {wr : World} {v : Value} {width n : Nat} {G : Grd} {bs : List Nat} (h : Grid base wr v width n G bs) (hb : B ≤ base) : Grid B wr v width n G bs :=
  ⟨h.len, own_weaken h.own hb, fun a b hb2 => ⟨Nat.le_trans hb (h.blk a b hb2).1, (h.blk a b hb2).2⟩, h.nd, h.zero⟩
theorem marks_snoc (wd : Nat) (a : Pos) (l : List Int) (G : Grd) (os : List Int) (k : Nat) (h : k < os.length) : (os.take (k + 1)).foldl (markF wd a l) G = markF wd a l ((os.take k).foldl (markF wd a l) G) os[k] := by
  rw [List.take_succ_eq_append_getElem h, List.foldl_append]; rfl
def lastN (wd ct : Nat) (ps ls os : List Int) : Nat := lastF wd (posR wd (0, 0) ps) ls (max (posR wd (posR wd (0, 0) ps) ls).1 (placeL wd (posR wd (0, 0) ps) ls ct).1) os
def endG (wd : Nat) (ps ls os : List Int) : Grd := os.foldl (markF wd (posR wd (0, 0) ps) ls) (runL wd st0 (ps ++ ls)).G
/-- What the document's Lay answers. -/
def RPost (w : World) (wd ct : Nat) (ps ls os : List Int) (e : Ending) (w' : World) : Prop := Below w.heap.size w w' ∧
  if 200 ≤ lastN wd ct ps ls os then e = .returned (.tuple #[.agg #[.slice none 0 0, .int .i64 0, .int .i64 0], .int .i64 5])
  else ∃ bs v, e = .returned (.tuple #[.agg #[v, .int .i64 ((placeL wd (posR wd (0, 0) ps) ls ct).1 : Int), .int .i64 ((placeL wd (posR wd (0, 0) ps) ls ct).2 : Int)], .int .i64 0]) ∧ Grid w.heap.size w' v wd (lastN wd ct ps ls os + 1) (endG wd ps ls os) bs
attribute [local go_sem] max2_int'
set_option maxHeartbeats 8000000 in
set_option maxRecDepth 100000 in
theorem rlay_ok (wd ct : Nat) (A1 A2 A3 : Option Addr) (c1 c2 c3 : Nat) (ps ls os : List Int) (w : World) (h1 : Kd.C (Kd.int .i64) w A1 ps.length ps) (h2 : Kd.C (Kd.int .i64) w A2 ls.length ls) (h3 : Kd.C (Kd.int .i64) w A3 os.length os)
    (hc1 : ps.length ≤ c1) (hc2 : ls.length ≤ c2) (hc3 : os.length ≤ c3) (hw0 : 2 ≤ wd) (hw1 : wd ≤ 512) (hp : ps.length ≤ 200) (hl : ls.length ≤ 1000) (ho : os.length ≤ 20) (hk : ct ≤ ls.length) :
    Calls Tryd.prog 11 #[.int .i64 (wd : Int), .slice A1 ps.length c1, .slice A2 ls.length c2, .int .i64 (ct : Int), .slice A3 os.length c3] w (RPost w wd ct ps ls os) := by
  have H1 := Lib.hid h1
  have H2 := Lib.hid h2
  have H3 := Lib.hid h3
  have d1 : decide ((wd : Int) < 2) = false := decide_eq_false (by omega)
  have d2 : decide ((512 : Int) < (wd : Int)) = false := decide_eq_false (by omega)
  have d3 : decide ((200 : Int) < (ps.length : Int)) = false := decide_eq_false (by omega)
  have d4 : decide ((1000 : Int) < (ls.length : Int)) = false := decide_eq_false (by omega)
  have d5 : decide ((20 : Int) < (os.length : Int)) = false := decide_eq_false (by omega)
  have d6 : decide ((ct : Int) < 0) = false := decide_eq_false (by omega)
  have d7 : decide ((ls.length : Int) < (ct : Int)) = false := decide_eq_false (by omega)
  clear h1 h2 h3
  have hn0 : Near wd 3000 (0, 0) := ⟨Nat.zero_le _, Nat.zero_le _⟩
  obtain ⟨a0, ha0⟩ : ∃ a0, a0 = posR wd (0, 0) ps := ⟨_, rfl⟩
  obtain ⟨a1, ha1⟩ : ∃ a1, a1 = posR wd a0 ls := ⟨_, rfl⟩
  have hna : Near wd 201 a0 := by rw [ha0]; exact near_mono (near_run hw0 ps (k := 0) ⟨Nat.le_refl _, Nat.zero_le _⟩) (by omega)
  have hf1 := behind_f wd hw0 hw1 ps (by omega) (0, 0) hn0
  have hf2 := behind_f wd hw0 hw1 ls (by omega) a0 (near_mono hna (by omega))
  obtain ⟨K3, hf3⟩ := carets_f wd hw0 hw1 a0 (near_mono hna (by omega)) ls (by omega)
  rw [← ha0] at hf1
  rw [← ha1] at hf2
  have hna1 : Near wd 1202 a1 := by rw [ha1]; exact near_mono (near_run hw0 ls hna) (by omega)
  have HA := Lib.hid (And.intro ha0 ha1)
  have HN := Lib.hid (And.intro hna hna1)
  have hb1 := fun W h => duetref21_behind.calls (ps.length + 1) wd 0 0 A1 c1 ps a0.1 a0.2 W h hc1 hf1
  have hb2 := fun W h => duetref21_behind.calls (ls.length + 1) wd a0.1 a0.2 A2 c2 ls a1.1 a1.2 W h hc2 hf2
  have hb3 := fun W h => duetref21_carets.calls K3 wd a0.1 a0.2 A2 c2 ls _ W h hc2 hf3
  clear hf1 hf2 hf3 ha0 ha1 hna hna1 hn0
  have hfd := field58 (a1.1 : Int) (a1.2 : Int)
  go_enter Tryd.func11, Tryd.ntmps11
  go_upto_region 3 with fail
  have HB1 := Lib.hid (below_alloc (Below.refl w.heap.size w) (Obj.cells #[.slice none 0 0, .int .i64 0, .int .i64 0] 32))
  have HR1 := Lib.hid (heap_alloc_new w (Obj.cells #[.slice none 0 0, .int .i64 0, .int .i64 0] 32))
  clear d1 d2 d3 d4 d5 d6 d7
  generalize w.alloc (Obj.cells #[.slice none 0 0, .int .i64 0, .int .i64 0] 32) = w1 at HB1 HR1 ⊢
  generalize hb10 : w.heap.size = b10 at HR1 ⊢
  have HB10 := Lib.hid hb10
  clear hb10
  go_upto_region 4 with (go_at_call 26; go_loud (refine (hb1 _ (Kd.C_below H1.out HB1.out)).mono ?_; rintro e w2 ⟨rfl, hB2⟩; have HB2 := Lib.hid (below_then' HB1.out hB2); have HR2 := Lib.hid ((hB2.block _ (blk_lt HR1.out)).trans HR1.out); clear hB2))
  have HB3 := Lib.hid (below_then' HB2.out (below_alloc (Below.refl w2.heap.size w2) (.cells #[.int .i64 (a0.1 : Int), .int .i64 (a0.2 : Int)] 58)))
  have HR3 := Lib.hid ((heap_alloc_old w2 (.cells #[.int .i64 (a0.1 : Int), .int .i64 (a0.2 : Int)] 58) (blk_lt HR2.out)).trans HR2.out)
  have HS3 : Hid (At (w2.alloc (.cells #[.int .i64 (a0.1 : Int), .int .i64 (a0.2 : Int)] 58)) w2.heap.size a0.1 a0.2) := Lib.hid (heap_alloc_new w2 (.cells #[.int .i64 (a0.1 : Int), .int .i64 (a0.2 : Int)] 58))
  clear HB2 HR2 HR1 HB1 hb1
  generalize w2.alloc (.cells #[.int .i64 (a0.1 : Int), .int .i64 (a0.2 : Int)] 58) = w3 at HB3 HR3 HS3 ⊢
  generalize w2.heap.size = b12 at HS3 ⊢
  obtain ⟨s0, s1, _⟩ := HS3.out.c
  go_upto_region 5 with (go_at_call 27; go_loud (refine (hb3 _ (Kd.C_below H2.out HB3.out)).mono ?_; rintro e w4 ⟨v13, rfl, hR4, hB4⟩; have HR4 := Lib.hid ((hB4.block _ (blk_lt HR3.out)).trans HR3.out); have HS4 := Lib.hid (show At w4 b12 a0.1 a0.2 from (hB4.block _ (blk_lt HS3.out)).trans HS3.out); have HB4 := Lib.hid (below_then' HB3.out hB4); obtain ⟨A13, c13, rfl, hk13, hC13⟩ := Kd.R_reads hR4; have HC4 := Lib.hid hC13; clear hB4 hR4 hC13))
  rw [places_len] at hk13 HC4 ⊢
  clear HB3 HR3 HS3 s0 s1 hb3
  obtain ⟨s0, s1, _⟩ := HS4.out.c
  go_upto_region 6 with (go_at_call 26; go_loud (refine (hb2 _ (Kd.C_below H2.out HB4.out)).mono ?_; rintro e w5 ⟨rfl, hB5⟩; have HR5 := Lib.hid ((hB5.block _ (blk_lt HR4.out)).trans HR4.out); have HC5 := Lib.hid (Kd.C_below HC4.out hB5); have HB5 := Lib.hid (below_then' HB4.out hB5); clear hB5))
  clear HB4 HR4 HS4 HC4 s0 s1 hb2
  obtain ⟨ad13, rfl, p0, p1⟩ := at_T58 HC5.out (ct : Int) (by omega) (by omega)
  rw [rd_place wd a0 ls _ ct (by omega), Int.toNat_natCast] at p0 p1
  change w5.cell? _ = some (.int .i64 ((placeL wd a0 ls ct).1 : Int)) at p0
  change w5.cell? _ = some (.int .i64 ((placeL wd a0 ls ct).2 : Int)) at p1
  have e0 : (0 : Int) ≤ (ct : Int) := by omega
  have e1 : (ct : Int) < ((ls.length + 1 : Nat) : Int) := by omega
  have HP := Lib.hid (And.intro p0 p1)
  go_upto_region 8 with fail
  clear hfd p1
  obtain ⟨m0, hm0⟩ : ∃ m0, m0 = max a1.1 (placeL wd a0 ls ct).1 := ⟨_, rfl⟩
  have hmi : max (a1.1 : Int) ((placeL wd a0 ls ct).1 : Int) = (m0 : Int) := by omega
  rw [hmi]
  clear hmi
  have HM := Lib.hid hm0
  clear hm0
  go_loopw [14, 15] (fun v14 v15 wr => ∃ k : Nat, v15 = .int .i64 k ∧ k ≤ os.length ∧ v14 = .int .i64 ((lastF wd a0 ls m0 (os.take k) : Nat) : Int) ∧ wr = w5) (fun _ v15 _ => os.length - (intOf v15).toNat)
  case atStart => exact ⟨0, rfl, Nat.zero_le _, rfl, rfl⟩
  case round =>
    as_aux_lemma =>
      obtain ⟨k, rfl, hk1, rfl, hwr⟩ := hrel
      have hwr := hwr.symm
      subst hwr
      by_cases hlt : k < os.length
      · obtain ⟨ado, rfl, cw⟩ := Kd.at_int (Kd.C_below H3.out HB5.out) (k : Int) (by omega) (by omega)
        rw [rd_nat os k hlt, Int.toNat_natCast] at cw
        have k0 : (0 : Int) ≤ (k : Int) := by omega
        have k1 : (k : Int) < (os.length : Int) := by omega
        have HT := Lib.hid (last_snoc wd a0 ls m0 os k hlt)
        generalize os[k] = x at cw HT
        generalize lastF wd a0 ls m0 (os.take k) = m at HT ⊢
        by_cases hx : 0 ≤ x ∧ x ≤ (ls.length : Int)
        · obtain ⟨j, rfl⟩ : ∃ j : Nat, x = (j : Int) := ⟨x.toNat, by omega⟩
          have HT2 : Hid (lastF wd a0 ls m0 (os.take (k + 1)) = max m (placeL wd a0 ls j).1) := Lib.hid (by rw [HT.out, if_pos hx, Int.toNat_natCast])
          have x0 : decide ((0 : Int) ≤ (j : Int)) = true := decide_eq_true hx.1
          have x1 : decide ((j : Int) ≤ (ls.length : Int)) = true := decide_eq_true hx.2
          have x2 : (0 : Int) ≤ (j : Int) := hx.1
          have x3 : (j : Int) < ((ls.length + 1 : Nat) : Int) := by omega
          obtain ⟨ad2, hA2, q0, q1⟩ := at_T58 HC5.out (j : Int) (by omega) (by omega)
          obtain rfl := Option.some.inj hA2
          rw [rd_place wd a0 ls _ j (by omega), Int.toNat_natCast] at q0
          change w5.cell? _ = some (.int .i64 ((placeL wd a0 ls j).1 : Int)) at q0
          clear HT hx q1 p0
          go_wp2
          go_roundw
          case rel => first | exact ⟨k + 1, by go_num, by omega, by rw [HT2.out]; exact congrArg (Value.int .i64) (by omega), by first | rfl | trivial⟩ | repeat (first | (refine And.intro ?_ rfl; exact ⟨k + 1, by go_num, by omega, by rw [HT2.out]; exact congrArg (Value.int .i64) (by omega), by first | rfl | trivial⟩) | apply Exists.intro)
          case measure => simp [intOf]; omega
        · have HT2 : Hid (lastF wd a0 ls m0 (os.take (k + 1)) = m) := Lib.hid (by rw [HT.out, if_neg hx])
          by_cases hx0 : 0 ≤ x
          · have x0 : decide ((0 : Int) ≤ x) = true := decide_eq_true hx0
            have x1 : decide (x ≤ (ls.length : Int)) = false := decide_eq_false (by omega)
            clear HT hx hx0 p0
            go_wp2
            go_roundw
            case rel => first | exact ⟨k + 1, by go_num, by omega, by rw [HT2.out], by first | rfl | trivial⟩ | repeat (first | (refine And.intro ?_ rfl; exact ⟨k + 1, by go_num, by omega, by rw [HT2.out], by first | rfl | trivial⟩) | apply Exists.intro)
            case measure => simp [intOf]; omega
          · have x0 : decide ((0 : Int) ≤ x) = false := decide_eq_false hx0
            clear HT hx hx0 p0
            go_wp2
            go_roundw
            case rel => first | exact ⟨k + 1, by go_num, by omega, by rw [HT2.out], by first | rfl | trivial⟩ | repeat (first | (refine And.intro ?_ rfl; exact ⟨k + 1, by go_num, by omega, by rw [HT2.out], by first | rfl | trivial⟩) | apply Exists.intro)
            case measure => simp [intOf]; omega
      · obtain rfl : k = os.length := by omega
        rw [List.take_length]
        obtain ⟨L, hL⟩ : ∃ L, L = lastF wd a0 ls m0 os := ⟨_, rfl⟩
        have HLe : Hid (lastN wd ct ps ls os = L) := Lib.hid (by rw [hL, HM.out]; unfold lastN; rw [← HA.out.1, ← HA.out.2])
        have HLL := Lib.hid ((last_le wd a0 ls os m0 L).1 (Nat.le_of_eq hL.symm))
        rw [← hL]
        clear hL p0
        by_cases hfull : 200 ≤ L
        · have f0 : decide ((200 : Int) ≤ (L : Int)) = true := decide_eq_true (by omega)
          have HBx := Lib.hid (blk_put (blk_put (blk_put HR5.out 0 (.slice none 0 0) rfl) 1 (.int .i64 0) rfl) 2 (.int .i64 0) rfl)
          have z0 := blk_frozen HR5.out
          have y0 : w5.cell? ⟨b10, 0, none⟩ = some (.slice none 0 0) := by rw [blk_cell HR5.out]; rfl
          have y1 : w5.cell? ⟨b10, 1, none⟩ = some (.int .i64 0) := by rw [blk_cell HR5.out]; rfl
          have y2 : w5.cell? ⟨b10, 2, none⟩ = some (.int .i64 0) := by rw [blk_cell HR5.out]; rfl
          have HF : Hid (200 ≤ L) := Lib.hid hfull
          clear hfull
          go_wp2
          refine bodyPost_ret (results_ct rfl _ _ b10 32 _ (0, 0) _ rfl HBx.out Tryd.underlying32 rfl (by kernel_rfl)) rfl ?_
          refine ⟨((HB5.out.setCell (Nat.le_of_eq HB10.out) _).setCell (Nat.le_of_eq HB10.out) _).setCell (Nat.le_of_eq HB10.out) _, ?_⟩
          rw [if_pos (by rw [HLe.out]; exact HF.out)]
          rfl
        · have f0 : decide ((200 : Int) ≤ (L : Int)) = false := decide_eq_false (by omega)
          have HF : Hid (¬ 200 ≤ L) := Lib.hid hfull
          obtain ⟨p0, p1⟩ := HP.out
          have p0a := fun o => pw_cell_below (below_alloc (Below.refl w5.heap.size w5) o) p0
          have p1a := fun o => pw_cell_below (below_alloc (Below.refl w5.heap.size w5) o) p1
          have e2 : (ct : Int) < (ls.length : Int) + 1 := by omega
          clear hfull
          go_upto_region 14 with fail
          go_region
          all_goals
            go_upto_region 16 with fail
            have HPG := Lib.hid ((Pg.new (Below.refl w5.heap.size w5) ((placeL wd a0 ls ct).1 : Int) ((placeL wd a0 ls ct).2 : Int) wd).below (below_drew (Below.refl _ _)))
            clear p0 p1 p0a p1a e2 HP
            generalize (w5.alloc (.cells #[.slice none 0 0, .int .i64 ((placeL wd a0 ls ct).1 : Int), .int .i64 ((placeL wd a0 ls ct).2 : Int)] 32)).drew = w6 at HPG ⊢
            generalize w5.heap.size = p at HPG ⊢
            have hmk := make_row wd (by omega)
            have hL2 := HF.out
            obtain ⟨R0, hR0⟩ : ∃ R0, R0 = placeL wd a0 ls ct := ⟨_, rfl⟩
            have HR0 := Lib.hid hR0
            rw [← hR0] at HPG
            clear hR0
            go_loopw [17] (fun v17 wr => ∃ (m : Nat) (bs : List Nat) (v : Value), v17 = .int .i64 m ∧ m ≤ L + 1 ∧ Hid (Pg w5 wr p R0.1 R0.2 v wd m (fun _ _ => (0, false)) bs)) (fun v17 _ => L + 1 - (intOf v17).toNat)
            case atStart => exact ⟨0, [], _, rfl, Nat.zero_le _, HPG⟩
            case round =>
              as_aux_lemma =>
                clear HPG
                obtain ⟨m, bs, v, rfl, hm, HP⟩ := hrel
                obtain ⟨A, cp, rfl⟩ := own_slice HP.out.grid.own
                obtain ⟨g0, _, _, f1⟩ := HP.out.c
                by_cases hlt2 : m ≤ L
                · have d2 : decide ((m : Int) ≤ (L : Int)) = true := decide_eq_true (by omega)
                  have hgo : (m + 1) * 24 ≤ 140737488355328 := by omega
                  obtain ⟨WX, hWX⟩ : ∃ WX, WX = ((wr.alloc (.cells (rowC wd (fun _ => (0, false))).toArray 47)).alloc (.cells #[.slice (some ⟨wr.heap.size, 0, none⟩) wd wd] 45)).drew := ⟨_, rfl⟩
                  have hb1 := below_alloc (Below.refl wr.heap.size wr) (.cells (rowC wd (fun _ => (0, false))).toArray 47)
                  have hb2 := below_alloc hb1 (.cells #[.slice (some ⟨wr.heap.size, 0, none⟩) wd wd] 45)
                  have hbx : Below wr.heap.size wr WX := by rw [hWX]; exact below_drew hb2
                  have HX := Lib.hid (And.intro (HP.out.below hbx) (Nat.le_trans HP.out.bel.size hbx.size))
                  have hnb : Hid (WX.heap[wr.heap.size]? = some (.cells (rowC wd (fun _ => (0, false))).toArray 47 (0, 0))) := Lib.hid (by rw [hWX]; exact (heap_alloc_old _ _ (by simp)).trans (heap_alloc_new wr _))
                  have hbb : Hid (w5.heap.size ≤ wr.heap.size) := Lib.hid HP.out.bel.size
                  have hfr : Hid (wr.heap.size ∉ bs) := Lib.hid HP.out.fresh
                  have HC : Hid (∀ j u, ([.slice (some ⟨wr.heap.size, 0, none⟩) wd wd] : List Value)[j]? = some u → WX.cell? ((⟨wr.heap.size + 1, 0, none⟩ : Addr).add j) = some u) := Lib.hid (by
                    intro j u hj
                    match j, hj with
                    | 0, hj =>
                      have hc := heap_alloc_new (wr.alloc (.cells (rowC wd (fun _ => (0, false))).toArray 47)) (.cells #[.slice (some ⟨wr.heap.size, 0, none⟩) wd wd] 45)
                      rw [show (wr.alloc (.cells (rowC wd (fun _ => (0, false))).toArray 47)).heap.size = wr.heap.size + 1 by simp] at hc
                      have hc2 : WX.heap[wr.heap.size + 1]? = some (.cells #[.slice (some ⟨wr.heap.size, 0, none⟩) wd wd] 45 (0, 0)) := by rw [hWX]; exact hc
                      rw [show (⟨wr.heap.size + 1, 0, none⟩ : Addr).add 0 = ⟨wr.heap.size + 1, 0, none⟩ by simp [Addr.add], blk_cell hc2]
                      exact hj
                    | j + 1, hj => simp at hj)
                  have z1 := pw_cell_below (below_drew hb1) g0
                  have z2 := pw_cell_below (below_drew hb2) g0
                  subst hWX
                  clear hb1 hb2 hbx
                  go_upto_region 18 with fail
                  go_region_law (refine step_append_at (w0 := w5) w5.heap.size rfl (.tmp 126) (.tmp 129) 26 45 (.slice none 0 0) 1 24 rfl Tryd.underlying26 info45 rfl (by decide) (by decide) (.slice A m cp) m (bs.map fun b : Nat => .slice (some ⟨b, 0, none⟩) wd wd) ⟨wr.heap.size + 1, 0, none⟩ 1 [.slice (some ⟨wr.heap.size, 0, none⟩) wd wd] rfl rfl rfl HC.out (by simp [Value.oneCell']) HX.out.1.grid.own HX.out.1.bel HX.out.2 hgo ?_; intro v1 w7 hown hB5 hg5 hat5; have HP5 := Lib.hid (Pg.push HX.out.1 hnb.out hbb.out hfr.out (by rw [List.map_append]; exact hown) hg5); obtain ⟨A2, k2, rfl⟩ := own_slice hown; have hpc := Pg.grown HX.out.1 hg5; have y3 : w7.cell? ⟨p, 0, none⟩ = some (.slice A m cp) := (by rw [blk_cell hpc]; rfl); have y4 := blk_frozen hpc 0; clear hown hB5 hg5 hat5 hpc)
                  all_goals
                    go_wp2
                    go_roundw
                    case rel => first | exact ⟨m + 1, bs ++ [wr.heap.size], _, by go_num, by omega, HP5⟩ | repeat (first | (refine And.intro ?_ rfl; exact ⟨m + 1, bs ++ [wr.heap.size], _, by go_num, by omega, HP5⟩) | apply Exists.intro)
                    case measure => simp [intOf]; omega
                · obtain rfl : m = L + 1 := by omega
                  have d2 : decide (((L + 1 : Nat) : Int) ≤ (L : Int)) = false := decide_eq_false (by omega)
                  have hr1 := reads_int (Kd.C_below H1.out (below_then' HB5.out HP.out.bel))
                  have hgo : (([] : List Int).length + ps.length) * 8 ≤ 140737488355328 := by simp only [List.length_nil]; omega
                  have hgo2 : (ps.length + ls.length) * 8 ≤ 140737488355328 := by omega
                  have info3 : (Tryd.prog.info? 3).map (fun i => (i.zero, i.size, i.bytes)) = some (some (.int .i64 0), 1, 8) := by kernel_rfl
                  clear g0 f1 hmk
                  go_upto_region 21 with (at_builtin; go_loud (refine print_append_row w5.heap.size rfl _ _ 22 3 .i64 8 rfl Tryd.underlying22 info3 (by decide) (.slice none 0 0) [] ps A1 ps.length c1 rfl rfl (own_nil _ _ _ _) hr1 HP.out.bel HP.out.bel.size hgo ?_; intro v1 w7 hown hB7 hgr hat; have HP7 := Lib.hid (HP.out.grow (own_nil _ w5.heap.size 3 1) rfl hgr hB7); have HO7 : Hid (Own3 w5.heap.size w7 v1 ps) := Lib.hid hown; clear hown hB7 hgr hat))
                  have hr2 := reads_int (Kd.C_below H2.out (below_then' HB5.out HP7.out.bel))
                  go_upto_region 22 with (at_builtin; go_loud (refine print_append_row w5.heap.size rfl _ _ 22 3 .i64 8 rfl Tryd.underlying22 info3 (by decide) v1 ps ls A2 ls.length c2 rfl rfl HO7.out hr2 HP7.out.bel HP7.out.bel.size hgo2 ?_; intro v8 w8 hown hB8 hgr hat; have HP8 := Lib.hid (HP7.out.grow HO7.out rfl hgr hB8); have HO8 : Hid (Own3 w5.heap.size w8 v8 (ps ++ ls)) := Lib.hid hown; clear hown hB8 hgr hat))
                  clear HP7 HO7 HP hr1 hr2 d2 hlt2
                  have hb8 := below_alloc (Below.refl w8.heap.size w8) (.cells #[.int .i64 0, .int .i64 0] 58)
                  have HP9 := Lib.hid (HP8.out.below hb8)
                  have HO9 := Lib.hid (HO8.out.keep (kpg_below hb8))
                  have HA9 : Hid (At (w8.alloc (.cells #[.int .i64 0, .int .i64 0] 58)) w8.heap.size 0 0) := Lib.hid (heap_alloc_new w8 _)
                  have HQ := Lib.hid HP8.out.bel.size
                  go_upto_region 24 with fail
                  clear HP8 HO8 hb8
                  generalize w8.alloc (.cells #[.int .i64 0, .int .i64 0] 58) = w9 at HP9 HO9 HA9 ⊢
                  generalize w8.heap.size = q at HA9 HQ ⊢
                  obtain ⟨all, hall⟩ : ∃ all, all = ps ++ ls := ⟨_, rfl⟩
                  have HALL := Lib.hid hall
                  have hN : all.length ≤ 1200 := by rw [hall, List.length_append]; omega
                  rw [← hall] at HO9
                  have hrb : Hid (∀ k, (runL wd st0 (all.take k)).row ≤ L) := Lib.hid (fun k => by
                    have h1 := row_bound wd all k
                    rw [hall, posR_append, ← HA.out.1, ← HA.out.2, ← hall] at h1
                    have h2 := HM.out
                    have h3 := HLL.out.1
                    omega)
                  clear hall
                  obtain ⟨A18, c18, rfl⟩ := own_slice HO9.out
                  go_loopw [20] (fun v20 wr => ∃ k : Nat, v20 = .int .i64 k ∧ k ≤ all.length ∧ Hid (St w5 wr p q R0.1 R0.2 (.slice A (L + 1) cp) wd (L + 1) (runL wd st0 (all.take k)).G bs (runL wd st0 (all.take k)).row (runL wd st0 (all.take k)).col (.slice A18 all.length c18) all)) (fun v20 _ => all.length - (intOf v20).toNat)
                  case atStart => exact ⟨0, rfl, Nat.zero_le _, Lib.hid ⟨HP9.out, HA9.out, HO9.out⟩⟩
                  case round =>
                    as_aux_lemma =>
                      clear HP9 HA9 HO9
                      obtain ⟨k, rfl, hk2, HS⟩ := hrel
                      by_cases hlt3 : k < all.length
                      · obtain ⟨ad18, c18', hv18, cw⟩ := HS.out.2.2.at_ k hlt3
                        obtain ⟨rfl, rfl⟩ : A18 = some ad18 ∧ c18 = c18' := by injection hv18 with h1 _ h2; exact ⟨h1, h2⟩
                        have k0 : (0 : Int) ≤ (k : Int) := by omega
                        have k1 : (k : Int) < (all.length : Int) := by omega
                        have HT : Hid (runL wd st0 (all.take (k + 1)) = layL wd (runL wd st0 (all.take k)) all[k]) := Lib.hid (by rw [List.take_succ_eq_append_getElem hlt3, runL_snoc])
                        have hs1 := hrb.out k
                        have hs2 := run_col wd hw0 (all.take k)
                        have hs3 := hrb.out (k + 1)
                        rw [HT.out] at hs3
                        generalize runL wd st0 (all.take k) = s at HS HT hs1 hs2 hs3
                        have HCW : Hid (∀ w' : World, Own3 w5.heap.size w' (.slice (some ad18) all.length c18) all → w'.cell? (ad18.add k) = some (.int .i64 all[k])) := Lib.hid (fun w' h => by
                          obtain ⟨ad, c', hv, hc⟩ := h.at_ k hlt3
                          obtain rfl : ad18 = ad := by injection hv with h1 _ h2; exact Option.some.inj h1
                          exact hc)
                        generalize all[k] = x at cw HT HCW hs3
                        have hW := fun W => duetref20_Width.calls 1 x (widthN x) W (Lem.refWidth_f 0 x)
                        have hwr := width_le x
                        by_cases h0 : widthN x = 0
                        · as_aux_lemma =>
                            have HT2 : Hid (runL wd st0 (all.take (k + 1)) = s) := Lib.hid (by rw [HT.out]; unfold layL; rw [if_pos h0])
                            rw [h0] at hW
                            clear HT h0 hwr hs1 hs2 hs3
                            go_wp2_with (go_at_call 20; go_loud (refine (hW _).mono ?_; rintro e w2 ⟨rfl, hD⟩; have hB := Gf.drawn_below hD; have HS2 := Lib.hid (HS.out.below hB); clear hD hB))
                            go_roundw
                            case rel => first | exact ⟨k + 1, by go_num, by omega, by rw [HT2.out]; exact HS2⟩ | repeat (first | (refine And.intro ?_ rfl; exact ⟨k + 1, by go_num, by omega, by rw [HT2.out]; exact HS2⟩) | apply Exists.intro)
                            case measure => simp [intOf]; omega
                        · obtain ⟨wn, hwn⟩ : ∃ wn : Nat, widthN x = (wn : Int) := ⟨(widthN x).toNat, by omega⟩
                          obtain ⟨R, C, hRC⟩ : ∃ R C, roomP wd (s.row, s.col) wn = (R, C) := ⟨_, _, rfl⟩
                          have hlay := layL_some wd s x R C h0 (by rw [hwn, Int.toNat_natCast]; exact hRC)
                          rw [hwn, Int.toNat_natCast] at hlay
                          rw [hlay] at hs3
                          have hfit := room_fits wd s.row s.col wn R C hw0 hs2 (by omega) hRC
                          have hst := fun W => duetref21_step.calls s.row s.col wn wd R C W (by
                            have h := step_f (s.row, s.col) wn wd (by simp only; omega) (by simp only; omega) (by omega)
                            rw [hRC] at h; exact h)
                          have HT2 : Hid (runL wd st0 (all.take (k + 1)) = ⟨R, C + wn, max s.n (R + 1), layG s.G R C x (wn : Int)⟩) := Lib.hid (by rw [HT.out, hlay])
                          have e0 : ((wn : Int) == 0) = false := by simp only [beq_eq_false_iff_ne]; omega
                          have hs4 : R ≤ L := hs3
                          have hw1' : 1 ≤ wn := by omega
                          have hw2' : wn ≤ 2 := by omega
                          rw [hwn] at hW
                          clear HT hs3 hlay hRC hs1 hs2 h0 hwn hwr
                          go_upto_region 28 with (go_at_call 20; go_loud (refine (hW _).mono ?_; rintro e w2 ⟨rfl, hD⟩; have hB := Gf.drawn_below hD; have HS2 := Lib.hid (HS.out.below hB); clear hD hB))
                          clear HS
                          obtain ⟨g0, g1, f1⟩ := HS2.out.2.1.c
                          go_upto_region 29 with (go_at_call 28; go_loud (refine (hst _).mono ?_; rintro e w3 ⟨rfl, hB⟩; have HS3 := Lib.hid (HS2.out.below hB); have hA3 := HS3.out.2.1; obtain ⟨y0, y1, y2⟩ := hA3.c; clear hB hA3))
                          have HS4 := Lib.hid (HS3.out.two HQ.out (R : Int) (C : Int))
                          clear HS2 HS3 g0 g1 f1 y0 y1 y2 cw hst hW
                          generalize (w3.setCell ⟨q, 0, none⟩ (.int .i64 (R : Int))).setCell ⟨q, 1, none⟩ (.int .i64 (C : Int)) = w4 at HS4 ⊢
                          obtain ⟨g, cap, b, hv, hb, hq, hbb, hrow⟩ := Grid.at_ HS4.out.1.grid R (by omega)
                          obtain ⟨rfl, rfl⟩ : A = some ⟨g, 0, none⟩ ∧ cp = cap := by injection hv with h1 _ h2; exact ⟨h1, h2⟩
                          obtain ⟨c0, _, _, fp⟩ := HS4.out.1.c
                          obtain ⟨y0, y1, y2⟩ := HS4.out.2.1.c
                          have cw := HCW.out w4 HS4.out.2.2
                          obtain ⟨d0, _, f1⟩ := Pg.cellR HS4.out.1 hb (C := C) (by omega)
                          have m0 : (0 : Int) ≤ (R : Int) := by omega
                          have m1 : (R : Int) < ((L + 1 : Nat) : Int) := by omega
                          have m1' : (R : Int) < (L : Int) + 1 := by omega
                          have m2 : (C : Int) < (wd : Int) := by omega
                          have m3 : (0 : Int) ≤ (C : Int) := by omega
                          have HS5 := Lib.hid (HS4.out.setR x hb (by omega) (C := C) (by omega) (C * 2) rfl)
                          go_region
                          clear HS4 hv hq hbb hrow c0 fp y0 y1 y2 cw d0 f1
                          generalize (w4.setCell ⟨b, C * 2, none⟩ (.int .i64 x)).drew = w6 at HS5 ⊢
                          by_cases hk2 : wn = 2
                          · as_aux_lemma =>
                              have e2 : ((wn : Int) == 2) = true := by rw [hk2]; rfl
                              obtain ⟨g', cap', b', hv, hb', hq, hbb, hrow⟩ := Grid.at_ HS5.out.1.grid R (by omega)
                              rw [hb] at hb'
                              obtain rfl := Option.some.inj hb'
                              obtain ⟨rfl, rfl⟩ : g = g' ∧ cp = cap' := by injection hv with h1 _ h2; injection h1 with h1; injection h1 with h1; exact ⟨h1, h2⟩
                              obtain ⟨c0, _, _, fp⟩ := HS5.out.1.c
                              obtain ⟨y0, y1, y2⟩ := HS5.out.2.1.c
                              obtain ⟨d0, _, f1⟩ := Pg.cellR HS5.out.1 hb (C := C + 1) (by omega)
                              have m4 : ((C + 1 : Nat) : Int) < (wd : Int) := by omega
                              have m5 : (0 : Int) ≤ ((C + 1 : Nat) : Int) := by omega
                              have hwc : IntKind.i64.wrap ((C : Int) + 1) = ((C + 1 : Nat) : Int) := by rw [IntKind.wrap_i64]; omega
                              have HS6 := Lib.hid (HS5.out.setR (-1) hb (by omega) (C := C + 1) (by omega) ((C + 1) * 2) rfl)
                              have HG : Hid (layG s.G R C x (wn : Int) = updG (updG s.G R (updR (s.G R) C x)) R (updR (updG s.G R (updR (s.G R) C x) R) (C + 1) (-1))) := Lib.hid (by unfold layG; rw [if_pos (by omega)])
                              go_upto_region 31 with fail
                              go_region
                              clear HS5 hq hbb hrow c0 fp y0 y1 y2 d0 f1 hwc m4 m5
                              generalize (w6.setCell ⟨b, (C + 1) * 2, none⟩ (.int .i64 (-1))).drew = w7 at HS6 ⊢
                              obtain ⟨y0, y1, y2⟩ := HS6.out.2.1.c
                              have HS7 := Lib.hid (HS6.out.one HQ.out ((C : Int) + (wn : Int)) (C + wn) (Int.natCast_add _ _).symm)
                              have hwk : IntKind.i64.wrap ((C : Int) + (wn : Int)) = (C : Int) + (wn : Int) := by rw [IntKind.wrap_i64]; omega
                              clear hk2
                              go_wp2
                              go_roundw
                              case rel => first | exact ⟨k + 1, by go_num, by omega, by rw [HT2.out, HG.out]; exact HS7⟩ | repeat (first | (refine And.intro ?_ rfl; exact ⟨k + 1, by go_num, by omega, by rw [HT2.out, HG.out]; exact HS7⟩) | apply Exists.intro)
                              case measure => simp [intOf]; omega
                          · as_aux_lemma =>
                              have e2 : ((wn : Int) == 2) = false := by simp only [beq_eq_false_iff_ne]; omega
                              have HG : Hid (layG s.G R C x (wn : Int) = updG s.G R (updR (s.G R) C x)) := Lib.hid (by unfold layG; rw [if_neg (by omega)])
                              obtain ⟨y0, y1, y2⟩ := HS5.out.2.1.c
                              have HS7 := Lib.hid (HS5.out.one HQ.out ((C : Int) + (wn : Int)) (C + wn) (Int.natCast_add _ _).symm)
                              have hwk : IntKind.i64.wrap ((C : Int) + (wn : Int)) = (C : Int) + (wn : Int) := by rw [IntKind.wrap_i64]; omega
                              clear hk2
                              go_wp2
                              go_roundw
                              case rel => first | exact ⟨k + 1, by go_num, by omega, by rw [HT2.out, HG.out]; exact HS7⟩ | repeat (first | (refine And.intro ?_ rfl; exact ⟨k + 1, by go_num, by omega, by rw [HT2.out, HG.out]; exact HS7⟩) | apply Exists.intro)
                              case measure => simp [intOf]; omega
                      · obtain rfl : k = all.length := by omega
                        rw [List.take_length] at HS
                        have hcol : a0.2 ≤ wd := HN.out.1.2
                        obtain ⟨G0, hG0⟩ : ∃ G0, G0 = (runL wd st0 all).G := ⟨_, rfl⟩
                        rw [← hG0] at HS
                        have HG0 := Lib.hid hG0
                        generalize (runL wd st0 all).row = qr at HS
                        generalize (runL wd st0 all).col = qc at HS
                        clear hG0
                        obtain ⟨w6, hw6⟩ : ∃ w6, w6 = wr := ⟨_, rfl⟩
                        rw [← hw6] at HS ⊢
                        clear hw6
                        go_upto_region 34 with fail
                        go_loopw [22] (fun v22 wr => ∃ k : Nat, v22 = .int .i64 k ∧ k ≤ os.length ∧ Hid (St w5 wr p q R0.1 R0.2 (.slice A (L + 1) cp) wd (L + 1) ((os.take k).foldl (markF wd a0 ls) G0) bs qr qc (.slice A18 all.length c18) all)) (fun v22 _ => os.length - (intOf v22).toNat)
                        case atStart => exact ⟨0, rfl, Nat.zero_le _, HS⟩
                        case round =>
                          as_aux_lemma =>
                            clear HS
                            obtain ⟨k, rfl, hk2, HS⟩ := hrel
                            by_cases hlt4 : k < os.length
                            · obtain ⟨ado, rfl, cw⟩ := Kd.at_int (Kd.C_below H3.out (below_then' HB5.out HS.out.1.bel)) (k : Int) (by omega) (by omega)
                              rw [rd_nat os k hlt4, Int.toNat_natCast] at cw
                              have k0 : (0 : Int) ≤ (k : Int) := by omega
                              have k1 : (k : Int) < (os.length : Int) := by omega
                              have HT := Lib.hid (marks_snoc wd a0 ls G0 os k hlt4)
                              have hmem : os[k] ∈ os := List.getElem_mem hlt4
                              generalize os[k] = x at cw HT hmem
                              generalize (os.take k).foldl (markF wd a0 ls) G0 = G at HS HT
                              by_cases hx : 0 ≤ x ∧ x ≤ (ls.length : Int)
                              · as_aux_lemma =>
                                obtain ⟨j, rfl⟩ : ∃ j : Nat, x = (j : Int) := ⟨x.toNat, by omega⟩
                                have x0 : decide ((0 : Int) ≤ (j : Int)) = true := decide_eq_true hx.1
                                have x1 : decide ((j : Int) ≤ (ls.length : Int)) = true := decide_eq_true hx.2
                                have x2 : (0 : Int) ≤ (j : Int) := hx.1
                                have x3 : (j : Int) < ((ls.length + 1 : Nat) : Int) := by omega
                                have x4 : (j : Int) < (ls.length : Int) + 1 := by omega
                                obtain ⟨ad2, hA2, q0, q1⟩ := at_T58 (Kd.C_below HC5.out HS.out.1.bel) (j : Int) (by omega) (by omega)
                                obtain rfl := Option.some.inj hA2
                                rw [rd_place wd a0 ls _ j (by omega), Int.toNat_natCast] at q0 q1
                                change wr.cell? _ = some (.int .i64 ((placeL wd a0 ls j).1 : Int)) at q0
                                change wr.cell? _ = some (.int .i64 ((placeL wd a0 ls j).2 : Int)) at q1
                                have hRl : (placeL wd a0 ls j).1 ≤ L := by have := HLL.out.2 (j : Int) hmem (by omega) (by omega); rwa [Int.toNat_natCast] at this
                                have hCl := place_fit wd hw0 a0 hcol ls j
                                have HT2 : Hid ((os.take (k + 1)).foldl (markF wd a0 ls) G0 = if (placeL wd a0 ls j).2 + 1 < wd ∧ (G (placeL wd a0 ls j).1 ((placeL wd a0 ls j).2 + 1)).1 = -1 then markG (markG G (placeL wd a0 ls j).1 (placeL wd a0 ls j).2) (placeL wd a0 ls j).1 ((placeL wd a0 ls j).2 + 1) else markG G (placeL wd a0 ls j).1 (placeL wd a0 ls j).2) := Lib.hid (by rw [HT.out]; unfold markF; rw [if_pos hx, Int.toNat_natCast])
                                clear HT hx hmem
                                obtain ⟨RC, hRC⟩ : ∃ RC, RC = placeL wd a0 ls j := ⟨_, rfl⟩
                                rw [← hRC] at HT2 q0 q1 hRl hCl
                                clear hRC
                                obtain ⟨R, C⟩ := RC
                                simp only at HT2 q0 q1 hRl hCl
                                go_upto_region 38 with fail
                                have hba := below_alloc (Below.refl wr.heap.size wr) (.cells #[.int .i64 (R : Int), .int .i64 (C : Int)] 58)
                                have HS2 := Lib.hid (HS.out.below hba)
                                have HX2 : Hid (At (wr.alloc (.cells #[.int .i64 (R : Int), .int .i64 (C : Int)] 58)) wr.heap.size R C) := Lib.hid (heap_alloc_new wr _)
                                clear HS hba q0 q1 cw x0 x1
                                generalize wr.alloc (.cells #[.int .i64 (R : Int), .int .i64 (C : Int)] 58) = w7 at HS2 HX2 ⊢
                                generalize wr.heap.size = qx at HX2 ⊢
                                obtain ⟨g, cap, b, hv, hb, hq, hbb, hrow⟩ := Grid.at_ HS2.out.1.grid R (by omega)
                                obtain ⟨rfl, rfl⟩ : A = some ⟨g, 0, none⟩ ∧ cp = cap := by injection hv with h1 _ h2; exact ⟨h1, h2⟩
                                obtain ⟨c0, _, _, fp⟩ := HS2.out.1.c
                                obtain ⟨y0, y1, y2⟩ := HX2.out.c
                                obtain ⟨_, d0, f1⟩ := Pg.cellR HS2.out.1 hb (C := C) (by omega)
                                have m0 : (0 : Int) ≤ (R : Int) := by omega
                                have m1 : (R : Int) < ((L + 1 : Nat) : Int) := by omega
                                have m1' : (R : Int) < (L : Int) + 1 := by omega
                                have m2 : (C : Int) < (wd : Int) := by omega
                                have m3 : (0 : Int) ≤ (C : Int) := by omega
                                have HS3 := Lib.hid (HS2.out.setM hb (by omega) (C := C) (by omega) (C * 2 + 1) rfl)
                                have HX3 : Hid (At (w7.setCell ⟨b, C * 2 + 1, none⟩ (.bool true)).drew qx R C) := Lib.hid (kpg_cell hrow qx 58 _ (by decide) (by decide) HX2.out)
                                go_region
                                clear HS2 HX2 hq hbb hrow c0 fp y0 y1 y2 d0 f1
                                generalize (w7.setCell ⟨b, C * 2 + 1, none⟩ (.bool true)).drew = w8 at HS3 HX3 ⊢
                                obtain ⟨g', cap', b', hv, hb', hq, hbb, hrow⟩ := Grid.at_ HS3.out.1.grid R (by omega)
                                rw [hb] at hb'
                                obtain rfl := Option.some.inj hb'
                                obtain ⟨rfl, rfl⟩ : g = g' ∧ cp = cap' := by injection hv with h1 _ h2; injection h1 with h1; injection h1 with h1; exact ⟨h1, h2⟩
                                obtain ⟨c0, _, _, fp⟩ := HS3.out.1.c
                                obtain ⟨y0, y1, y2⟩ := HX3.out.c
                                have hwc : IntKind.i64.wrap ((C : Int) + 1) = ((C + 1 : Nat) : Int) := by rw [IntKind.wrap_i64]; omega
                                by_cases hc1 : C + 1 < wd
                                · have m4 : decide (((C + 1 : Nat) : Int) < (wd : Int)) = true := decide_eq_true (by omega)
                                  have m4b : decide ((C : Int) + 1 < (wd : Int)) = true := decide_eq_true (by omega)
                                  have m4' : ((C + 1 : Nat) : Int) < (wd : Int) := by omega
                                  have m5 : (0 : Int) ≤ ((C + 1 : Nat) : Int) := by omega
                                  obtain ⟨d0, d1, f1⟩ := Pg.cellR HS3.out.1 hb (C := C + 1) (by omega)
                                  rw [markG_rune] at d0
                                  by_cases hm : (G R (C + 1)).1 = -1
                                  · as_aux_lemma =>
                                    have e3 : ((G R (C + 1)).1 == -1) = true := by rw [hm]; rfl
                                    have HT3 : Hid ((os.take (k + 1)).foldl (markF wd a0 ls) G0 = markG (markG G R C) R (C + 1)) := Lib.hid (by rw [HT2.out, if_pos ⟨hc1, hm⟩])
                                    clear HT2 hm hc1
                                    go_upto_region 39 with fail
                                    go_quiet (fail)
                                    have HS4 := Lib.hid (HS3.out.below (pw_below_drewN (Below.refl w8.heap.size w8) nq))
                                    have HX4 : Hid (At (w8.drewN nq) qx R C) := Lib.hid (((pw_below_drewN (Below.refl w8.heap.size w8) nq).block _ (blk_lt HX3.out)).trans HX3.out)
                                    clear HS3 HX3 hq hbb hrow c0 fp y0 y1 y2 d0 d1 f1 e3
                                    generalize w8.drewN nq = w9 at HS4 HX4 ⊢
                                    obtain ⟨g2, cap2, b2, hv2, hb2, hq, hbb, hrow⟩ := Grid.at_ HS4.out.1.grid R (by omega)
                                    rw [hb] at hb2
                                    obtain rfl := Option.some.inj hb2
                                    obtain ⟨rfl, rfl⟩ : g = g2 ∧ cp = cap2 := by injection hv2 with h1 _ h2; injection h1 with h1; injection h1 with h1; exact ⟨h1, h2⟩
                                    obtain ⟨c0, _, _, fp⟩ := HS4.out.1.c
                                    obtain ⟨y0, y1, y2⟩ := HX4.out.c
                                    obtain ⟨d0, d1, f1⟩ := Pg.cellR HS4.out.1 hb (C := C + 1) (by omega)
                                    have HS5 := Lib.hid (HS4.out.setM hb (by omega) (C := C + 1) (by omega) ((C + 1) * 2 + 1) rfl)
                                    go_upto_region 40 with fail
                                    go_region
                                    clear HS4 HX4 hq hbb hrow c0 fp y0 y1 y2 d0 d1 f1
                                    generalize (w9.setCell ⟨b, (C + 1) * 2 + 1, none⟩ (.bool true)).drew = w10 at HS5 ⊢
                                    go_wp2
                                    go_roundw
                                    case rel => first | exact ⟨k + 1, by go_num, by omega, by rw [HT3.out]; exact HS5⟩ | repeat (first | (refine And.intro ?_ rfl; exact ⟨k + 1, by go_num, by omega, by rw [HT3.out]; exact HS5⟩) | apply Exists.intro)
                                    case measure => simp [intOf]; omega
                                  · as_aux_lemma =>
                                    have e3 : ((G R (C + 1)).1 == -1) = false := by simpa using hm
                                    have HT3 : Hid ((os.take (k + 1)).foldl (markF wd a0 ls) G0 = markG G R C) := Lib.hid (by rw [HT2.out, if_neg (fun h => hm h.2)])
                                    clear HT2 hm hc1
                                    go_upto_region 39 with fail
                                    go_quiet (fail)
                                    have HS4 := Lib.hid (HS3.out.below (pw_below_drewN (Below.refl w8.heap.size w8) nq))
                                    clear HS3 HX3 hq hbb hrow c0 fp y0 y1 y2 d0 d1 f1 e3
                                    generalize w8.drewN nq = w9 at HS4 ⊢
                                    go_wp2
                                    go_roundw
                                    case rel => first | exact ⟨k + 1, by go_num, by omega, by rw [HT3.out]; exact HS4⟩ | repeat (first | (refine And.intro ?_ rfl; exact ⟨k + 1, by go_num, by omega, by rw [HT3.out]; exact HS4⟩) | apply Exists.intro)
                                    case measure => simp [intOf]; omega
                                · as_aux_lemma =>
                                  have m4 : decide (((C + 1 : Nat) : Int) < (wd : Int)) = false := decide_eq_false (by omega)
                                  have m4b : decide ((C : Int) + 1 < (wd : Int)) = false := decide_eq_false (by omega)
                                  have HT3 : Hid ((os.take (k + 1)).foldl (markF wd a0 ls) G0 = markG G R C) := Lib.hid (by rw [HT2.out, if_neg (fun h => hc1 h.1)])
                                  clear HT2 hc1
                                  go_upto_region 39 with fail
                                  go_quiet (fail)
                                  have HS4 := Lib.hid (HS3.out.below (pw_below_drewN (Below.refl w8.heap.size w8) nq))
                                  clear HS3 HX3 hq hbb hrow c0 fp y0 y1 y2
                                  generalize w8.drewN nq = w9 at HS4 ⊢
                                  go_wp2
                                  go_roundw
                                  case rel => first | exact ⟨k + 1, by go_num, by omega, by rw [HT3.out]; exact HS4⟩ | repeat (first | (refine And.intro ?_ rfl; exact ⟨k + 1, by go_num, by omega, by rw [HT3.out]; exact HS4⟩) | apply Exists.intro)
                                  case measure => simp [intOf]; omega
                              · have HT2 : Hid ((os.take (k + 1)).foldl (markF wd a0 ls) G0 = G) := Lib.hid (by rw [HT.out]; unfold markF; rw [if_neg hx])
                                by_cases hx0 : 0 ≤ x
                                · have x0 : decide ((0 : Int) ≤ x) = true := decide_eq_true hx0
                                  have x1 : decide (x ≤ (ls.length : Int)) = false := decide_eq_false (by omega)
                                  clear HT hx hx0
                                  go_wp2
                                  go_roundw
                                  case rel => first | exact ⟨k + 1, by go_num, by omega, by rw [HT2.out]; exact HS⟩ | repeat (first | (refine And.intro ?_ rfl; exact ⟨k + 1, by go_num, by omega, by rw [HT2.out]; exact HS⟩) | apply Exists.intro)
                                  case measure => simp [intOf]; omega
                                · have x0 : decide ((0 : Int) ≤ x) = false := decide_eq_false hx0
                                  clear HT hx hx0
                                  go_wp2
                                  go_roundw
                                  case rel => first | exact ⟨k + 1, by go_num, by omega, by rw [HT2.out]; exact HS⟩ | repeat (first | (refine And.intro ?_ rfl; exact ⟨k + 1, by go_num, by omega, by rw [HT2.out]; exact HS⟩) | apply Exists.intro)
                                  case measure => simp [intOf]; omega
                            · obtain rfl : k = os.length := by omega
                              rw [List.take_length] at HS
                              have HR9 := Lib.hid ((HS.out.1.bel.block _ (blk_lt HR5.out)).trans HR5.out)
                              have z0 := blk_frozen HR9.out
                              have y0 : wr.cell? ⟨b10, 0, none⟩ = some (.slice none 0 0) := by rw [blk_cell HR9.out]; rfl
                              have y1 : wr.cell? ⟨b10, 1, none⟩ = some (.int .i64 0) := by rw [blk_cell HR9.out]; rfl
                              have y2 : wr.cell? ⟨b10, 2, none⟩ = some (.int .i64 0) := by rw [blk_cell HR9.out]; rfl
                              obtain ⟨c0, c1', c2', _⟩ := HS.out.1.c
                              have HBx := Lib.hid (blk_put (blk_put (blk_put HR9.out 0 (.slice A (L + 1) cp) rfl) 1 (.int .i64 (R0.1 : Int)) rfl) 2 (.int .i64 (R0.2 : Int)) rfl)
                              have HB9 := Lib.hid (below_then' HB5.out HS.out.1.bel)
                              have HLT := Lib.hid (blk_lt HR5.out)
                              go_wp2
                              refine bodyPost_ret (results_ct rfl _ _ b10 32 _ (0, 0) _ rfl HBx.out Tryd.underlying32 rfl (by kernel_rfl)) rfl ?_
                              refine ⟨((HB9.out.setCell (Nat.le_of_eq HB10.out) _).setCell (Nat.le_of_eq HB10.out) _).setCell (Nat.le_of_eq HB10.out) _, ?_⟩
                              rw [if_neg (by rw [HLe.out]; exact HF.out)]
                              refine ⟨bs, .slice A (L + 1) cp, ?_, ?_⟩
                              · rw [← HA.out.1, ← HR0.out]
                                rfl
                              · rw [HLe.out]
                                unfold endG
                                rw [← HA.out.1, ← HALL.out, ← HG0.out]
                                exact grid_down (grid_set (grid_set (grid_set HS.out.1.grid b10 0 _ HLT.out) b10 1 _ HLT.out) b10 2 _ HLT.out) HB5.out.size
end Go.Proofs.YtoidlaonolkgkaaDoor.Rw
/- The document's Lay answers as the program's. -/
set_option linter.unusedVariables false
set_option linter.unusedSimpArgs false
namespace Go.Proofs.YtoidlaonolkgkaaDoor.Rz
open Go.RowKit Go.Proofs.YtoidlaonolkgkaaDoor.Giv Go.Proofs.YtoidlaonolkgkaaDoor.Gr Go.Proofs.YtoidlaonolkgkaaDoor.Gl Go.Proofs.YtoidlaonolkgkaaDoor.Gn Go.Proofs.YtoidlaonolkgkaaDoor.Gy Go.Proofs.YtoidlaonolkgkaaDoor.Gz Go.Proofs.YtoidlaonolkgkaaDoor.Gp Go.Proofs.YtoidlaonolkgkaaDoor.Gk Go.Proofs.YtoidlaonolkgkaaDoor.Gb Go.Proofs.YtoidlaonolkgkaaDoor.Gc Go.Proofs.YtoidlaonolkgkaaDoor.Gq Go.Proofs.YtoidlaonolkgkaaDoor.Rl Go.Proofs.YtoidlaonolkgkaaDoor.Pg Go.Proofs.YtoidlaonolkgkaaDoor.Rw Go.Proofs.YtoidlaonolkgkaaDoor.P Go.Proofs.YtoidlaonolkgkaaDoorW.PrintWords Go.Proofs.YtoidlaonolkgkaaDoorW.PrintLast
set_option maxHeartbeats 4000000 in
set_option maxRecDepth 100000 in
theorem rlay_bad (width caret : Int) (A1 A2 A3 : Option Addr) (c1 c2 c3 a b o : Nat) (w : World) (h : badArgs width caret a b o) :
    Calls Tryd.prog 11 #[.int .i64 width, .slice A1 a c1, .slice A2 b c2, .int .i64 caret, .slice A3 o c3] w fun e w' => e = .returned (.tuple #[.agg #[.slice none 0 0, .int .i64 0, .int .i64 0], .int .i64 1]) ∧ Below w.heap.size w w' := by
  have hnew := heap_alloc_new w (Obj.cells #[.slice none 0 0, .int .i64 0, .int .i64 0] 32)
  have hbl := below_alloc (Below.refl w.heap.size w) (Obj.cells #[.slice none 0 0, .int .i64 0, .int .i64 0] 32)
  have HB3 := Lib.hid (blk_put (blk_put (blk_put hnew 0 (.slice none 0 0) rfl) 1 (.int .i64 0) rfl) 2 (.int .i64 0) rfl)
  have HBL := Lib.hid hbl
  clear hnew hbl
  by_cases g0 : width < 2
  · have d0 : decide (width < 2) = true := decide_eq_true g0
    clear h g0
    go_enter Tryd.func11, Tryd.ntmps11
    go_wp2
    first
      | (refine bodyPost_ret (results_ct rfl _ _ w.heap.size 32 _ (0, 0) _ rfl HB3.out Tryd.underlying32 rfl (by kernel_rfl)) rfl ?_
         exact ⟨rfl, ((HBL.out.setCell (Nat.le_refl _) _).setCell (Nat.le_refl _) _).setCell (Nat.le_refl _) _⟩)
      | (refine bodyPost_ret (results_ct rfl _ _ w.heap.size 32 #[.slice none 0 0, .int .i64 0, .int .i64 0] (0, 0) _ rfl (heap_alloc_new w _) Tryd.underlying32 rfl (by kernel_rfl)) rfl ?_
         exact ⟨rfl, HBL.out⟩)
  have d0 : decide (width < 2) = false := decide_eq_false g0
  by_cases g1 : 512 < width
  · have d1 : decide (512 < width) = true := decide_eq_true g1
    clear h g1
    go_enter Tryd.func11, Tryd.ntmps11
    go_wp2
    first
      | (refine bodyPost_ret (results_ct rfl _ _ w.heap.size 32 _ (0, 0) _ rfl HB3.out Tryd.underlying32 rfl (by kernel_rfl)) rfl ?_
         exact ⟨rfl, ((HBL.out.setCell (Nat.le_refl _) _).setCell (Nat.le_refl _) _).setCell (Nat.le_refl _) _⟩)
      | (refine bodyPost_ret (results_ct rfl _ _ w.heap.size 32 #[.slice none 0 0, .int .i64 0, .int .i64 0] (0, 0) _ rfl (heap_alloc_new w _) Tryd.underlying32 rfl (by kernel_rfl)) rfl ?_
         exact ⟨rfl, HBL.out⟩)
  have d1 : decide (512 < width) = false := decide_eq_false g1
  by_cases g2 : (200 : Int) < (a : Int)
  · have d2 : decide ((200 : Int) < (a : Int)) = true := decide_eq_true g2
    clear h g2
    go_enter Tryd.func11, Tryd.ntmps11
    go_wp2
    first
      | (refine bodyPost_ret (results_ct rfl _ _ w.heap.size 32 _ (0, 0) _ rfl HB3.out Tryd.underlying32 rfl (by kernel_rfl)) rfl ?_
         exact ⟨rfl, ((HBL.out.setCell (Nat.le_refl _) _).setCell (Nat.le_refl _) _).setCell (Nat.le_refl _) _⟩)
      | (refine bodyPost_ret (results_ct rfl _ _ w.heap.size 32 #[.slice none 0 0, .int .i64 0, .int .i64 0] (0, 0) _ rfl (heap_alloc_new w _) Tryd.underlying32 rfl (by kernel_rfl)) rfl ?_
         exact ⟨rfl, HBL.out⟩)
  have d2 : decide ((200 : Int) < (a : Int)) = false := decide_eq_false g2
  by_cases g3 : (1000 : Int) < (b : Int)
  · have d3 : decide ((1000 : Int) < (b : Int)) = true := decide_eq_true g3
    clear h g3
    go_enter Tryd.func11, Tryd.ntmps11
    go_wp2
    first
      | (refine bodyPost_ret (results_ct rfl _ _ w.heap.size 32 _ (0, 0) _ rfl HB3.out Tryd.underlying32 rfl (by kernel_rfl)) rfl ?_
         exact ⟨rfl, ((HBL.out.setCell (Nat.le_refl _) _).setCell (Nat.le_refl _) _).setCell (Nat.le_refl _) _⟩)
      | (refine bodyPost_ret (results_ct rfl _ _ w.heap.size 32 #[.slice none 0 0, .int .i64 0, .int .i64 0] (0, 0) _ rfl (heap_alloc_new w _) Tryd.underlying32 rfl (by kernel_rfl)) rfl ?_
         exact ⟨rfl, HBL.out⟩)
  have d3 : decide ((1000 : Int) < (b : Int)) = false := decide_eq_false g3
  by_cases g4 : (20 : Int) < (o : Int)
  · have d4 : decide ((20 : Int) < (o : Int)) = true := decide_eq_true g4
    clear h g4
    go_enter Tryd.func11, Tryd.ntmps11
    go_wp2
    first
      | (refine bodyPost_ret (results_ct rfl _ _ w.heap.size 32 _ (0, 0) _ rfl HB3.out Tryd.underlying32 rfl (by kernel_rfl)) rfl ?_
         exact ⟨rfl, ((HBL.out.setCell (Nat.le_refl _) _).setCell (Nat.le_refl _) _).setCell (Nat.le_refl _) _⟩)
      | (refine bodyPost_ret (results_ct rfl _ _ w.heap.size 32 #[.slice none 0 0, .int .i64 0, .int .i64 0] (0, 0) _ rfl (heap_alloc_new w _) Tryd.underlying32 rfl (by kernel_rfl)) rfl ?_
         exact ⟨rfl, HBL.out⟩)
  have d4 : decide ((20 : Int) < (o : Int)) = false := decide_eq_false g4
  by_cases g5 : caret < 0
  · have d5 : decide (caret < 0) = true := decide_eq_true g5
    clear h g5
    go_enter Tryd.func11, Tryd.ntmps11
    go_wp2
    first
      | (refine bodyPost_ret (results_ct rfl _ _ w.heap.size 32 _ (0, 0) _ rfl HB3.out Tryd.underlying32 rfl (by kernel_rfl)) rfl ?_
         exact ⟨rfl, ((HBL.out.setCell (Nat.le_refl _) _).setCell (Nat.le_refl _) _).setCell (Nat.le_refl _) _⟩)
      | (refine bodyPost_ret (results_ct rfl _ _ w.heap.size 32 #[.slice none 0 0, .int .i64 0, .int .i64 0] (0, 0) _ rfl (heap_alloc_new w _) Tryd.underlying32 rfl (by kernel_rfl)) rfl ?_
         exact ⟨rfl, HBL.out⟩)
  have d5 : decide (caret < 0) = false := decide_eq_false g5
  by_cases g6 : (b : Int) < caret
  · have d6 : decide ((b : Int) < caret) = true := decide_eq_true g6
    clear h g6
    go_enter Tryd.func11, Tryd.ntmps11
    go_wp2
    first
      | (refine bodyPost_ret (results_ct rfl _ _ w.heap.size 32 _ (0, 0) _ rfl HB3.out Tryd.underlying32 rfl (by kernel_rfl)) rfl ?_
         exact ⟨rfl, ((HBL.out.setCell (Nat.le_refl _) _).setCell (Nat.le_refl _) _).setCell (Nat.le_refl _) _⟩)
      | (refine bodyPost_ret (results_ct rfl _ _ w.heap.size 32 #[.slice none 0 0, .int .i64 0, .int .i64 0] (0, 0) _ rfl (heap_alloc_new w _) Tryd.underlying32 rfl (by kernel_rfl)) rfl ?_
         exact ⟨rfl, HBL.out⟩)
  have d6 : decide ((b : Int) < caret) = false := decide_eq_false g6
  unfold badArgs at h
  omega
theorem run_n1 (wd : Nat) (l : List Int) : ∀ s : LS, s.n = s.row + 1 → (runL wd s l).n = (runL wd s l).row + 1 := by
  induction l with
  | nil => intro s h; exact h
  | cons x l ih =>
    intro s h
    rw [runL_cons]
    refine ih _ ?_
    have h1 := layL_n wd s x (by omega)
    have h2 := layL_row wd s x
    omega
theorem run_mark (wd : Nat) (l : List Int) : ∀ (s : LS) (i k : Nat), ((runL wd s l).G i k).2 = (s.G i k).2 := by
  induction l with
  | nil => intro s i k; rfl
  | cons x l ih => intro s i k; rw [runL_cons, ih, layL_mark]
theorem same_page (wd ct : Nat) (h2 : 2 ≤ wd) (ps ls os : List Int) (hc : ct ≤ ls.length) :
    (finL wd ps ls ct os).1.n = lastN wd ct ps ls os + 1 ∧ (finL wd ps ls ct os).2 = placeL wd (posR wd (0, 0) ps) ls ct ∧ (finL wd ps ls ct os).1.G = endG wd ps ls os := by
  have hst : (runL wd st0 ps).n = (runL wd st0 ps).row + 1 := run_n1 wd ps st0 rfl
  obtain ⟨C1, C2, C3, C4, C5⟩ := closed wd ct os ls 0 (runL wd st0 ps) (0, 0) (by omega)
  have hfin : finL wd ps ls ct os = lineL wd ct os 0 (runL wd st0 ps, (0, 0)) ls := rfl
  rw [← hfin] at C1 C2 C3 C4 C5
  have ha0 : ((runL wd st0 ps).row, (runL wd st0 ps).col) = posR wd (0, 0) ps := runL_pos wd ps st0
  rw [ha0] at C1 C3 C4 C5
  have hrow : (runL wd st0 ps).row = (posR wd (0, 0) ps).1 := congrArg Prod.fst ha0
  have hcol : (runL wd st0 ps).col ≤ wd := run_col wd h2 ps
  have htr : (finL wd ps ls ct os).1.row = (posR wd (posR wd (0, 0) ps) ls).1 := congrArg Prod.fst C1
  have hmono := posR_row wd ls (posR wd (0, 0) ps)
  refine ⟨?_, ?_, ?_⟩
  · have hL := last_le wd (posR wd (0, 0) ps) ls os (max (posR wd (posR wd (0, 0) ps) ls).1 (placeL wd (posR wd (0, 0) ps) ls ct).1)
    have hdef : lastN wd ct ps ls os = lastF wd (posR wd (0, 0) ps) ls (max (posR wd (posR wd (0, 0) ps) ls).1 (placeL wd (posR wd (0, 0) ps) ls ct).1) os := rfl
    rw [← hdef] at hL
    have hself := (hL _).1 (Nat.le_refl _)
    apply Nat.le_antisymm
    · rw [C4]
      refine ⟨by omega, by omega, fun j hj h => ?_⟩
      rcases h with h | h
      · have := hself.2 _ h (by omega) (by omega)
        rw [Int.toNat_natCast, Nat.zero_add] at this
        omega
      · have : j = ct := by omega
        subst this
        omega
    · have h := (C4 _).1 (Nat.le_refl _)
      have hcp := h.2.2 ct hc (.inr (by omega))
      have hn1 : 1 ≤ (finL wd ps ls ct os).1.n := by omega
      have : lastN wd ct ps ls os ≤ (finL wd ps ls ct os).1.n - 1 := by
        rw [hL]
        refine ⟨by omega, fun x hx h0 h1 => ?_⟩
        have := h.2.2 x.toNat (by omega) (.inl (by rw [show (((0 + x.toNat : Nat)) : Int) = x by omega]; exact hx))
        omega
      omega
  · rw [C5, if_pos (by omega), show ((ct : Int) - ((0 : Nat) : Int)).toNat = ct by omega]
  · have hG0 : (runL wd st0 (ps ++ ls)).G = (runL wd (runL wd st0 ps) ls).G := by rw [runL_append]
    have hok : ∀ i, rowGo false false (rowS wd ((runL wd st0 (ps ++ ls)).G i)) = true := fun i =>
      (nice_run wd h2 (ps ++ ls) st0 [] (nice_st0 wd h2 _)).all i
    have hmk : ∀ j, j ≤ ls.length → mkW wd (posR wd (0, 0) ps) ls (runL wd st0 (ps ++ ls)).G j = (nextW (ls.drop j)).toNat := by
      intro j hj
      have hsp : runL wd st0 (ps ++ ls) = runL wd (runL wd st0 (ps ++ ls.take j)) (ls.drop j) := by rw [← runL_append, List.append_assoc, List.take_append_drop]
      have hN : Nice wd (runL wd st0 (ps ++ ls.take j)) (ls.drop j) := nice_run wd h2 (ps ++ ls.take j) st0 _ (nice_st0 wd h2 _)
      have hpos : caretP wd (runL wd st0 (ps ++ ls.take j)) (ls.drop j) = placeL wd (posR wd (0, 0) ps) ls j := by
        unfold caretP placeL
        rw [runL_pos, posR_append]
        rfl
      have := mkW_next wd h2 (ls.drop j) _ hN (run_col wd h2 _) (fun i => by rw [← hsp]; exact hok i)
      rw [hpos, ← hsp] at this
      exact this
    funext i k
    apply Prod.ext
    · unfold endG
      rw [marksF_rune, hG0]
      exact C2 i k
    · rw [Bool.eq_iff_iff, C3]
      unfold endG
      rw [marksF_mark, run_mark, run_mark]
      refine or_congr_right ?_
      constructor
      · rintro ⟨j, hj, hm, hr, hk1, hk2⟩
        rw [Nat.zero_add] at hm
        refine ⟨(j : Int), hm, by omega, by omega, ?_⟩
        rw [Int.toNat_natCast, hmk j hj]
        exact ⟨hr, hk1, hk2⟩
      · rintro ⟨x, hx, h0, h1, hr, hk1, hk2⟩
        have hj : x.toNat ≤ ls.length := by omega
        rw [hmk _ hj] at hk2
        exact ⟨x.toNat, hj, by rw [show (((0 + x.toNat : Nat)) : Int) = x by omega]; exact hx, hr, hk1, hk2⟩
end Go.Proofs.YtoidlaonolkgkaaDoor.Rz
namespace Go.Proofs.YtoidlaonolkgkaaDoor.P
open Go.RowKit Go.Proofs.YtoidlaonolkgkaaDoor.Giv Go.Proofs.YtoidlaonolkgkaaDoor.Gr Go.Proofs.YtoidlaonolkgkaaDoor.Gk Go.Proofs.YtoidlaonolkgkaaDoor.Gb Go.Proofs.YtoidlaonolkgkaaDoor.Gp Go.Proofs.YtoidlaonolkgkaaDoor.Rl Go.Proofs.YtoidlaonolkgkaaDoor.Rw Go.Proofs.YtoidlaonolkgkaaDoor.Rz Go.Proofs.YtoidlaonolkgkaaDoorW.PrintWords Go.Proofs.YtoidlaonolkgkaaDoorW.PrintLast
/-- The document lays what the program lays. -/
def duetref21_Lay.f (a0 : Int) (l1 l2 : List Int) (a3 : Int) (l4 : List Int) : Option (List (List S47) × Int × Int × Int) := layout_Lay.f a0 l1 l2 a3 l4
theorem duetref21_Lay.calls (a0 : Int) (A1 : Option Addr) (c1 : Nat) (l1 : List Int) (A2 : Option Addr) (c2 : Nat) (l2 : List Int) (a3 : Int) (A4 : Option Addr) (c4 : Nat) (l4 : List Int) (r0 : List (List S47)) (r1 r2 r3 : Int) (w : World)
    (hr1 : Kd.C (Kd.int .i64) w A1 l1.length l1) (hc1 : l1.length ≤ c1) (hr2 : Kd.C (Kd.int .i64) w A2 l2.length l2) (hc2 : l2.length ≤ c2) (hr4 : Kd.C (Kd.int .i64) w A4 l4.length l4) (hc4 : l4.length ≤ c4) (h : duetref21_Lay.f a0 l1 l2 a3 l4 = some (r0, r1, r2, r3)) :
    Calls Tryd.prog 11 #[.int .i64 a0, .slice A1 l1.length c1, .slice A2 l2.length c2, .int .i64 a3, .slice A4 l4.length c4] w fun e w' => ∃ v0_ : Value, e = .returned (.tuple #[.agg #[v0_, .int .i64 r1, .int .i64 r2], .int .i64 r3]) ∧ Kd.S (Kd.slice 47 k47) 45 w' w.heap.size (fun _ => True) v0_ r0 ∧ Below w.heap.size w w' := by
  unfold duetref21_Lay.f layout_Lay.f at h
  split at h
  · rename_i hb
    simp only [Option.some.injEq, Prod.mk.injEq] at h
    obtain ⟨rfl, rfl, rfl, rfl⟩ := h
    refine (rlay_bad a0 a3 A1 A2 A4 c1 c2 c4 _ _ _ w hb).mono ?_
    rintro e w' ⟨rfl, hB⟩
    exact ⟨_, rfl, Kd.S_nil _ _ _ _ _, hB⟩
  · rename_i hb
    unfold badArgs at hb
    obtain ⟨wd, rfl⟩ : ∃ k : Nat, a0 = (k : Int) := ⟨a0.toNat, by omega⟩
    obtain ⟨ct, rfl⟩ : ∃ k : Nat, a3 = (k : Int) := ⟨a3.toNat, by omega⟩
    obtain ⟨e1, e2, e3⟩ := same_page wd ct (by omega) l1 l2 l4 (by omega)
    refine (rlay_ok wd ct A1 A2 A4 c1 c2 c4 l1 l2 l4 w hr1 hr2 hr4 hc1 hc2 hc4 (by omega) (by omega) (by omega) (by omega) (by omega) (by omega)).mono ?_
    rintro e w' ⟨hB, hp⟩
    rw [Int.toNat_natCast, e1, e2, e3] at h
    split at h
    · rename_i hn
      rw [if_pos (show 200 ≤ lastN wd ct l1 l2 l4 by omega)] at hp
      simp only [Option.some.injEq, Prod.mk.injEq] at h
      obtain ⟨rfl, rfl, rfl, rfl⟩ := h
      exact ⟨_, hp, Kd.S_nil _ _ _ _ _, hB⟩
    · rename_i hn
      rw [if_neg (show ¬ 200 ≤ lastN wd ct l1 l2 l4 by omega)] at hp
      simp only [Option.some.injEq, Prod.mk.injEq] at h
      obtain ⟨rfl, rfl, rfl, rfl⟩ := h
      obtain ⟨bs, v, he, hg⟩ := hp
      exact ⟨v, he, grid_S hg (by omega), hB⟩
end Go.Proofs.YtoidlaonolkgkaaDoor.P
