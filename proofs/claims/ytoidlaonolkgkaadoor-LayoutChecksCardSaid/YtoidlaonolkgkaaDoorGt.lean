/- The document's Text: what it says, and the walk. -/
import Derived.Test.YtoidlaonolkgkaaDoorGf
import Derived.Test.YtoidlaonolkgkaaDoorGs
import Derived.Test.YtoidlaonolkgkaaDoorGv
set_option linter.unusedVariables false
set_option linter.unusedSimpArgs false
namespace Go.Proofs.YtoidlaonolkgkaaDoor.Gt
open Go.RowKit Go.Proofs.YtoidlaonolkgkaaDoor.Giv Go.Proofs.YtoidlaonolkgkaaDoor.Gr Go.Proofs.YtoidlaonolkgkaaDoor.Gl Go.Proofs.YtoidlaonolkgkaaDoor.Gn Go.Proofs.YtoidlaonolkgkaaDoorW.PrintWords Go.Proofs.YtoidlaonolkgkaaDoorW.PrintLast Go.Proofs.YtoidlaonolkgkaaDoor.P Go.Proofs.YtoidlaonolkgkaaDoor.Gc Go.Proofs.YtoidlaonolkgkaaDoor.Gd Go.Proofs.YtoidlaonolkgkaaDoor.Ge Go.Proofs.YtoidlaonolkgkaaDoor.Gf Go.Proofs.YtoidlaonolkgkaaDoor.Gs
/-- One cell more: what is said, and the blanks behind it. -/
def refC (st : List UInt8 × List UInt8) (c : S47) : List UInt8 × List UInt8 :=
  if c.f0 = 0 ∨ c.f0 = 32 then (st.1, st.2 ++ [32]) else if c.f0 = -1 then st else (st.1 ++ st.2 ++ Lib.encodeRune (signN c.f0), [])
def refS (row : List S47) : List UInt8 × List UInt8 := row.foldl refC ([], [])
theorem refS_take (row : List S47) (j : Nat) (h : j < row.length) : refS (row.take (j + 1)) = refC (refS (row.take j)) row[j] := by
  unfold refS
  rw [List.take_succ_eq_append_getElem h, List.foldl_append]; rfl
theorem sign_ne (x : Int) (h : x ≠ 32) : signN x ≠ 32 := by unfold signN; split <;> omega
theorem trim_app (l m : List UInt8) (h : ∀ x ∈ m, x ≠ 32) (hm : m ≠ []) : trimR (l ++ m) = l ++ m := by
  obtain ⟨a, x, rfl⟩ : ∃ a x, m = a ++ [x] := ⟨m.dropLast, m.getLast hm, (List.dropLast_concat_getLast hm).symm⟩
  rw [← List.append_assoc, trimR_other _ _ (h x (by simp))]
theorem enc_ne (r : Int) (h : r ≠ 32) : ∀ x ∈ Lib.encodeRune r, x ≠ 32 := fun x hx e => h (enc_blank r x hx e)
theorem enc_nil (r : Int) : Lib.encodeRune r ≠ [] := fun e => by have := (enc_len r).1; rw [e] at this; simp at this
theorem enc_32 : Lib.encodeRune 32 = [32] := by decide
/-- What is said is the program's row without the blanks at its end. -/
theorem refS_says (row : List S47) : ∀ j, j ≤ row.length → (refS (row.take j)).1 = trimR (rowB (row.take j)) ∧ (refS (row.take j)).1 ++ (refS (row.take j)).2 = rowB (row.take j)
  | 0, _ => by simp [refS, rowB, trimR]
  | j + 1, h => by
    obtain ⟨h1, h2⟩ := refS_says row j (by omega)
    rw [refS_take row j (by omega), rowB_take row j (by omega)]
    generalize refS (row.take j) = st at h1 h2 ⊢
    generalize rowB (row.take j) = b at h1 h2 ⊢
    generalize row[j] = c
    unfold refC cellB
    by_cases c0 : c.f0 = 0
    · rw [if_pos (.inl c0), if_neg (by omega), if_pos c0]
      have e : Lib.encodeRune (signN 32) = [32] := by decide
      rw [e, trimR_blank]
      exact ⟨h1, by rw [← h2, List.append_assoc]⟩
    · by_cases c1 : c.f0 = 32
      · rw [if_pos (.inr c1), if_neg (by omega), if_neg c0, c1]
        have e : Lib.encodeRune (signN 32) = [32] := by decide
        rw [e, trimR_blank]
        exact ⟨h1, by rw [← h2, List.append_assoc]⟩
      · rw [if_neg (by rintro (h | h); exact c0 h; exact c1 h)]
        by_cases c2 : c.f0 = -1
        · rw [if_pos c2, if_pos c2, List.append_nil]
          exact ⟨h1, h2⟩
        · rw [if_neg c2, if_neg c2, if_neg c0, h2, trim_app _ _ (enc_ne _ (sign_ne _ c1)) (enc_nil _), List.append_nil]
          exact ⟨rfl, rfl⟩
theorem refS_row (row : List S47) : (refS row).1 = rowT row := by
  have h := (refS_says row row.length (Nat.le_refl _)).1
  rw [List.take_length] at h
  exact h
theorem refS_len (row : List S47) (j : Nat) (h : j ≤ row.length) : (refS (row.take j)).1.length + (refS (row.take j)).2.length ≤ 4 * j := by
  have h2 := (refS_says row j h).2
  have h3 := rowB_len (row.take j)
  rw [← h2, List.length_append, List.length_take] at h3
  omega
theorem ts_up {w0 w1 wr : World} {v : Value} {l : List ByteArray} (h : TS w1 wr v l) (hB : Below w0.heap.size w0 w1) : TS w0 wr v l :=
  ⟨own_weaken h.row hB.size, below_then' hB h.bel⟩
theorem bs_ap (l m : List UInt8) : (⟨l.toArray⟩ : ByteArray) ++ ⟨m.toArray⟩ = ⟨(l ++ m).toArray⟩ := by
  apply ByteArray.ext
  simp
set_option maxHeartbeats 8000000 in
set_option maxRecDepth 100000 in
theorem rtext_calls (A : Option Addr) (c : Nat) (rows : List (List S47)) (row col : Int) (w : World) (hC : Kd.C (Kd.slice 47 k47) w A rows.length rows) (hl : rows.length ≤ 1000) (hr : ∀ r ∈ rows, r.length ≤ 1000) :
    Calls Tryd.prog 15 #[.agg #[.slice A rows.length c, .int .i64 row, .int .i64 col]] w fun e w' => ∃ v, e = .returned v ∧ TS w w' v (pageT rows) := by
  have HRr := Lib.hid hr
  have HC0 := Lib.hid hC
  clear hr hC
  go_enter Tryd.func15, Tryd.ntmps15
  go_upto_region 3 with fail
  have HB0 := Lib.hid (below_alloc (Below.refl w.heap.size w) (.cells #[.slice A rows.length c, .int .i64 row, .int .i64 col] 32))
  have HX1 := Lib.hid (heap_alloc_new w (.cells #[.slice A rows.length c, .int .i64 row, .int .i64 col] 32))
  have HC := Lib.hid (Kd.C_below HC0.out HB0.out)
  clear HC0
  generalize w.alloc (.cells #[.slice A rows.length c, .int .i64 row, .int .i64 col] 32) = w1 at HB0 HX1 HC ⊢
  have HS1 := Lib.hid (blk_lt HX1.out)
  generalize w.heap.size = bx at HX1 HS1 ⊢
  go_loopw [3, 4] (fun v3 v4 wr => ∃ k : Nat, v4 = .int .i64 k ∧ k ≤ rows.length ∧ Hid (TS w1 wr v3 (pageT (rows.take k)))) (fun _ v4 _ => rows.length - (intOf v4).toNat)
  case atStart => exact ⟨0, rfl, Nat.zero_le _, Lib.hid ⟨own_nil _ _ _ _, Below.refl _ _⟩⟩
  case round =>
    obtain ⟨k, rfl, hk, HT⟩ := hrel
    obtain ⟨A3, c3, rfl⟩ := own_slice HT.out.row
    have x0 : wr.cell? ⟨bx, 0, none⟩ = some (.slice A rows.length c) := by rw [blk_cell ((HT.out.bel.block _ HS1.out).trans HX1.out)]; rfl
    by_cases hlt : k < rows.length
    · have dl : decide ((k : Int) < (rows.length : Int)) = true := decide_eq_true (by omega)
      obtain ⟨ad, A0, c0, rfl, cw0, hc0, hCr⟩ := at_L6 HC.out (k : Int) (by omega) (by omega)
      rw [rdL6 rows k hlt] at cw0 hc0 hCr
      rw [Int.toNat_natCast] at cw0
      have cw := pw_cell_below HT.out.bel cw0
      have hk0 : (0 : Int) ≤ (k : Int) := by omega
      have hk1 : (k : Int) < (rows.length : Int) := by omega
      have HP : Hid (pageT (rows.take (k + 1)) = pageT (rows.take k) ++ [⟨(rowT rows[k]).toArray⟩] ∧ rows[k].length ≤ 1000) := Lib.hid ⟨pageT_take rows k hlt, HRr.out _ (List.getElem_mem hlt)⟩
      generalize rows[k] = row at cw cw0 hc0 hCr HP
      have hrl := HP.out.2
      have HCr := Lib.hid hCr
      have HCW := Lib.hid cw0
      clear hCr cw0
      have hpl : (pageT (rows.take k)).length = k := by unfold pageT; rw [List.length_map, List.length_take]; omega
      have HPL := Lib.hid hpl
      generalize pageT (rows.take k) = strs at *
      clear hpl
      go_upto_region 8 with fail
      clear x0 cw
      go_loopw [5, 6, 7] (fun v5 v6 v7 wi => ∃ j : Nat, v7 = .int .i64 j ∧ j ≤ row.length ∧ v5 = .string ⟨(refS (row.take j)).1.toArray⟩ ∧ v6 = .string ⟨(refS (row.take j)).2.toArray⟩ ∧ Hid (TS w1 wi (.slice A3 strs.length c3) strs)) (fun _ _ v7 _ => row.length - (intOf v7).toNat)
      case atStart => exact ⟨0, rfl, Nat.zero_le _, rfl, rfl, HT⟩
      case round =>
        clear HT
        obtain ⟨j, rfl, hj, rfl, rfl, HTi⟩ := hrel
        have x0 : wr.cell? ⟨bx, 0, none⟩ = some (.slice (some ad) rows.length c) := by rw [blk_cell ((HTi.out.bel.block _ HS1.out).trans HX1.out)]; rfl
        have cw := pw_cell_below HTi.out.bel HCW.out
        have hsl := refS_len row j hj
        by_cases hlj : j < row.length
        · have dl2 : decide ((j : Int) < (row.length : Int)) = true := decide_eq_true (by omega)
          have hj0 : (0 : Int) ≤ (j : Int) := by omega
          have hj1 : (j : Int) < (row.length : Int) := by omega
          obtain ⟨ad2, rfl, dw, dm⟩ := at_T47 (Kd.C_below HCr.out HTi.out.bel) (j : Int) (by omega) (by omega)
          rw [rd47 row j hlj, Int.toNat_natCast] at dw dm
          have HX : Hid (refS (row.take (j + 1)) = refC (refS (row.take j)) row[j]) := Lib.hid (refS_take row j hlj)
          generalize row[j] = x at dw dm HX
          obtain ⟨x0_, x1_⟩ := x
          dsimp only at dw dm
          generalize refS (row.take j) = st at HX hsl ⊢
          obtain ⟨s, b⟩ := st
          simp only at hsl ⊢
          have hs1 : (⟨s.toArray⟩ : ByteArray).size = s.length := by show s.toArray.size = _; simp
          have hs2 : (⟨b.toArray⟩ : ByteArray).size = b.length := by show b.toArray.size = _; simp
          by_cases q0 : x0_ = 0 ∨ x0_ = 32
          · have HN : Hid (refS (row.take (j + 1)) = (s, b ++ [32])) := Lib.hid (by rw [HX.out]; unfold refC; rw [if_pos q0])
            rcases q0 with q0 | q0
            · have e0 : (x0_ == 0) = true := by simp [q0]
              clear q0 dm
              go_wp2
              go_roundw
              case rel => first | exact ⟨j + 1, by go_num, by omega, (by rw [HN.out]), (by rw [HN.out]; exact congrArg Value.string (bs_ap b [32])), HTi⟩ | repeat (first | (refine And.intro ?_ rfl; exact ⟨j + 1, by go_num, by omega, (by rw [HN.out]), (by rw [HN.out]; exact congrArg Value.string (bs_ap b [32])), HTi⟩) | apply Exists.intro)
              case measure => simp [intOf]; omega
            · have e0 : (x0_ == 0) = false := by simp [q0]
              have e1 : (x0_ == 32) = true := by simp [q0]
              clear q0 dm
              go_wp2
              go_roundw
              case rel => first | exact ⟨j + 1, by go_num, by omega, (by rw [HN.out]), (by rw [HN.out]; exact congrArg Value.string (bs_ap b [32])), HTi⟩ | repeat (first | (refine And.intro ?_ rfl; exact ⟨j + 1, by go_num, by omega, (by rw [HN.out]), (by rw [HN.out]; exact congrArg Value.string (bs_ap b [32])), HTi⟩) | apply Exists.intro)
              case measure => simp [intOf]; omega
          · have e0 : (x0_ == 0) = false := by simp only [beq_eq_false_iff_ne]; omega
            have e1 : (x0_ == 32) = false := by simp only [beq_eq_false_iff_ne]; omega
            by_cases q1 : x0_ = -1
            · have HN : Hid (refS (row.take (j + 1)) = (s, b)) := Lib.hid (by rw [HX.out]; unfold refC; rw [if_neg q0, if_pos q1])
              have e2 : (x0_ != -1) = false := by simp [q1]
              clear q0 q1 dm
              go_wp2
              go_roundw
              case rel => first | exact ⟨j + 1, by go_num, by omega, (by rw [HN.out]), (by rw [HN.out]), HTi⟩ | repeat (first | (refine And.intro ?_ rfl; exact ⟨j + 1, by go_num, by omega, (by rw [HN.out]), (by rw [HN.out]), HTi⟩) | apply Exists.intro)
              case measure => simp [intOf]; omega
            · have HN : Hid (refS (row.take (j + 1)) = (s ++ b ++ Lib.encodeRune (signN x0_), [])) := Lib.hid (by rw [HX.out]; unfold refC; rw [if_neg q0, if_neg q1])
              have e2 : (x0_ != -1) = true := by simp [q1]
              have hsg := fun W => duetref12_Sign.calls 1 x0_ (signB x0_) W (Sign_f 0 x0_)
              have hsz : (signB x0_).size ≤ 4 := by unfold signB; show (Lib.encodeRune (signN x0_)).toArray.size ≤ 4; rw [List.size_toArray]; exact (enc_len _).2
              have HSB : Hid (signB x0_ = ⟨(Lib.encodeRune (signN x0_)).toArray⟩) := Lib.hid rfl
              generalize signB x0_ = sg at hsg hsz HSB
              clear q0 q1 dm
              go_wp2_with (go_at_call 21; go_loud (refine (hsg _).mono ?_; rintro e w5 ⟨rfl, hB5⟩; have HT5 := Lib.hid (HTi.out.below hB5); clear hB5))
              go_roundw
              case rel => first | exact ⟨j + 1, by go_num, by omega, (by rw [HN.out, HSB.out]; exact congrArg Value.string (by rw [bs_ap, bs_ap])), (by rw [HN.out]), HT5⟩ | repeat (first | (refine And.intro ?_ rfl; exact ⟨j + 1, by go_num, by omega, (by rw [HN.out, HSB.out]; exact congrArg Value.string (by rw [bs_ap, bs_ap])), (by rw [HN.out]), HT5⟩) | apply Exists.intro)
              case measure => simp [intOf]; omega
        · obtain rfl : j = row.length := by omega
          have HT3 := HTi
          have HN : Hid ((⟨(refS (row.take row.length)).1.toArray⟩ : ByteArray) = ⟨(rowT row).toArray⟩) := Lib.hid (by rw [List.take_length, refS_row])
          obtain ⟨str, hstr⟩ : ∃ s : ByteArray, s = ⟨(refS (row.take row.length)).1.toArray⟩ := ⟨_, rfl⟩
          rw [← hstr] at HN ⊢
          have hgo : (strs.length + 1) * 16 ≤ 140737488355328 := by rw [HPL.out]; omega
          have HPN : Hid (pageT (rows.take (k + 1)) = strs ++ [str]) := Lib.hid (by rw [HP.out.1, HN.out])
          clear hstr hsl
          go_wp2_with (at_builtin; go_loud (refine print_append w1.heap.size rfl _ _ 37 9 (.string ByteArray.empty) 16 rfl Tryd.underlying37 info9 rfl (by decide) (.slice A3 strs.length c3) (strs.map Value.string) (.string str) rfl rfl rfl (by rw [List.length_map]; exact HT3.out.row) HT3.out.bel HT3.out.bel.size (by rw [List.length_map]; omega) ?_; intro v1 w7 hown hB7 hgr hat; have HT7 := Lib.hid (HT3.out.push hown hB7); clear hown hB7 hgr hat))
          go_roundw
          case rel => first | exact ⟨k + 1, by go_num, by omega, Lib.hid (by rw [HPN.out]; exact HT7.out)⟩ | repeat (first | (refine And.intro ?_ rfl; exact ⟨k + 1, by go_num, by omega, Lib.hid (by rw [HPN.out]; exact HT7.out)⟩) | apply Exists.intro)
          case measure => simp [intOf]; omega
    · obtain rfl : k = rows.length := by omega
      have hT := HT.out
      rw [List.take_length] at hT
      have HT2 := Lib.hid (ts_up hT HB0.out)
      clear hT HT
      go_wp2
      go_ret
      exact ⟨_, rfl, by show TS w wr (.slice A3 (pageT (rows.take rows.length)).length c3) _; rw [List.take_length]; exact HT2.out⟩
end Go.Proofs.YtoidlaonolkgkaaDoor.Gt
namespace Go.Proofs.YtoidlaonolkgkaaDoor.P
open Go.RowKit Go.Proofs.YtoidlaonolkgkaaDoor.Giv Go.Proofs.YtoidlaonolkgkaaDoor.Ge Go.Proofs.YtoidlaonolkgkaaDoor.Gd Go.Proofs.YtoidlaonolkgkaaDoor.Gc Go.Proofs.YtoidlaonolkgkaaDoor.Gt Go.Proofs.YtoidlaonolkgkaaDoor.Gr Go.Proofs.YtoidlaonolkgkaaDoorW.PrintWords Go.Proofs.YtoidlaonolkgkaaDoorW.PrintLast
/-- The document says of a page what the program says. -/
def duetref21_Text.f (l0 : List (List S47)) (a1 a2 : Int) : Option (List ByteArray) := layout_Text.f l0 a1 a2
theorem duetref21_Text.calls (A0 : Option Addr) (c0 : Nat) (l0 : List (List S47)) (a1 a2 : Int) (r : List ByteArray) (w : World) (hr0 : Kd.C (Kd.slice 47 k47) w A0 l0.length l0) (hc0 : l0.length ≤ c0) (h : duetref21_Text.f l0 a1 a2 = some r) :
    Calls Tryd.prog 15 #[.agg #[.slice A0 l0.length c0, .int .i64 a1, .int .i64 a2]] w fun e w' => ∃ v0_ : Value, e = .returned v0_ ∧ Kd.R Kd.string 9 w' w.heap.size (fun _ => True) v0_ r ∧ Below w.heap.size w w' := by
  unfold duetref21_Text.f layout_Text.f at h
  split at h
  · rename_i hb
    obtain rfl := Option.some.inj h
    refine (rtext_calls A0 c0 l0 a1 a2 w hr0 hb.1 hb.2).mono ?_
    rintro e w' ⟨v, rfl, hT⟩
    exact ⟨v, rfl, strs_R hT, hT.bel⟩
  · cases h
end Go.Proofs.YtoidlaonolkgkaaDoor.P
