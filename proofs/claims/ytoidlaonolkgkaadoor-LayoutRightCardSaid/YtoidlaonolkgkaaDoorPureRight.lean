/- LayoutRight's plain law. -/
import Derived.Test.YtoidlaonolkgkaaDoorGq
import Derived.Test.YtoidlaonolkgkaaDoorLem
import Derived.Test.YtoidlaonolkgkaaDoorPx11
set_option linter.unusedVariables false
set_option linter.unusedSimpArgs false
namespace Go.Proofs.YtoidlaonolkgkaaDoor.PureRight
open Go.RowKit Go.Proofs.YtoidlaonolkgkaaDoor.Giv Go.Proofs.YtoidlaonolkgkaaDoor.Gr Go.Proofs.YtoidlaonolkgkaaDoor.Gl Go.Proofs.YtoidlaonolkgkaaDoor.Gn Go.Proofs.YtoidlaonolkgkaaDoor.Gy Go.Proofs.YtoidlaonolkgkaaDoor.Gz Go.Proofs.YtoidlaonolkgkaaDoor.Gp Go.Proofs.YtoidlaonolkgkaaDoor.Gk Go.Proofs.YtoidlaonolkgkaaDoor.Gb Go.Proofs.YtoidlaonolkgkaaDoor.Gc Go.Proofs.YtoidlaonolkgkaaDoor.Gd Go.Proofs.YtoidlaonolkgkaaDoor.Gq Go.Proofs.YtoidlaonolkgkaaDoorW.PrintWords Go.Proofs.YtoidlaonolkgkaaDoorW.PrintLast Go.Proofs.YtoidlaonolkgkaaDoor.P
open Go.Proofs.YtoidlaonolkgkaaDoor.Lem (totalN refTotal_f total_append total_range)
/-- A cell that is not empty. -/
def cntF (c : S47) : List Unit := if c.f0 = 0 then [] else [()]
def cnt (rows : List (List S47)) : Nat := (rows.flatMap fun r => r.flatMap cntF).length
theorem cnt_len (r : List S47) : (r.flatMap cntF).length ≤ r.length := by
  induction r with
  | nil => simp
  | cons c r ih =>
    rw [List.flatMap_cons, List.length_append, List.length_cons]
    have : (cntF c).length ≤ 1 := by unfold cntF; split <;> simp
    omega
theorem cnt_rune (x : Int) : ((tellR cntF x).length : Int) = widthN x := by
  have hw := width_le x
  unfold tellR cellsR
  by_cases h0 : widthN x = 0
  · rw [if_pos h0, h0]; rfl
  · have hx : x ≠ 0 := fun e => by rw [e, width_zero] at h0; exact h0 rfl
    rw [if_neg h0]
    by_cases h2 : widthN x = 2
    · rw [if_pos h2, h2]; simp [cntF, hx]
    · rw [if_neg h2, show widthN x = 1 by omega]; simp [cntF, hx]
theorem cnt_runes (l : List Int) : ((l.flatMap (tellR cntF)).length : Int) = totalN l := by
  induction l with
  | nil => rfl
  | cons x l ih =>
    have := cnt_rune x
    rw [List.flatMap_cons, List.length_append]
    unfold totalN
    omega
theorem posL_col (width : Nat) (h2 : 2 ≤ width) (a : Pos) (x : Int) (h : a.2 ≤ width) : (posL width a x).2 ≤ width := by
  unfold posL
  have hw := width_le x
  split
  · exact h
  · exact (room_le width a _ h2 h (by omega)).1
theorem posR_col (width : Nat) (h2 : 2 ≤ width) (l : List Int) : ∀ a : Pos, a.2 ≤ width → (posR width a l).2 ≤ width := by
  induction l with
  | nil => intro a h; exact h
  | cons x l ih => intro a h; exact ih _ (posL_col width h2 a x h)
theorem run_n (width : Nat) (l : List Int) : ∀ s : LS, s.row < s.n → (runL width s l).row < (runL width s l).n := by
  induction l with
  | nil => intro s h; exact h
  | cons x l ih =>
    intro s h
    rw [runL_cons]
    exact ih _ (by have := layL_n width s x h; omega)
/-- What is known of a page that Lay answers. -/
structure Laid2 (wd ct : Nat) (ps ls os : List Int) (fin : LS × Pos) : Prop where
  row : fin.2.1 < fin.1.n
  col : fin.2.2 < wd
theorem laid2 (wd ct : Nat) (h2 : 2 ≤ wd) (ps ls os : List Int) (hc : ct ≤ ls.length) : Laid2 wd ct ps ls os (finL wd ps ls ct os) := by
  obtain ⟨C1, C2, C3, C4, C5⟩ := closed wd ct os ls 0 (runL wd st0 ps) (0, 0) (run_n wd ps st0 (by decide))
  have hfin : finL wd ps ls ct os = lineL wd ct os 0 (runL wd st0 ps, (0, 0)) ls := rfl
  rw [← hfin] at C1 C2 C3 C4 C5
  rw [if_pos (by omega), show ((ct : Int) - ((0 : Nat) : Int)).toNat = ct by omega] at C5
  have h4 := ((C4 _).1 (Nat.le_refl _)).2.2 ct hc (.inr (by omega))
  have hcol : ((runL wd st0 ps).row, (runL wd st0 ps).col).2 ≤ wd := by
    rw [runL_pos]; exact posR_col wd h2 ps _ (Nat.zero_le _)
  have hw := nextW_range (ls.drop ct)
  have hrm := room_le wd (posR wd ((runL wd st0 ps).row, (runL wd st0 ps).col) (ls.take ct)) (nextW (ls.drop ct)).toNat h2 (posR_col wd h2 _ _ hcol) (by omega)
  rw [← C5] at h4
  refine ⟨h4, ?_⟩
  rw [C5]
  show (roomP wd (posR wd ((runL wd st0 ps).row, (runL wd st0 ps).col) (ls.take ct)) (nextW (ls.drop ct)).toNat).2 < wd
  omega
theorem check_laid (wd ct : Nat) (h2 : 2 ≤ wd) (h5 : wd ≤ 512) (ps ls os : List Int) (hc : ct ≤ ls.length) (hn : (finL wd ps ls ct os).1.n ≤ 200) :
    layout_Check.f (gridL wd (finL wd ps ls ct os).1.n (finL wd ps ls ct os).1.G) ((finL wd ps ls ct os).2.1 : Int) ((finL wd ps ls ct os).2.2 : Int) wd = some 0 := by
  obtain ⟨h3, h4⟩ := laid2 wd ct h2 ps ls os hc
  have hlen : ∀ r ∈ gridL wd (finL wd ps ls ct os).1.n (finL wd ps ls ct os).1.G, ∃ i, r = rowS wd ((finL wd ps ls ct os).1.G i) := by
    intro r hr
    unfold gridL at hr
    obtain ⟨i, _, rfl⟩ := List.mem_map.1 hr
    exact ⟨i, rfl⟩
  unfold layout_Check.f
  rw [if_pos ⟨by rw [gridL_len]; omega, fun r hr => by obtain ⟨i, rfl⟩ := hlen r hr; rw [rowS_len]; omega⟩]
  unfold checkN
  rw [if_neg (by unfold checkBad; rw [gridL_len]; omega), if_pos]
  unfold rowsOK
  rw [List.all_eq_true]
  intro r hr
  obtain ⟨i, rfl⟩ := hlen r hr
  unfold rowOK
  rw [rowS_len]
  have := rows_ok wd h2 ps ls ct os i
  rw [show (finL wd ps ls ct os) = lineL wd ct os 0 (runL wd st0 ps, (0, 0)) ls from rfl, this]
  simp
section
variable (wd : Nat) (ps ls os : List Int) (a : Int) (ct : Int) (rows : List (List S47)) (R C : Int)
theorem l1_ok (hw : ∀ r ∈ rows, r.length = wd) (hl : rows.length ≤ 200) (h5 : wd ≤ 512) (i : Nat) (r : List S47) (hr : rows[i]? = some r) (K : Nat) :
    ∀ m j c, j + m = wd → c + m ≤ 1000000 → duetlaw21_LayoutRight.l1 (m + 1 + K) ((c : Nat) : Int) i ((j : Nat) : Int) a ps ls ct os rows R C = duetlaw21_LayoutRight.l0 K (((c + ((r.drop j).flatMap cntF).length : Nat)) : Int) ((i + 1 : Nat) : Int) a ps ls ct os rows R C
  | 0, j, c, h, hcb => by
    have hi := (List.getElem?_eq_some_iff.1 hr).1
    have hrl := hw r (List.mem_of_getElem? hr)
    have e : rd_L6 rows ((i : Nat) : Int) = r := by unfold rd_L6; rw [Int.toNat_natCast, List.getD_eq_getElem?_getD, hr]; rfl
    rw [show 0 + 1 + K = K + 1 by omega, duetlaw21_LayoutRight.l1, e, hrl, if_pos (by omega), if_pos (by omega), if_neg (by omega), List.drop_eq_nil_of_le (by omega)]
    rw [show wrap64 ((i : Int) + 1) = ((i + 1 : Nat) : Int) by unfold wrap64; omega]
    simp
  | m + 1, j, c, h, hcb => by
    have hi := (List.getElem?_eq_some_iff.1 hr).1
    have hrl := hw r (List.mem_of_getElem? hr)
    have e : rd_L6 rows ((i : Nat) : Int) = r := by unfold rd_L6; rw [Int.toNat_natCast, List.getD_eq_getElem?_getD, hr]; rfl
    have hj : j < r.length := by omega
    have e2 : rd_T47 r ((j : Nat) : Int) = r[j] := rd47 r j hj
    rw [show m + 1 + 1 + K = (m + 1 + K) + 1 by omega, duetlaw21_LayoutRight.l1, e, hrl, if_pos (by omega), if_pos (by omega), if_pos (by omega), if_pos (by omega), e2, List.drop_eq_getElem_cons hj, List.flatMap_cons, List.length_append]
    rw [show wrap64 ((j : Int) + 1) = ((j + 1 : Nat) : Int) by unfold wrap64; omega]
    unfold cntF
    by_cases hz : r[j].f0 = 0
    · rw [if_pos hz, if_pos hz, l1_ok hw hl h5 i r hr K m (j + 1) c (by omega) (by omega)]
      unfold cntF; simp
    · rw [if_neg hz, if_neg hz, show wrap64 ((c : Int) + 1) = ((c + 1 : Nat) : Int) by unfold wrap64; omega]
      rw [l1_ok hw hl h5 i r hr K m (j + 1) (c + 1) (by omega) (by omega)]
      unfold cntF
      congr 2
      simp; omega
theorem l0_ok (hw : ∀ r ∈ rows, r.length = wd) (hl : rows.length ≤ 200) (h5 : wd ≤ 512) (K : Nat) (hp : ps.length ≤ 1000) (hq : ls.length ≤ 1000) (hK : 2000 < K) (hcnt : ((cnt rows : Nat) : Int) = totalN (ps ++ ls)) :
    ∀ m i c, i + m = rows.length → c ≤ i * 512 → c + ((rows.drop i).flatMap fun r => r.flatMap cntF).length = cnt rows → duetlaw21_LayoutRight.l0 (m * (wd + 2) + K + 1) ((c : Nat) : Int) ((i : Nat) : Int) a ps ls ct os rows R C = some true
  | 0, i, c, h, hcb, hc => by
    rw [List.drop_eq_nil_of_le (by omega)] at hc
    rw [show 0 * (wd + 2) + K + 1 = K + 1 by omega, duetlaw21_LayoutRight.l0, if_neg (by omega), refTotal_f ps (by omega) K (by omega), refTotal_f ls (by omega) K (by omega), Option.bind_some, Option.bind_some]
    have h1 := total_range ps
    have h2 := total_range ls
    rw [total_append] at hcnt
    have hc2 : c = cnt rows := by simpa using hc
    rw [if_pos (by rw [hc2, hcnt]; unfold wrap64; omega)]
    rfl
  | m + 1, i, c, h, hcb, hc => by
    have hi : i < rows.length := by omega
    have hr := List.getElem?_eq_getElem hi
    rw [List.drop_eq_getElem_cons hi, List.flatMap_cons, List.length_append] at hc
    have hcl := cnt_len rows[i]
    have hrl := hw _ (List.getElem_mem hi)
    rw [show (m + 1) * (wd + 2) + K + 1 = (wd + 1 + (m * (wd + 2) + K + 1)) + 1 by rw [Nat.add_mul]; omega, duetlaw21_LayoutRight.l0, if_pos (by omega)]
    have h1 := l1_ok wd ps ls os a ct rows R C hw hl h5 i rows[i] hr (m * (wd + 2) + K + 1) wd 0 c (by omega) (by omega)
    rw [List.drop_zero] at h1
    rw [show (0 : Int) = ((0 : Nat) : Int) from rfl, h1]
    exact l0_ok hw hl h5 K hp hq hK hcnt m (i + 1) _ (by omega) (by omega) (by omega)
end
theorem pure (a0 : Int) (l1 l2 : List Int) (a3 : Int) (l4 : List Int) : ∃ k, duetlaw21_LayoutRight.f k a0 l1 l2 a3 l4 = some true := by
  have hlive : ∀ b, b = true → duetlaw21_LayoutRight.j0 1 b a0 l1 l2 a3 l4 = some true := by
    rintro b rfl; rfl
  by_cases g0 : (l1.length : Int) > 200
  · exact ⟨1, by unfold duetlaw21_LayoutRight.f; rw [if_pos g0]; exact hlive _ rfl⟩
  by_cases g1 : (l2.length : Int) > 1000
  · exact ⟨1, by unfold duetlaw21_LayoutRight.f; rw [if_neg g0, if_pos g1]; exact hlive _ rfl⟩
  by_cases g2 : (l4.length : Int) > 20
  · exact ⟨1, by unfold duetlaw21_LayoutRight.f; rw [if_neg g0, if_neg g1]; exact hlive _ (decide_eq_true g2)⟩
  by_cases hb : badArgs a0 a3 l1.length l2.length l4.length
  · refine ⟨1, ?_⟩
    unfold duetlaw21_LayoutRight.f
    rw [if_neg g0, if_neg g1, decide_eq_false g2, duetlaw21_LayoutRight.j0, if_neg (by decide)]
    unfold layout_Lay.f
    rw [if_pos hb]
    rfl
  by_cases hn : 200 < (finL a0.toNat l1 l2 a3 l4).1.n
  · refine ⟨1, ?_⟩
    unfold duetlaw21_LayoutRight.f
    rw [if_neg g0, if_neg g1, decide_eq_false g2, duetlaw21_LayoutRight.j0, if_neg (by decide)]
    unfold layout_Lay.f
    rw [if_neg hb, if_pos hn]
    rfl
  have hl : layout_Lay.f a0 l1 l2 a3 l4 = some (gridL a0.toNat (finL a0.toNat l1 l2 a3 l4).1.n (finL a0.toNat l1 l2 a3 l4).1.G, ((finL a0.toNat l1 l2 a3 l4).2.1 : Int), ((finL a0.toNat l1 l2 a3 l4).2.2 : Int), 0) := by
    unfold layout_Lay.f
    rw [if_neg hb, if_neg hn]
  unfold badArgs at hb
  obtain ⟨wd, rfl⟩ : ∃ k : Nat, a0 = k := ⟨a0.toNat, by omega⟩
  obtain ⟨ct, rfl⟩ : ∃ k : Nat, a3 = k := ⟨a3.toNat, by omega⟩
  rw [Int.toNat_natCast] at hl hn
  have hck := check_laid wd ct (by omega) (by omega) l1 l2 l4 (by omega) (by omega)
  have hcnt : ((cnt (gridL wd (finL wd l1 l2 ct l4).1.n (finL wd l1 l2 ct l4).1.G) : Nat) : Int) = totalN (l1 ++ l2) := by
    rw [← cnt_runes]
    unfold cnt
    rw [show (finL wd l1 l2 ct l4) = lineL wd ct l4 0 (runL wd st0 l1, (0, 0)) l2 from rfl, tell_page cntF (fun m => rfl) (fun x m => rfl) wd (by omega)]
  have hrows : ∀ r ∈ gridL wd (finL wd l1 l2 ct l4).1.n (finL wd l1 l2 ct l4).1.G, r.length = wd := by
    intro r hr
    unfold gridL at hr
    obtain ⟨i, _, rfl⟩ := List.mem_map.1 hr
    exact rowS_len _ _
  have hglen := gridL_len wd (finL wd l1 l2 ct l4).1.n (finL wd l1 l2 ct l4).1.G
  generalize gridL wd (finL wd l1 l2 ct l4).1.n (finL wd l1 l2 ct l4).1.G = rows at *
  refine ⟨rows.length * (wd + 2) + 3000 + 1 + 1, ?_⟩
  unfold duetlaw21_LayoutRight.f
  rw [if_neg g0, if_neg g1, decide_eq_false g2, duetlaw21_LayoutRight.j0, if_neg (by decide), hl]
  simp only [Option.bind_some]
  rw [if_pos trivial, hck, Option.bind_some, if_pos rfl]
  exact l0_ok wd l1 l2 l4 wd ct rows _ _ hrows (by omega) (by omega) 3000 (by omega) (by omega) (by omega) hcnt rows.length 0 0 (by omega) (by omega) (by simp [cnt])
theorem law (a0 : Int) (A1 : Option Addr) (c1 : Nat) (l1 : List Int) (A2 : Option Addr) (c2 : Nat) (l2 : List Int) (a3 : Int) (A4 : Option Addr) (c4 : Nat) (l4 : List Int) (w : World) (hL : Laid w) (hr1 : Kd.C (Kd.int .i64) w A1 l1.length l1) (hc1 : l1.length ≤ c1) (hr2 : Kd.C (Kd.int .i64) w A2 l2.length l2) (hc2 : l2.length ≤ c2) (hr4 : Kd.C (Kd.int .i64) w A4 l4.length l4) (hc4 : l4.length ≤ c4) :
    Calls Tryd.prog 5 #[.agg #[.int .i64 a0, .slice A1 l1.length c1, .slice A2 l2.length c2, .int .i64 a3, .slice A4 l4.length c4]] w fun e w' => e = .returned (.bool true) ∧ Below w.heap.size w w' := by
  obtain ⟨k, h⟩ := pure a0 l1 l2 a3 l4
  exact duetlaw21_LayoutRight.calls k a0 A1 c1 l1 A2 c2 l2 a3 A4 c4 l4 true w hL hr1 hc1 hr2 hc2 hr4 hc4 h
end Go.Proofs.YtoidlaonolkgkaaDoor.PureRight
