/- LayoutPlain's plain law. -/
import Derived.Test.YtoidlaonolkgkaaDoorGp
import Derived.Test.YtoidlaonolkgkaaDoorPx12
set_option linter.unusedVariables false
set_option linter.unusedSimpArgs false
namespace Go.Proofs.YtoidlaonolkgkaaDoor.PurePlain
open Go.RowKit Go.Proofs.YtoidlaonolkgkaaDoor.Giv Go.Proofs.YtoidlaonolkgkaaDoor.Gr Go.Proofs.YtoidlaonolkgkaaDoor.Gl Go.Proofs.YtoidlaonolkgkaaDoor.Gn Go.Proofs.YtoidlaonolkgkaaDoor.Gy Go.Proofs.YtoidlaonolkgkaaDoor.Gz Go.Proofs.YtoidlaonolkgkaaDoor.Gp Go.Proofs.YtoidlaonolkgkaaDoor.Gk Go.Proofs.YtoidlaonolkgkaaDoor.Gb Go.Proofs.YtoidlaonolkgkaaDoorW.PrintWords Go.Proofs.YtoidlaonolkgkaaDoorW.PrintLast Go.Proofs.YtoidlaonolkgkaaDoor.P
/-- The place behind n runes of width 1. -/
def endP (wd : Nat) : Nat → Pos
  | 0 => (0, 0)
  | n + 1 => (n / wd, n % wd + 1)
theorem room_end (wd n : Nat) (h : 2 ≤ wd) : roomP wd (endP wd n) 1 = (n / wd, n % wd) := by
  unfold roomP
  cases n with
  | zero =>
    show (if wd < 0 + 1 then _ else ((0 : Nat), (0 : Nat))) = _
    rw [if_neg (by omega), Nat.zero_div, Nat.zero_mod]
  | succ m =>
    show (if wd < m % wd + 1 + 1 then (m / wd + 1, 0) else (m / wd, m % wd + 1)) = _
    have hm := Nat.div_add_mod m wd
    have hr := Nat.mod_lt m (show wd > 0 by omega)
    split
    · have := (Nat.div_mod_unique (show 0 < wd by omega) (a := m + 1) (d := m / wd + 1) (c := 0)).2 ⟨by rw [Nat.mul_add]; omega, by omega⟩
      rw [this.1, this.2]
    · have := (Nat.div_mod_unique (show 0 < wd by omega) (a := m + 1) (d := m / wd) (c := m % wd + 1)).2 ⟨by omega, by omega⟩
      rw [this.1, this.2]
theorem snoc_of {α : Type} (l : List α) (n : Nat) (h : l.length = n + 1) : ∃ m x, l = m ++ [x] ∧ m.length = n := by
  refine ⟨l.dropLast, l.getLast (by intro e; rw [e] at h; simp at h), (List.dropLast_concat_getLast _).symm, by rw [List.length_dropLast]; omega⟩
theorem plain_run (wd : Nat) (h : 2 ≤ wd) : ∀ (n : Nat) (l : List Int), l.length = n → (∀ x ∈ l, widthN x = 1) → posR wd (0, 0) l = endP wd n ∧ ∀ i k, k < wd → ((runL wd st0 l).G i k).1 = if i * wd + k < n then l.getD (i * wd + k) 0 else 0
  | 0, l, hl, _ => by
    obtain rfl := List.eq_nil_of_length_eq_zero hl
    exact ⟨rfl, fun i k _ => by rw [if_neg (by omega)]; rfl⟩
  | n + 1, l, hl, hw => by
    obtain ⟨m, x, rfl, hm⟩ := snoc_of l n hl
    obtain ⟨ih1, ih2⟩ := plain_run wd h n m hm (fun y hy => hw y (List.mem_append_left _ hy))
    have hx := hw x (by simp)
    have hp := runL_pos wd m st0
    have hp2 : ((runL wd st0 m).row, (runL wd st0 m).col) = endP wd n := hp.trans ih1
    have hR := room_end wd n h
    constructor
    · rw [posR_append, ih1]
      show posL wd (endP wd n) x = _
      unfold posL
      rw [hx, if_neg (by decide)]
      show ((roomP wd (endP wd n) 1).1, (roomP wd (endP wd n) 1).2 + 1) = _
      rw [hR]; rfl
    · intro i k hk
      rw [runL_snoc]
      unfold layL
      rw [hx, if_neg (by decide)]
      show (layG (runL wd st0 m).G (roomP wd ((runL wd st0 m).row, (runL wd st0 m).col) 1).1 (roomP wd ((runL wd st0 m).row, (runL wd st0 m).col) 1).2 x 1 i k).1 = _
      rw [hp2, hR, layG_rune, if_neg (by rintro ⟨h1, _⟩; exact absurd h1 (by decide))]
      have hu := Nat.div_mod_unique (show 0 < wd by omega) (a := n) (d := i) (c := k)
      by_cases he : i = n / wd ∧ k = n % wd
      · have := hu.1 ⟨he.1.symm, he.2.symm⟩
        have e : i * wd + k = n := by rw [Nat.mul_comm]; omega
        rw [if_pos he, e, if_pos (by omega), List.getD_eq_getElem?_getD, List.getElem?_append_right (by omega), hm, Nat.sub_self]; rfl
      · rw [if_neg he, ih2 i k hk]
        have e : i * wd + k ≠ n := fun e => he (by
          have := hu.2 ⟨by rw [Nat.mul_comm] at e; omega, hk⟩
          exact ⟨this.1.symm, this.2.symm⟩)
        by_cases hlt : i * wd + k < n
        · rw [if_pos hlt, if_pos (by omega), List.getD_eq_getElem?_getD, List.getD_eq_getElem?_getD, List.getElem?_append_left (by omega)]
        · rw [if_neg hlt, if_neg (by omega)]
/-- The line. -/
def plainL (n : Nat) : List Int := (List.range n).map fun i => 97 + ((i % 26 : Nat) : Int)
theorem plainL_len (n : Nat) : (plainL n).length = n := by unfold plainL; rw [List.length_map, List.length_range]
theorem plainL_succ (n : Nat) : plainL (n + 1) = plainL n ++ [97 + ((n % 26 : Nat) : Int)] := by unfold plainL; rw [List.range_succ, List.map_append]; rfl
theorem width_letter (k : Nat) (h : k < 26) : widthN (97 + (k : Int)) = 1 := by
  have : ∀ k : Fin 26, widthN (97 + ((k.val : Nat) : Int)) = 1 := by decide
  exact this ⟨k, h⟩
theorem plainL_width (n : Nat) : ∀ x ∈ plainL n, widthN x = 1 := by
  intro x hx
  unfold plainL at hx
  obtain ⟨i, _, rfl⟩ := List.mem_map.1 hx
  exact width_letter _ (Nat.mod_lt _ (by decide))
theorem nextW_plain (l : List Int) (h : ∀ x ∈ l, widthN x = 1) : nextW l = 1 := by
  cases l with
  | nil => rfl
  | cons x l =>
    unfold nextW
    rw [h x (List.mem_cons_self ..), if_pos (by decide)]
/-- What Lay answers. -/
theorem lay_plain (wd n ct : Nat) (h2 : 2 ≤ wd) (h5 : wd ≤ 512) (hn : n ≤ 200) (hc : ct ≤ n) :
    ∃ rows, layout_Lay.f wd [] (plainL n) ct [] = some (rows, ((ct / wd : Nat) : Int), ((ct % wd : Nat) : Int), 0) ∧ ct / wd < rows.length ∧ ∀ i, i < n → ∃ r, rows[i / wd]? = some r ∧ r.length = wd ∧ r[i % wd]? = some ⟨(plainL n).getD i 0, false⟩ := by
  have hcl := closed wd ct [] (plainL n) 0 st0 (0, 0) (by decide)
  obtain ⟨C1, C2, C3, C4, C5⟩ := hcl
  have hfin : finL wd [] (plainL n) ct [] = lineL wd ct [] 0 (st0, (0, 0)) (plainL n) := rfl
  rw [← hfin] at C1 C2 C3 C4 C5
  obtain ⟨P1, P2⟩ := plain_run wd h2 n (plainL n) (plainL_len n) (plainL_width n)
  have hpl : ∀ j, j ≤ n → placeL wd (st0.row, st0.col) (plainL n) j = (j / wd, j % wd) := by
    intro j hj
    unfold placeL
    rw [nextW_plain _ (fun x hx => plainL_width n x (List.mem_of_mem_drop hx))]
    rw [show posR wd (st0.row, st0.col) ((plainL n).take j) = endP wd j from (plain_run wd h2 j _ (by rw [List.length_take, plainL_len]; omega) (fun x hx => plainL_width n x (List.mem_of_mem_take hx))).1]
    exact room_end wd j h2
  have hq : ∀ a, a ≤ 200 → a / wd ≤ 100 := fun a ha => by
    have : a / wd ≤ a / 2 := Nat.div_le_div_left h2 (by decide)
    omega
  have hrow : (finL wd [] (plainL n) ct []).1.row = (endP wd n).1 := by
    rw [show posR wd (st0.row, st0.col) (plainL n) = endP wd n from P1] at C1
    exact congrArg Prod.fst C1
  have hrow2 : (endP wd n).1 ≤ 100 := by
    cases n with
    | zero => exact Nat.zero_le _
    | succ m => exact hq m (by omega)
  have hbig : (finL wd [] (plainL n) ct []).1.n ≤ 200 := by
    rw [C4]
    refine ⟨by decide, by omega, fun j hj h => ?_⟩
    rw [plainL_len] at hj
    rw [hpl j hj]
    have := hq j (by omega)
    show j / wd + 1 ≤ 200
    omega
  have hself := (C4 _).1 (Nat.le_refl _)
  have hsp : (finL wd [] (plainL n) ct []).2 = (ct / wd, ct % wd) := by
    rw [C5, plainL_len, if_pos (by omega), show ((ct : Int) - ((0 : Nat) : Int)).toNat = ct by omega, hpl ct hc]
  refine ⟨gridL wd (finL wd [] (plainL n) ct []).1.n (finL wd [] (plainL n) ct []).1.G, ?_, ?_, fun i hi => ?_⟩
  · unfold layout_Lay.f
    rw [if_neg (by unfold badArgs; rw [plainL_len]; simp; omega), Int.toNat_natCast, if_neg (by omega), hsp]
  · rw [gridL_len]
    have := hself.2.2 ct (by rw [plainL_len]; exact hc) (.inr (by omega))
    rw [hpl ct hc] at this
    exact this
  · have hir : i / wd < (finL wd [] (plainL n) ct []).1.n := by
      have h1 : i / wd ≤ (n - 1) / wd := Nat.div_le_div_right (by omega)
      obtain ⟨m, rfl⟩ : ∃ m, n = m + 1 := ⟨n - 1, by omega⟩
      have h3 : (endP wd (m + 1)).1 = m / wd := rfl
      rw [Nat.add_sub_cancel] at h1
      omega
    have hkw := Nat.mod_lt i (show wd > 0 by omega)
    refine ⟨_, gridL_get wd _ _ _ hir, rowS_len _ _, ?_⟩
    rw [rowS_get _ _ _ hkw]
    have hmk : ((finL wd [] (plainL n) ct []).1.G (i / wd) (i % wd)).2 = false := by
      cases hb : ((finL wd [] (plainL n) ct []).1.G (i / wd) (i % wd)).2 with
      | false => rfl
      | true =>
        rcases (C3 _ _).1 hb with q | ⟨j, _, q, _⟩
        · cases q
        · cases q
    have hd := Nat.div_add_mod i wd
    rw [hmk, C2, P2 _ _ hkw, show i / wd * wd + i % wd = i by rw [Nat.mul_comm]; exact hd, if_pos hi]
theorem wrap_small (k : Nat) (h : k ≤ 1000000) : wrap64 ((k : Nat) : Int) = (k : Int) := by unfold wrap64; omega
theorem l1_ok (wd n : Nat) (h2 : 2 ≤ wd) (h5 : wd ≤ 512) (hn : n ≤ 200) (rows : List (List S47)) (R C : Int) (hr : ∀ i, i < n → ∃ r, rows[i / wd]? = some r ∧ r.length = wd ∧ r[i % wd]? = some ⟨(plainL n).getD i 0, false⟩) :
    ∀ m i, i + m = n → duetlaw21_LayoutPlain.l1 (m + 1) wd n (plainL n) i rows R C = some true
  | 0, i, h => by
    unfold duetlaw21_LayoutPlain.l1
    rw [if_neg (by omega)]
    rfl
  | m + 1, i, h => by
    unfold duetlaw21_LayoutPlain.l1
    obtain ⟨r, hr1, hr2, hr3⟩ := hr i (by omega)
    have hd : i / wd ≤ i := Nat.div_le_self _ _
    have e1 : wrap64 (Int.tdiv (i : Int) (wd : Int)) = ((i / wd : Nat) : Int) := by rw [← Int.ofNat_tdiv, wrap_small _ (by omega)]
    have e2 : Int.tmod (i : Int) (wd : Int) = ((i % wd : Nat) : Int) := by rw [← Int.ofNat_tmod]
    have hkw := Nat.mod_lt i (show wd > 0 by omega)
    have hlt : i / wd < rows.length := (List.getElem?_eq_some_iff.1 hr1).1
    have e3 : rd_L6 rows ((i / wd : Nat) : Int) = r := by unfold rd_L6; rw [Int.toNat_natCast, List.getD_eq_getElem?_getD, hr1]; rfl
    have e4 : rd_T47 r ((i % wd : Nat) : Int) = ⟨(plainL n).getD i 0, false⟩ := by unfold rd_T47; rw [Int.toNat_natCast, List.getD_eq_getElem?_getD, hr3]; rfl
    have e5 : rd (plainL n) (i : Int) = (plainL n).getD i 0 := by unfold rd; rw [Int.toNat_natCast]
    rw [e1, e2, e3, e4, e5, hr2, plainL_len]
    clear e1 e2 e3 e4 e5 hr1 hr3
    generalize i / wd = q at *
    generalize i % wd = z at *
    rw [if_pos (by omega), if_neg (by omega), if_pos (by omega), if_pos (by omega), if_pos (by omega), if_pos (by omega), if_pos (by omega), if_pos (by omega), if_neg (by simp)]
    rw [show wrap64 ((i : Int) + 1) = ((i + 1 : Nat) : Int) by unfold wrap64; omega]
    exact l1_ok wd n h2 h5 hn rows R C hr m (i + 1) (by omega)
theorem l0_ok (wd n ct : Nat) (h2 : 2 ≤ wd) (h5 : wd ≤ 512) (hn : n ≤ 200) (hc : ct ≤ n) :
    ∀ m i, i + m = n → duetlaw21_LayoutPlain.l0 (m + n + 3) wd n ct (plainL i) i = some true
  | 0, i, h => by
    obtain rfl : i = n := by omega
    rw [Nat.zero_add]
    unfold duetlaw21_LayoutPlain.l0
    rw [if_neg (by omega)]
    obtain ⟨rows, hl, hr, hrow⟩ := lay_plain wd i ct h2 h5 hn hc
    rw [hl]
    have hd : ct / wd ≤ ct := Nat.div_le_self _ _
    have e1 : wrap64 (Int.tdiv (ct : Int) (wd : Int)) = ((ct / wd : Nat) : Int) := by rw [← Int.ofNat_tdiv, wrap_small _ (by omega)]
    have e2 : Int.tmod (ct : Int) (wd : Int) = ((ct % wd : Nat) : Int) := by rw [← Int.ofNat_tmod]
    simp only [Option.bind_some]
    rw [if_pos trivial, e1, e2, if_neg (by omega), if_pos rfl, if_pos rfl]
    unfold duetlaw21_LayoutPlain.j2
    dsimp only
    rw [if_neg (by simp; omega)]
    exact l1_ok wd i h2 h5 hn rows _ _ hrow i 0 (by omega)
  | m + 1, i, h => by
    rw [show m + 1 + n + 3 = m + n + 3 + 1 by omega]
    unfold duetlaw21_LayoutPlain.l0
    have hm26 := Nat.mod_lt i (show 26 > 0 by decide)
    have e0 : wrap64 (97 + Int.tmod (i : Int) 26) = 97 + ((i % 26 : Nat) : Int) := by
      have : Int.tmod (i : Int) 26 = ((i % 26 : Nat) : Int) := (Int.ofNat_tmod i 26).symm
      rw [this]; unfold wrap64; omega
    rw [if_pos (by omega), plainL_len, if_pos (by omega), e0, ← plainL_succ, show wrap64 ((i : Int) + 1) = ((i + 1 : Nat) : Int) by unfold wrap64; omega]
    exact l0_ok wd n ct h2 h5 hn hc m (i + 1) (by omega)
theorem pure (a0 a1 a2 : Int) : ∃ k, duetlaw21_LayoutPlain.f k a0 a1 a2 = some true := by
  have hlive : ∀ b, b = true → duetlaw21_LayoutPlain.j0 1 a0 a1 a2 b = some true := by
    rintro b rfl; rfl
  by_cases g0 : a0 < 2
  · exact ⟨1, by unfold duetlaw21_LayoutPlain.f; rw [if_pos g0]; exact hlive _ rfl⟩
  by_cases g1 : a0 > 512
  · exact ⟨1, by unfold duetlaw21_LayoutPlain.f; rw [if_neg g0, if_pos g1]; exact hlive _ rfl⟩
  by_cases g2 : a1 < 0
  · exact ⟨1, by unfold duetlaw21_LayoutPlain.f; rw [if_neg g0, if_neg g1, if_pos g2]; exact hlive _ rfl⟩
  by_cases g3 : a1 > 200
  · exact ⟨1, by unfold duetlaw21_LayoutPlain.f; rw [if_neg g0, if_neg g1, if_neg g2, if_pos g3]; exact hlive _ rfl⟩
  by_cases g4 : a2 < 0
  · exact ⟨1, by unfold duetlaw21_LayoutPlain.f; rw [if_neg g0, if_neg g1, if_neg g2, if_neg g3, if_pos g4]; exact hlive _ rfl⟩
  by_cases g5 : a2 > a1
  · exact ⟨1, by unfold duetlaw21_LayoutPlain.f; rw [if_neg g0, if_neg g1, if_neg g2, if_neg g3, if_neg g4]; exact hlive _ (decide_eq_true g5)⟩
  obtain ⟨wd, rfl⟩ : ∃ k : Nat, a0 = k := ⟨a0.toNat, by omega⟩
  obtain ⟨n, rfl⟩ : ∃ k : Nat, a1 = k := ⟨a1.toNat, by omega⟩
  obtain ⟨ct, rfl⟩ : ∃ k : Nat, a2 = k := ⟨a2.toNat, by omega⟩
  refine ⟨n + n + 3 + 1, ?_⟩
  unfold duetlaw21_LayoutPlain.f
  rw [if_neg g0, if_neg g1, if_neg g2, if_neg g3, if_neg g4, decide_eq_false g5]
  rw [duetlaw21_LayoutPlain.j0, if_neg (by decide)]
  exact l0_ok wd n ct (by omega) (by omega) (by omega) (by omega) n 0 (by omega)
theorem law (a0 a1 a2 : Int) (W : World) (hL : Laid W) : Calls Tryd.prog 6 #[.int .i64 a0, .int .i64 a1, .int .i64 a2] W fun e w' => e = .returned (.bool true) ∧ Below W.heap.size W w' := by
  obtain ⟨k, h⟩ := pure a0 a1 a2
  exact duetlaw21_LayoutPlain.calls k a0 a1 a2 true W hL h
end Go.Proofs.YtoidlaonolkgkaaDoor.PurePlain
