/- LayoutSays' plain law. -/
import Derived.Test.YtoidlaonolkgkaaDoorGq
import Derived.Test.YtoidlaonolkgkaaDoorGs
import Derived.Test.YtoidlaonolkgkaaDoorLem
import Derived.Test.YtoidlaonolkgkaaDoorPx13
set_option linter.unusedVariables false
set_option linter.unusedSimpArgs false
namespace Go.Proofs.YtoidlaonolkgkaaDoor.PureSays
open Go.RowKit Go.Proofs.YtoidlaonolkgkaaDoor.Giv Go.Proofs.YtoidlaonolkgkaaDoor.Gr Go.Proofs.YtoidlaonolkgkaaDoor.Gl Go.Proofs.YtoidlaonolkgkaaDoor.Gn Go.Proofs.YtoidlaonolkgkaaDoor.Gy Go.Proofs.YtoidlaonolkgkaaDoor.Gz Go.Proofs.YtoidlaonolkgkaaDoor.Gp Go.Proofs.YtoidlaonolkgkaaDoor.Gk Go.Proofs.YtoidlaonolkgkaaDoor.Gb Go.Proofs.YtoidlaonolkgkaaDoor.Gc Go.Proofs.YtoidlaonolkgkaaDoor.Gd Go.Proofs.YtoidlaonolkgkaaDoor.Ge Go.Proofs.YtoidlaonolkgkaaDoor.Gf Go.Proofs.YtoidlaonolkgkaaDoor.Gq Go.Proofs.YtoidlaonolkgkaaDoor.Gs Go.Proofs.YtoidlaonolkgkaaDoorW.PrintWords Go.Proofs.YtoidlaonolkgkaaDoorW.PrintLast Go.Proofs.YtoidlaonolkgkaaDoor.P
open Go.Proofs.YtoidlaonolkgkaaDoor.Lem (refWidth_f)
/-- A cell's bytes but blanks. -/
def sayF (c : S47) : List UInt8 := (cellB c).filter (· != 32)
/-- What is wanted of a rune. -/
def wantR (x : Int) : List UInt8 := if 0 < widthN x ∧ x ≠ 32 then Lib.encodeRune (signN x) else []
theorem say_zero (m : Bool) : sayF ⟨0, m⟩ = [] := by
  unfold sayF cellB
  rw [if_neg (show ¬ ((0 : Int) = -1) by decide), if_pos rfl]
  rfl
theorem say_half (m : Bool) : sayF ⟨-1, m⟩ = [] := by
  unfold sayF cellB
  rw [if_pos rfl]; rfl
theorem width_32 : widthN 32 = 1 := by decide
theorem sign_32 (x : Int) (h : widthN x ≠ 0) : signN x = x := by
  unfold widthN at h
  unfold signN
  split at h
  · exact absurd rfl h
  · rename_i hn
    rw [if_pos ⟨by omega, by omega⟩]
theorem say_rune (x : Int) : tellR sayF x = wantR x := by
  have hw := width_le x
  unfold tellR wantR
  by_cases h0 : widthN x = 0
  · rw [if_pos h0, if_neg (by omega)]
  · have hx : x ≠ 0 := fun e => by rw [e, width_zero] at h0; exact h0 rfl
    have hx1 : x ≠ -1 := fun e => by rw [e, width_half] at h0; exact h0 rfl
    have hs : sayF ⟨x, false⟩ = if x = 32 then [] else Lib.encodeRune (signN x) := by
      unfold sayF cellB
      rw [if_neg hx1, if_neg hx, enc_filter, sign_32 x h0]
    have hc : (cellsR x false).flatMap sayF = sayF ⟨x, false⟩ := by
      unfold cellsR
      split
      · rw [List.flatMap_cons, List.flatMap_cons, List.flatMap_nil, say_half]; simp
      · rw [List.flatMap_cons, List.flatMap_nil, List.append_nil]
    rw [if_neg h0, hc, hs]
    by_cases h32 : x = 32
    · rw [if_pos h32, if_neg (fun h => h.2 h32)]
    · rw [if_neg h32, if_pos ⟨by omega, h32⟩]
theorem filter_trim (l : List UInt8) : (trimR l).filter (· != 32) = l.filter (· != 32) := by
  have : ∀ n (l : List UInt8), l.length = n → (trimR l).filter (· != 32) = l.filter (· != 32) := by
    intro n
    induction n with
    | zero => intro l h; obtain rfl := List.eq_nil_of_length_eq_zero h; rfl
    | succ n ih =>
      intro l h
      obtain ⟨m, x, rfl, hm⟩ : ∃ m x, l = m ++ [x] ∧ m.length = n := ⟨l.dropLast, l.getLast (by intro e; rw [e] at h; simp at h), (List.dropLast_concat_getLast _).symm, by rw [List.length_dropLast]; omega⟩
      by_cases hx : x = 32
      · subst hx
        rw [trimR_blank, ih m hm, List.filter_append]
        simp
      · rw [trimR_other m x hx]
  exact this _ l rfl
theorem filter_flat {α : Type} (f : α → List UInt8) (l : List α) : (l.flatMap f).filter (· != 32) = l.flatMap fun x => (f x).filter (· != 32) := by
  induction l with
  | nil => rfl
  | cons x l ih => rw [List.flatMap_cons, List.filter_append, ih, List.flatMap_cons]
theorem row_says (r : List S47) : (rowT r).filter (· != 32) = r.flatMap sayF := by
  unfold rowT rowB
  rw [filter_trim, filter_flat]; rfl
/-- The bytes of texts that are no blanks. -/
def gotL (ts : List ByteArray) : List UInt8 := ts.flatMap fun t => t.data.toList.filter (· != 32)
theorem page_says (rows : List (List S47)) : gotL (pageT rows) = rows.flatMap fun r => r.flatMap sayF := by
  unfold gotL pageT
  rw [List.flatMap_map]
  congr 1
  funext r
  rw [← row_says]
theorem want_len (l : List Int) : (l.flatMap wantR).length ≤ 4 * l.length := by
  induction l with
  | nil => simp
  | cons x l ih =>
    rw [List.flatMap_cons, List.length_append, List.length_cons]
    have : (wantR x).length ≤ 4 := by unfold wantR; split; exact (enc_len _).2; simp
    omega
def bs (l : List UInt8) : ByteArray := ⟨l.toArray⟩
theorem bs_size (l : List UInt8) : (bs l).size = l.length := by unfold bs; show l.toArray.size = l.length; simp
theorem bs_app (l m : List UInt8) : bs l ++ bs m = bs (l ++ m) := by
  unfold bs
  apply ByteArray.ext
  rw [ByteArray.data_append]
  simp
section
variable (rows : List (List S47)) (R C : Int)
theorem l2_ok (want : ByteArray) (ts : List ByteArray) (i : Nat) (t : List UInt8) (ht : ts[i]? = some (bs t)) (hl : ts.length ≤ 200) (hb : t.length ≤ 10000) (K : Nat) :
    ∀ m j (got : List UInt8), j + m = t.length → got.length + m ≤ 10000000 → duetlaw21_LayoutSays.l2 (m + 1 + K) want (bs got) ts ((i : Nat) : Int) ((j : Nat) : Int) = duetlaw21_LayoutSays.l1 K want (bs (got ++ (t.drop j).filter (· != 32))) ts ((i + 1 : Nat) : Int)
  | 0, j, got, h, hg => by
    have hi := (List.getElem?_eq_some_iff.1 ht).1
    have e : rdOf ByteArray.empty ts ((i : Nat) : Int) = bs t := by unfold rdOf; rw [Int.toNat_natCast, List.getD_eq_getElem?_getD, ht]; rfl
    rw [show 0 + 1 + K = K + 1 by omega, duetlaw21_LayoutSays.l2, e, bs_size, if_pos (by omega), if_pos (by omega), if_neg (by omega), List.drop_eq_nil_of_le (by omega)]
    rw [show wrap64 ((i : Int) + 1) = ((i + 1 : Nat) : Int) by unfold wrap64; omega]
    simp
  | m + 1, j, got, h, hg => by
    have hi := (List.getElem?_eq_some_iff.1 ht).1
    have e : rdOf ByteArray.empty ts ((i : Nat) : Int) = bs t := by unfold rdOf; rw [Int.toNat_natCast, List.getD_eq_getElem?_getD, ht]; rfl
    have hj : j < t.length := by omega
    have hbt : bt (bs t) (j : Int) = (t[j].toNat : Int) := by
      unfold bt
      have h : ((j : Nat) : Int).toNat < (bs t).size := by rw [bs_size]; omega
      rw [dif_pos h]
      show ((t.toArray[((j : Nat) : Int).toNat]'h).toNat : Int) = _
      simp
    have hex : (bs t).extract ((j : Nat) : Int).toNat (((j + 1 : Nat) : Int)).toNat = bs [t[j]] := by
      unfold bs
      apply ByteArray.ext
      rw [ByteArray.data_extract]
      apply Array.toList_inj.1
      simp only [Int.toNat_natCast, List.extract_toArray, List.extract_eq_take_drop]
      rw [List.drop_eq_getElem_cons hj, show j + 1 - j = 1 by omega, List.take_succ_cons, List.take_zero]
    rw [show m + 1 + 1 + K = (m + 1 + K) + 1 by omega, duetlaw21_LayoutSays.l2, e, hbt, bs_size, bs_size, if_pos (by omega), if_pos (by omega), if_pos (by omega), if_pos (by omega)]
    rw [show wrap64 ((j : Int) + 1) = ((j + 1 : Nat) : Int) by unfold wrap64; omega, hex, bs_size, List.drop_eq_getElem_cons hj]
    by_cases hx : t[j] = 32
    · rw [if_pos (by rw [hx]; rfl), l2_ok want ts i t ht hl hb K m (j + 1) got (by omega) (by omega), List.filter_cons_of_neg (by rw [hx]; decide)]
    · have hx2 : ¬ ((t[j].toNat : Int) = 32) := fun q => hx (by
        have : t[j].toNat = 32 := by omega
        exact UInt8.toNat_inj.1 this)
      rw [if_neg hx2, if_pos (by omega), if_pos (by omega), if_pos (by simp; omega), bs_app, l2_ok want ts i t ht hl hb K m (j + 1) (got ++ [t[j]]) (by omega) (by simp; omega), List.filter_cons_of_pos (by simpa using hx)]
      simp
theorem l1_ok (want : List UInt8) (ts : List (List UInt8)) (hl : ts.length ≤ 200) (B : Nat) (hB : B ≤ 10000) (hb : ∀ t ∈ ts, t.length = B ∨ t.length ≤ B) (K : Nat) (hw : (ts.flatMap fun t => t.filter (· != 32)) = want) :
    ∀ m i (got : List UInt8), i + m = ts.length → got.length ≤ i * 10000 → got ++ ((ts.drop i).flatMap fun t => t.filter (· != 32)) = want → duetlaw21_LayoutSays.l1 (m * (B + 2) + K + 1) (bs want) (bs got) (ts.map bs) ((i : Nat) : Int) = some true
  | 0, i, got, h, hg, hgw => by
    rw [List.drop_eq_nil_of_le (by omega)] at hgw
    rw [show 0 * (B + 2) + K + 1 = K + 1 by omega, duetlaw21_LayoutSays.l1, List.length_map, if_neg (by omega)]
    have : got = want := by simpa using hgw
    rw [if_pos (by rw [this])]
    rfl
  | m + 1, i, got, h, hg, hgw => by
    have hi : i < ts.length := by omega
    have ht : (ts.map bs)[i]? = some (bs ts[i]) := by rw [List.getElem?_map, List.getElem?_eq_getElem hi]; rfl
    rw [List.drop_eq_getElem_cons hi, List.flatMap_cons] at hgw
    have htl : ts[i].length ≤ B := by rcases hb _ (List.getElem_mem hi) with q | q <;> omega
    have hfl : (ts[i].filter (· != 32)).length ≤ ts[i].length := List.length_filter_le _ _
    obtain ⟨d, hd⟩ : ∃ d, ts[i].length + d = B := ⟨B - ts[i].length, by omega⟩
    rw [show (m + 1) * (B + 2) + K + 1 = (ts[i].length + 1 + (m * (B + 2) + (K + d) + 1)) + 1 by rw [Nat.add_mul]; omega, duetlaw21_LayoutSays.l1, List.length_map, if_pos (by omega)]
    have h1 := l2_ok (bs want) (ts.map bs) i ts[i] ht (by rw [List.length_map]; omega) (by omega) (m * (B + 2) + (K + d) + 1) ts[i].length 0 got (by omega) (by omega)
    rw [List.drop_zero] at h1
    rw [show (0 : Int) = ((0 : Nat) : Int) from rfl, h1]
    exact l1_ok want ts hl B hB hb (K + d) hw m (i + 1) _ (by omega) (by rw [List.length_append]; omega) (by rw [List.append_assoc]; exact hgw)
theorem l0_ok (all : List Int) (ha : all.length ≤ 2000) (hT : ∃ K, layout_Text.f rows R C = some (pageT rows) ∧ duetlaw21_LayoutSays.l1 K (bs (all.flatMap wantR)) (bs []) (pageT rows) 0 = some true ∧ 0 < K) :
    ∀ m i (w : List UInt8), i + m = all.length → w = (all.take i).flatMap wantR → ∃ K, duetlaw21_LayoutSays.l0 K (bs w) all ((i : Nat) : Int) rows R C = some true
  | 0, i, w, h, hw => by
    obtain ⟨K, h1, h2, h3⟩ := hT
    refine ⟨K + 1, ?_⟩
    rw [duetlaw21_LayoutSays.l0, if_neg (by omega), h1, Option.bind_some, hw, List.take_of_length_le (by omega)]
    exact h2
  | m + 1, i, w, h, hw => by
    have hi : i < all.length := by omega
    have hrd : rd all ((i : Nat) : Int) = all[i] := rd_nat all i hi
    have hnext := List.take_succ_eq_append_getElem hi
    have hww := width_le all[i]
    have hwl : w.length ≤ 8000 := by
      have := want_len (all.take i)
      rw [List.length_take] at this
      rw [hw]; omega
    by_cases hz : 0 < widthN all[i] ∧ all[i] ≠ 32
    · obtain ⟨K, hK⟩ := l0_ok all ha hT m (i + 1) (w ++ Lib.encodeRune (signN all[i])) (by omega) (by rw [hnext, List.flatMap_append, ← hw, List.flatMap_cons, List.flatMap_nil, List.append_nil]; unfold wantR; rw [if_pos hz])
      have hKp : ∃ K', K = K' + 1 := by
        cases K with
        | zero => rw [duetlaw21_LayoutSays.l0] at hK; cases hK
        | succ K => exact ⟨K, rfl⟩
      obtain ⟨K', rfl⟩ := hKp
      refine ⟨K' + 1 + 1, ?_⟩
      have hsz : (signB all[i]).size ≤ 4 := by show (Lib.encodeRune (signN all[i])).toArray.size ≤ 4; simpa using (enc_len _).2
      rw [duetlaw21_LayoutSays.l0, hrd, if_pos (by omega), if_pos (by omega), refWidth_f, Option.bind_some, if_pos hz.1, if_neg hz.2, Sign_f, Option.bind_some, bs_size, if_pos (by omega)]
      rw [show bs w ++ signB all[i] = bs (w ++ Lib.encodeRune (signN all[i])) from bs_app _ _, show wrap64 ((i : Int) + 1) = ((i + 1 : Nat) : Int) by unfold wrap64; omega]
      exact hK
    · obtain ⟨K, hK⟩ := l0_ok all ha hT m (i + 1) w (by omega) (by rw [hnext, List.flatMap_append, ← hw, List.flatMap_cons, List.flatMap_nil, List.append_nil]; unfold wantR; rw [if_neg hz, List.append_nil])
      have hKp : ∃ K', K = K' + 1 := by
        cases K with
        | zero => rw [duetlaw21_LayoutSays.l0] at hK; cases hK
        | succ K => exact ⟨K, rfl⟩
      obtain ⟨K', rfl⟩ := hKp
      refine ⟨K' + 1 + 1, ?_⟩
      rw [duetlaw21_LayoutSays.l0, hrd, if_pos (by omega), if_pos (by omega), refWidth_f, Option.bind_some, show wrap64 ((i : Int) + 1) = ((i + 1 : Nat) : Int) by unfold wrap64; omega]
      by_cases hp : widthN all[i] > 0
      · have h32 : all[i] = 32 := Classical.byContradiction fun q => hz ⟨hp, q⟩
        rw [if_pos hp, if_pos h32]; exact hK
      · rw [if_neg hp]; exact hK
end
theorem pure (a0 : Int) (l1 l2 : List Int) (a3 : Int) (l4 : List Int) : ∃ k, duetlaw21_LayoutSays.f k a0 l1 l2 a3 l4 = some true := by
  have hlive : ∀ b, b = true → duetlaw21_LayoutSays.j0 1 b a0 l1 l2 a3 l4 = some true := by
    rintro b rfl; rfl
  by_cases g0 : (l1.length : Int) > 200
  · exact ⟨1, by unfold duetlaw21_LayoutSays.f; rw [if_pos g0]; exact hlive _ rfl⟩
  by_cases g1 : (l2.length : Int) > 1000
  · exact ⟨1, by unfold duetlaw21_LayoutSays.f; rw [if_neg g0, if_pos g1]; exact hlive _ rfl⟩
  by_cases g2 : (l4.length : Int) > 20
  · exact ⟨1, by unfold duetlaw21_LayoutSays.f; rw [if_neg g0, if_neg g1]; exact hlive _ (decide_eq_true g2)⟩
  by_cases hb : badArgs a0 a3 l1.length l2.length l4.length
  · refine ⟨1, ?_⟩
    unfold duetlaw21_LayoutSays.f
    rw [if_neg g0, if_neg g1, decide_eq_false g2, duetlaw21_LayoutSays.j0, if_neg (by decide)]
    unfold layout_Lay.f
    rw [if_pos hb]
    rfl
  by_cases hn : 200 < (finL a0.toNat l1 l2 a3 l4).1.n
  · refine ⟨1, ?_⟩
    unfold duetlaw21_LayoutSays.f
    rw [if_neg g0, if_neg g1, decide_eq_false g2, duetlaw21_LayoutSays.j0, if_neg (by decide)]
    unfold layout_Lay.f
    rw [if_neg hb, if_pos hn]
    rfl
  have hl : layout_Lay.f a0 l1 l2 a3 l4 = some (gridL a0.toNat (finL a0.toNat l1 l2 a3 l4).1.n (finL a0.toNat l1 l2 a3 l4).1.G, ((finL a0.toNat l1 l2 a3 l4).2.1 : Int), ((finL a0.toNat l1 l2 a3 l4).2.2 : Int), 0) := by
    unfold layout_Lay.f
    rw [if_neg hb, if_neg hn]
  unfold badArgs at hb
  obtain ⟨wd, rfl⟩ : ∃ k : Nat, a0 = k := ⟨a0.toNat, by omega⟩
  obtain ⟨ct, rfl⟩ : ∃ k : Nat, a3 = k := ⟨a3.toNat, by omega⟩
  rw [Int.toNat_natCast] at hl hn
  have hsay : gotL (pageT (gridL wd (finL wd l1 l2 ct l4).1.n (finL wd l1 l2 ct l4).1.G)) = (l1 ++ l2).flatMap wantR := by
    rw [page_says, show (finL wd l1 l2 ct l4) = lineL wd ct l4 0 (runL wd st0 l1, (0, 0)) l2 from rfl, tell_page sayF say_zero (fun x m => rfl) wd (by omega)]
    congr 1
    funext x
    exact say_rune x
  have hrows : ∀ r ∈ gridL wd (finL wd l1 l2 ct l4).1.n (finL wd l1 l2 ct l4).1.G, r.length = wd := by
    intro r hr
    unfold gridL at hr
    obtain ⟨i, _, rfl⟩ := List.mem_map.1 hr
    exact rowS_len _ _
  have hglen := gridL_len wd (finL wd l1 l2 ct l4).1.n (finL wd l1 l2 ct l4).1.G
  generalize gridL wd (finL wd l1 l2 ct l4).1.n (finL wd l1 l2 ct l4).1.G = rows at *
  generalize (finL wd l1 l2 ct l4).1.n = n at *
  generalize ((finL wd l1 l2 ct l4).2.1 : Int) = R at *
  generalize ((finL wd l1 l2 ct l4).2.2 : Int) = C at *
  have htx : layout_Text.f rows R C = some (pageT rows) := by
    unfold layout_Text.f
    rw [if_pos ⟨by omega, fun r hr => by rw [hrows r hr]; omega⟩]
  have hpt : pageT rows = (rows.map rowT).map bs := by unfold pageT bs; rw [List.map_map]; rfl
  have htl : ∀ t ∈ rows.map rowT, t.length = 2048 ∨ t.length ≤ 2048 := by
    intro t ht
    obtain ⟨r, hr, rfl⟩ := List.mem_map.1 ht
    refine .inr ?_
    have h1 : (rowT r).length ≤ (rowB r).length := by
      unfold rowT trimR
      rw [List.length_reverse]
      have := (List.dropWhile_sublist (l := (rowB r).reverse) (· == 32)).length_le
      rw [List.length_reverse] at this
      exact this
    have h2 := rowB_len r
    rw [hrows r hr] at h2
    omega
  have hgot : ((rows.map rowT).flatMap fun t => t.filter (· != 32)) = (l1 ++ l2).flatMap wantR := by
    rw [← hsay, hpt]
    unfold gotL
    rw [List.flatMap_map, List.flatMap_map, List.flatMap_map]; rfl
  have h1 := l1_ok ((l1 ++ l2).flatMap wantR) (rows.map rowT) (by rw [List.length_map]; omega) 2048 (by omega) htl 0 hgot (rows.map rowT).length 0 [] (by omega) (by simp) (by rw [List.drop_zero, List.nil_append]; exact hgot)
  rw [← hpt] at h1
  obtain ⟨K, hK⟩ := l0_ok rows R C (l1 ++ l2) (by rw [List.length_append]; omega) ⟨_, htx, h1, by omega⟩ (l1 ++ l2).length 0 [] (by omega) rfl
  refine ⟨K + 1, ?_⟩
  unfold duetlaw21_LayoutSays.f
  rw [if_neg g0, if_neg g1, decide_eq_false g2, duetlaw21_LayoutSays.j0, if_neg (by decide), hl]
  simp only [Option.bind_some]
  rw [if_pos trivial, if_pos (by simp; omega), List.nil_append, if_pos (by omega)]
  exact hK
theorem law (a0 : Int) (A1 : Option Addr) (c1 : Nat) (l1 : List Int) (A2 : Option Addr) (c2 : Nat) (l2 : List Int) (a3 : Int) (A4 : Option Addr) (c4 : Nat) (l4 : List Int) (w : World) (hL : Laid w) (hr1 : Kd.C (Kd.int .i64) w A1 l1.length l1) (hc1 : l1.length ≤ c1) (hr2 : Kd.C (Kd.int .i64) w A2 l2.length l2) (hc2 : l2.length ≤ c2) (hr4 : Kd.C (Kd.int .i64) w A4 l4.length l4) (hc4 : l4.length ≤ c4) :
    Calls Tryd.prog 7 #[.agg #[.int .i64 a0, .slice A1 l1.length c1, .slice A2 l2.length c2, .int .i64 a3, .slice A4 l4.length c4]] w fun e w' => e = .returned (.bool true) ∧ Below w.heap.size w w' := by
  obtain ⟨k, h⟩ := pure a0 l1 l2 a3 l4
  exact duetlaw21_LayoutSays.calls k a0 A1 c1 l1 A2 c2 l2 a3 A4 c4 l4 true w hL hr1 hc1 hr2 hc2 hr4 hc4 h
end Go.Proofs.YtoidlaonolkgkaaDoor.PureSays
