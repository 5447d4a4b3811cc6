/- LayoutLays: the document's page, and what it says, are the program's. -/
import Derived.Test.YtoidlaonolkgkaaDoorRm
import Derived.Test.YtoidlaonolkgkaaDoorGw
import Derived.Deep.RegionHeld3
set_option linter.unusedVariables false
set_option linter.unusedSimpArgs false
namespace Go.Proofs.YtoidlaonolkgkaaDoor.PureLays
open Go.RowKit Go.Proofs.YtoidlaonolkgkaaDoor.Giv Go.Proofs.YtoidlaonolkgkaaDoor.Gr Go.Proofs.YtoidlaonolkgkaaDoor.Gl Go.Proofs.YtoidlaonolkgkaaDoor.Gc Go.Proofs.YtoidlaonolkgkaaDoor.Gk Go.Proofs.YtoidlaonolkgkaaDoor.Gb Go.Proofs.YtoidlaonolkgkaaDoor.Ge Go.Proofs.YtoidlaonolkgkaaDoor.P Go.Proofs.YtoidlaonolkgkaaDoorW.PrintWords Go.Proofs.YtoidlaonolkgkaaDoorW.PrintLast Go.Proofs.YtoidlaonolkgkaaDoorW.PrintMore
theorem texts_l0 (l : List ByteArray) (hl : l.length ≤ 100000) : ∀ (m i : Nat), i + m = l.length → duetref03_Texts.l0 (m + 1) l l ((i : Nat) : Int) = some true
  | 0, i, h => by rw [duetref03_Texts.l0, if_neg (by omega)]
  | m + 1, i, h => by
    rw [duetref03_Texts.l0, if_pos (by omega), if_pos (by omega), if_pos (by omega), if_pos rfl, show wrap64 ((i : Int) + 1) = ((i + 1 : Nat) : Int) by unfold wrap64; omega]
    exact texts_l0 l hl m (i + 1) (by omega)
theorem texts_f (l : List ByteArray) (hl : l.length ≤ 100000) : duetref03_Texts.f (l.length + 1) l l = some true := by
  unfold duetref03_Texts.f
  rw [if_pos rfl]
  exact texts_l0 l hl l.length 0 (by omega)
theorem same_l1 (rows : List (List S47)) (hl : rows.length ≤ 100000) (i : Nat) (hi : i < rows.length) (hr : rows[i].length ≤ 100000) (K : Nat) : ∀ (m j : Nat), j + m = rows[i].length → duetref21_SameRows.l1 (m + 1 + K) rows rows ((i : Nat) : Int) ((j : Nat) : Int) = duetref21_SameRows.l0 K rows rows ((i + 1 : Nat) : Int)
  | 0, j, h => by
    have e : rd_L6 rows (i : Int) = rows[i] := by unfold rd_L6; rw [Int.toNat_natCast, List.getD_eq_getElem?_getD, List.getElem?_eq_getElem hi]; rfl
    rw [show 0 + 1 + K = K + 1 by omega, duetref21_SameRows.l1, e, if_pos (by omega), if_pos (by omega), if_neg (by omega), show wrap64 ((i : Int) + 1) = ((i + 1 : Nat) : Int) by unfold wrap64; omega]
  | m + 1, j, h => by
    have e : rd_L6 rows (i : Int) = rows[i] := by unfold rd_L6; rw [Int.toNat_natCast, List.getD_eq_getElem?_getD, List.getElem?_eq_getElem hi]; rfl
    rw [show m + 1 + 1 + K = (m + 1 + K) + 1 by omega, duetref21_SameRows.l1, e, if_pos (by omega), if_pos (by omega), if_pos (by omega), if_pos (by omega), if_pos (by omega), if_pos (by omega), if_neg (by simp), show wrap64 ((j : Int) + 1) = ((j + 1 : Nat) : Int) by unfold wrap64; omega]
    exact same_l1 rows hl i hi hr K m (j + 1) (by omega)
theorem same_l0 (rows : List (List S47)) (hl : rows.length ≤ 100000) (hr : ∀ r ∈ rows, r.length ≤ 100000) : ∀ (m i : Nat), i + m = rows.length → ∃ K, duetref21_SameRows.l0 K rows rows ((i : Nat) : Int) = some true
  | 0, i, h => ⟨0 + 1, by rw [duetref21_SameRows.l0, if_neg (by omega)]⟩
  | m + 1, i, h => by
    obtain ⟨K, hK⟩ := same_l0 rows hl hr m (i + 1) (by omega)
    have hi : i < rows.length := by omega
    refine ⟨(rows[i].length + 1 + K) + 1, ?_⟩
    rw [duetref21_SameRows.l0, if_pos (by omega), if_pos (by omega), if_pos (by omega), if_pos rfl, show (0 : Int) = ((0 : Nat) : Int) from rfl, same_l1 rows hl i hi (hr _ (List.getElem_mem hi)) K rows[i].length 0 (by omega)]
    exact hK
theorem same_f (rows : List (List S47)) (hl : rows.length ≤ 100000) (hr : ∀ r ∈ rows, r.length ≤ 100000) (a b : Int) : ∃ K, duetlaw21_same.f K rows a b rows a b = some true := by
  obtain ⟨K, hK⟩ := same_l0 rows hl hr rows.length 0 (by omega)
  refine ⟨K, ?_⟩
  unfold duetlaw21_same.f duetref21_SameRows.f
  rw [if_pos rfl, show (0 : Int) = ((0 : Nat) : Int) from rfl, hK, Option.bind_some, if_pos rfl, if_pos rfl]
  simp
theorem lay_some (a0 : Int) (l1 l2 : List Int) (a3 : Int) (l4 : List Int) : ∃ rows R C e, layout_Lay.f a0 l1 l2 a3 l4 = some (rows, R, C, e) ∧ rows.length ≤ 200 ∧ ∀ r ∈ rows, r.length ≤ 512 := by
  unfold layout_Lay.f
  by_cases hb : badArgs a0 a3 l1.length l2.length l4.length
  · exact ⟨[], 0, 0, 1, by rw [if_pos hb], by simp, fun r h => by simp at h⟩
  · rw [if_neg hb]
    by_cases hn : 200 < (finL a0.toNat l1 l2 a3 l4).1.n
    · exact ⟨[], 0, 0, 5, by rw [if_pos hn], by simp, fun r h => by simp at h⟩
    · rw [if_neg hn]
      refine ⟨_, _, _, _, rfl, by rw [gridL_len]; omega, fun r h => ?_⟩
      unfold gridL at h
      obtain ⟨i, _, rfl⟩ := List.mem_map.1 h
      rw [rowS_len]
      unfold badArgs at hb
      omega
/-- Two pages in their boxes, with the same rows. -/
structure Two (W w' : World) (p1 p2 : Nat) (A1 A2 : Option Addr) (k1 k2 : Nat) (rows : List (List S47)) (R C : Int) : Prop where
  b1 : w'.heap[p1]? = some (.cells #[.slice A1 rows.length k1, .int .i64 R, .int .i64 C] 28 (0, 0))
  b2 : w'.heap[p2]? = some (.cells #[.slice A2 rows.length k2, .int .i64 R, .int .i64 C] 32 (0, 0))
  r1 : Kd.C (Kd.slice 47 k47) w' A1 rows.length rows
  r2 : Kd.C (Kd.slice 47 k47) w' A2 rows.length rows
  bel : Below W.heap.size W w'
section
variable {W w' w2 : World} {p1 p2 : Nat} {A1 A2 : Option Addr} {k1 k2 : Nat} {rows : List (List S47)} {R C : Int}
theorem Two.below (h : Two W w' p1 p2 A1 A2 k1 k2 rows R C) (hb : Below w'.heap.size w' w2) : Two W w2 p1 p2 A1 A2 k1 k2 rows R C :=
  ⟨(hb.block _ (blk_lt h.b1)).trans h.b1, (hb.block _ (blk_lt h.b2)).trans h.b2, Kd.C_below h.r1 hb, Kd.C_below h.r2 hb, below_then' h.bel hb⟩
theorem Two.all (h : Two W w' p1 p2 A1 A2 k1 k2 rows R C) : w'.cell? ⟨p1, 0, none⟩ = some (.slice A1 rows.length k1) ∧ w'.cell? ⟨p1, 1, none⟩ = some (.int .i64 R) ∧ w'.cell? ⟨p1, 2, none⟩ = some (.int .i64 C) ∧ w'.cell? ⟨p2, 0, none⟩ = some (.slice A2 rows.length k2) ∧ w'.cell? ⟨p2, 1, none⟩ = some (.int .i64 R) ∧ w'.cell? ⟨p2, 2, none⟩ = some (.int .i64 C) ∧ Below W.heap.size W w' :=
  ⟨by rw [blk_cell h.b1]; rfl, by rw [blk_cell h.b1]; rfl, by rw [blk_cell h.b1]; rfl, by rw [blk_cell h.b2]; rfl, by rw [blk_cell h.b2]; rfl, by rw [blk_cell h.b2]; rfl, h.bel⟩
end
/-- What a page's call leaves. -/
def PageP (w : World) (rows : List (List S47)) (r c e : Int) (en : Ending) (w' : World) : Prop := ∃ A k, en = .returned (.tuple #[.agg #[.slice A rows.length k, .int .i64 r, .int .i64 c], .int .i64 e]) ∧ rows.length ≤ k ∧ Kd.C (Kd.slice 47 k47) w' A rows.length rows ∧ Below w.heap.size w w'
/-- What a text's call leaves. -/
def TextP (w : World) (l : List ByteArray) (en : Ending) (w' : World) : Prop := ∃ A k, en = .returned (.slice A l.length k) ∧ l.length ≤ k ∧ Kd.C Kd.string w' A l.length l ∧ Below w.heap.size w w'
theorem textP {A : Option Addr} {k : Nat} {rows : List (List S47)} {R C : Int} {l : List ByteArray} {w : World} (hr : Kd.C (Kd.slice 47 k47) w A rows.length rows) (hk : rows.length ≤ k) (h : layout_Text.f rows R C = some l) : Calls Tryd.prog 14 #[.agg #[.slice A rows.length k, .int .i64 R, .int .i64 C]] w (TextP w l) := by
  refine (layout_Text.calls A k rows R C l w hr hk h).mono ?_
  rintro e w' ⟨v, rfl, hR, hB⟩
  obtain ⟨A', k', rfl, h1, h2⟩ := Kd.R_reads hR
  exact ⟨A', k', rfl, h1, h2, hB⟩
theorem rtextP {A : Option Addr} {k : Nat} {rows : List (List S47)} {R C : Int} {l : List ByteArray} {w : World} (hr : Kd.C (Kd.slice 47 k47) w A rows.length rows) (hk : rows.length ≤ k) (h : layout_Text.f rows R C = some l) : Calls Tryd.prog 15 #[.agg #[.slice A rows.length k, .int .i64 R, .int .i64 C]] w (TextP w l) := by
  refine (duetref21_Text.calls A k rows R C l w hr hk h).mono ?_
  rintro e w' ⟨v, rfl, hR, hB⟩
  obtain ⟨A', k', rfl, h1, h2⟩ := Kd.R_reads hR
  exact ⟨A', k', rfl, h1, h2, hB⟩
theorem textsP {A B : Option Addr} {k q : Nat} {l : List ByteArray} {w : World} (hl : l.length ≤ 100000) (h1 : Kd.C Kd.string w A l.length l) (hk : l.length ≤ k) (h2 : Kd.C Kd.string w B l.length l) (hq : l.length ≤ q) : Calls Tryd.prog 13 #[.slice A l.length k, .slice B l.length q] w fun e w' => e = .returned (.bool true) ∧ Below w.heap.size w w' := by
  refine (duetref03_Texts.calls _ A k l B q l true w h1 hk h2 hq (texts_f l hl)).mono ?_
  rintro e w' ⟨rfl, hD⟩
  exact ⟨rfl, Gf.drawn_below hD⟩
set_option maxHeartbeats 8000000 in
set_option maxRecDepth 100000 in
theorem law (a0 : Int) (A1 : Option Addr) (c1 : Nat) (l1 : List Int) (A2 : Option Addr) (c2 : Nat) (l2 : List Int) (a3 : Int) (A4 : Option Addr) (c4 : Nat) (l4 : List Int) (w : World) (hL : Laid w) (hr1 : Kd.C (Kd.int .i64) w A1 l1.length l1) (hc1 : l1.length ≤ c1) (hr2 : Kd.C (Kd.int .i64) w A2 l2.length l2) (hc2 : l2.length ≤ c2) (hr4 : Kd.C (Kd.int .i64) w A4 l4.length l4) (hc4 : l4.length ≤ c4) :
    Calls Tryd.prog 3 #[.agg #[.int .i64 a0, .slice A1 l1.length c1, .slice A2 l2.length c2, .int .i64 a3, .slice A4 l4.length c4]] w fun e w' => e = .returned (.bool true) ∧ Below w.heap.size w w' := by
  have HL := Lib.hid hL
  have H1 := Lib.hid hr1
  have H2 := Lib.hid hr2
  have H4 := Lib.hid hr4
  have HB := Lib.hid (below_alloc (Below.refl w.heap.size w) (.cells #[.int .i64 a0, .slice A1 l1.length c1, .slice A2 l2.length c2, .int .i64 a3, .slice A4 l4.length c4] 24))
  clear hL hr1 hr2 hr4
  by_cases g0 : (300 : Int) < (l1.length : Int)
  · as_aux_lemma =>
    have d0 : decide ((300 : Int) < (l1.length : Int)) = true := decide_eq_true g0
    clear g0
    go_enter Tryd.func3, Tryd.ntmps3
    go_wp2_with (go_at_call 9; go_loud (refine (duetlaw21_live.calls true _ (HL.out.below HB.out) rfl).mono ?_; rintro e w9 ⟨rfl, hB9⟩))
    go_ret
    exact ⟨rfl, below_then' HB.out hB9⟩
  have d0 : decide ((300 : Int) < (l1.length : Int)) = false := decide_eq_false g0
  by_cases g1 : (1100 : Int) < (l2.length : Int)
  · as_aux_lemma =>
    have d1 : decide ((1100 : Int) < (l2.length : Int)) = true := decide_eq_true g1
    clear g1
    go_enter Tryd.func3, Tryd.ntmps3
    go_wp2_with (go_at_call 9; go_loud (refine (duetlaw21_live.calls true _ (HL.out.below HB.out) rfl).mono ?_; rintro e w9 ⟨rfl, hB9⟩))
    go_ret
    exact ⟨rfl, below_then' HB.out hB9⟩
  have d1 : decide ((1100 : Int) < (l2.length : Int)) = false := decide_eq_false g1
  by_cases g2 : (30 : Int) < (l4.length : Int)
  · as_aux_lemma =>
    have d2 : decide ((30 : Int) < (l4.length : Int)) = true := decide_eq_true g2
    clear g2
    go_enter Tryd.func3, Tryd.ntmps3
    go_wp2_with (go_at_call 9; go_loud (refine (duetlaw21_live.calls true _ (HL.out.below HB.out) rfl).mono ?_; rintro e w9 ⟨rfl, hB9⟩))
    go_ret
    exact ⟨rfl, below_then' HB.out hB9⟩
  have d2 : decide ((30 : Int) < (l4.length : Int)) = false := decide_eq_false g2
  clear g0 g1 g2
  obtain ⟨rows, R, C, er, hl, hn, hrw⟩ := lay_some a0 l1 l2 a3 l4
  obtain ⟨ks, hs⟩ := same_f rows (by omega) (fun r h => by have := hrw r h; omega) R C
  have ht : layout_Text.f rows R C = some (pageT rows) := by unfold layout_Text.f; rw [if_pos ⟨by omega, fun r hx => by have := hrw r hx; omega⟩]
  have hpl : (pageT rows).length ≤ 100000 := by unfold pageT; rw [List.length_map]; omega
  have hp1 : ∀ W, Laid W → Kd.C (Kd.int .i64) W A1 l1.length l1 → Kd.C (Kd.int .i64) W A2 l2.length l2 → Kd.C (Kd.int .i64) W A4 l4.length l4 → Calls Tryd.prog 10 #[.int .i64 a0, .slice A1 l1.length c1, .slice A2 l2.length c2, .int .i64 a3, .slice A4 l4.length c4] W (PageP W rows R C er) := fun W hL h1 h2 h4 => (layout_Lay.calls a0 A1 c1 l1 A2 c2 l2 a3 A4 c4 l4 rows R C er W hL h1 hc1 h2 hc2 h4 hc4 hl).mono (by
    rintro e w' ⟨v, rfl, hS, hB⟩
    obtain ⟨A, k, rfl, hk, hC⟩ := Kd.R_reads (Kd.S_R hS)
    exact ⟨A, k, rfl, hk, hC, hB⟩)
  have hp2 : ∀ W, Kd.C (Kd.int .i64) W A1 l1.length l1 → Kd.C (Kd.int .i64) W A2 l2.length l2 → Kd.C (Kd.int .i64) W A4 l4.length l4 → Calls Tryd.prog 11 #[.int .i64 a0, .slice A1 l1.length c1, .slice A2 l2.length c2, .int .i64 a3, .slice A4 l4.length c4] W (PageP W rows R C er) := fun W h1 h2 h4 => (duetref21_Lay.calls a0 A1 c1 l1 A2 c2 l2 a3 A4 c4 l4 rows R C er W h1 hc1 h2 hc2 h4 hc4 hl).mono (by
    rintro e w' ⟨v, rfl, hS, hB⟩
    obtain ⟨A, k, rfl, hk, hC⟩ := Kd.R_reads (Kd.S_R hS)
    exact ⟨A, k, rfl, hk, hC, hB⟩)
  have hsm := fun (A B : Option Addr) (k q : Nat) (W : World) h1 hk h2 hq => duetlaw21_same.calls ks A k rows R C B q rows R C true W h1 hk h2 hq hs
  have HT := Lib.hid ht
  have HPL := Lib.hid hpl
  obtain ⟨txt, htx⟩ : ∃ l, l = pageT rows := ⟨_, rfl⟩
  rw [← htx] at HT HPL
  have HK0 := Lib.hid (heap_alloc_new w (.cells #[.int .i64 a0, .slice A1 l1.length c1, .slice A2 l2.length c2, .int .i64 a3, .slice A4 l4.length c4] 24))
  clear hl hn hrw hs ht hpl htx
  go_enter Tryd.func3, Tryd.ntmps3
  go_upto_region 4 with (go_at_call 10; go_loud (refine (hp1 _ (HL.out.below HB.out) (Kd.C_below H1.out HB.out) (Kd.C_below H2.out HB.out) (Kd.C_below H4.out HB.out)).mono ?_; rintro e w2 ⟨B1, k1, rfl, hk1, hC1, hB2⟩; have HB2 := Lib.hid (below_then' HB.out hB2); have HK2 := Lib.hid ((hB2.block _ (blk_lt HK0.out)).trans HK0.out); have HC1 := Lib.hid hC1; clear hB2 hC1))
  have hba := below_alloc (Below.refl w2.heap.size w2) (.cells #[.slice B1 rows.length k1, .int .i64 R, .int .i64 C] 28)
  have HB3 := Lib.hid (below_then' HB2.out hba)
  have HK3 := Lib.hid ((hba.block _ (blk_lt HK2.out)).trans HK2.out)
  have HP3 := Lib.hid (heap_alloc_new w2 (.cells #[.slice B1 rows.length k1, .int .i64 R, .int .i64 C] 28))
  have HC3 := Lib.hid (Kd.C_below HC1.out hba)
  clear HK2 HB2 HK0 HB d0 d1 d2 hp1 hba HC1
  generalize w2.alloc (.cells #[.slice B1 rows.length k1, .int .i64 R, .int .i64 C] 28) = w3 at HB3 HK3 HP3 HC3 ⊢
  generalize w2.heap.size = p1 at HP3 ⊢
  have y0 : w3.cell? ⟨w.heap.size, 0, none⟩ = some (.int .i64 a0) := by rw [blk_cell HK3.out]; rfl
  have y1 : w3.cell? ⟨w.heap.size, 1, none⟩ = some (.slice A1 l1.length c1) := by rw [blk_cell HK3.out]; rfl
  have y2 : w3.cell? ⟨w.heap.size, 2, none⟩ = some (.slice A2 l2.length c2) := by rw [blk_cell HK3.out]; rfl
  have y3 : w3.cell? ⟨w.heap.size, 3, none⟩ = some (.int .i64 a3) := by rw [blk_cell HK3.out]; rfl
  have y4 : w3.cell? ⟨w.heap.size, 4, none⟩ = some (.slice A4 l4.length c4) := by rw [blk_cell HK3.out]; rfl
  go_upto_region 5 with (go_at_call 11; go_loud (refine (hp2 _ (Kd.C_below H1.out HB3.out) (Kd.C_below H2.out HB3.out) (Kd.C_below H4.out HB3.out)).mono ?_; rintro e w4 ⟨B2, k2, rfl, hk2, hC2, hB4⟩; have HB4 := Lib.hid (below_then' HB3.out hB4); have HP4 := Lib.hid ((hB4.block _ (blk_lt HP3.out)).trans HP3.out); have HC4 := Lib.hid (And.intro (Kd.C_below HC3.out hB4) hC2); clear hB4 hC2))
  have hba := below_alloc (Below.refl w4.heap.size w4) (.cells #[.slice B2 rows.length k2, .int .i64 R, .int .i64 C] 32)
  have hS : Two w (w4.alloc (.cells #[.slice B2 rows.length k2, .int .i64 R, .int .i64 C] 32)) p1 w4.heap.size B1 B2 k1 k2 rows R C := ⟨(hba.block _ (blk_lt HP4.out)).trans HP4.out, heap_alloc_new w4 _, Kd.C_below HC4.out.1 hba, Kd.C_below HC4.out.2 hba, below_then' HB4.out hba⟩
  clear HB3 HK3 HP3 HC3 HB4 HP4 HC4 hp2 hba y0 y1 y2 y3 y4
  generalize w4.alloc (.cells #[.slice B2 rows.length k2, .int .i64 R, .int .i64 C] 32) = w5 at hS ⊢
  generalize w4.heap.size = p2 at hS ⊢
  have hS0 := hS.below (below_drew (Below.refl w5.heap.size w5))
  clear hS
  have HL0 : Hid (∀ W, Below w.heap.size w W → Laid W) := Lib.hid (fun W h => HL.out.below h)
  clear HL H1 H2 H4
  go_region_held3 (fun w' => w'.cell? ⟨p1, 0, none⟩ = some (.slice B1 rows.length k1) ∧ w'.cell? ⟨p1, 1, none⟩ = some (.int .i64 R) ∧ w'.cell? ⟨p1, 2, none⟩ = some (.int .i64 C) ∧ w'.cell? ⟨p2, 0, none⟩ = some (.slice B2 rows.length k2) ∧ w'.cell? ⟨p2, 1, none⟩ = some (.int .i64 R) ∧ w'.cell? ⟨p2, 2, none⟩ = some (.int .i64 C) ∧ Below w.heap.size w w')
    (first | exact hS0.all | exact hS9.all | exact hS5.all | exact hS4.all | exact hS3.all | exact hS2.all | exact hS1.all)
    ((first
      | (go_at_call 12; (with_reducible refine (hsm _ _ _ _ _ hS0.r1 hk1 hS0.r2 hk2).mono ?_); rintro e u1 ⟨rfl, hB⟩; have hS1 := hS0.below hB; clear hB hS0)
      | (go_at_call 14; (with_reducible refine (textP hS1.r1 hk1 HT.out).mono ?_); rintro e u2 ⟨T1, q1, rfl, hq1, hT1, hB⟩; have hS2 := hS1.below hB; clear hB hS1)
      | (go_at_call 15; (with_reducible refine (rtextP hS1.r2 hk2 HT.out).mono ?_); rintro e u2 ⟨T2, q2, rfl, hq2, hT2, hB⟩; have hS3 := hS1.below hB; clear hB hS1)
      | (go_at_call 15; (with_reducible refine (rtextP hS2.r2 hk2 HT.out).mono ?_); rintro e u3 ⟨T2, q2, rfl, hq2, hT2, hB⟩; have hS4 := hS2.below hB; replace hT1 := Kd.C_below hT1 hB; clear hB hS2)
      | (go_at_call 14; (with_reducible refine (textP hS3.r1 hk1 HT.out).mono ?_); rintro e u3 ⟨T1, q1, rfl, hq1, hT1, hB⟩; have hS4 := hS3.below hB; replace hT2 := Kd.C_below hT2 hB; clear hB hS3)
      | (go_at_call 13; (with_reducible refine (textsP HPL.out hT1 hq1 hT2 hq2).mono ?_); rintro e u4 ⟨rfl, hB⟩; have hS5 := hS4.below hB; clear hB hS4)
      | (go_at_call 9; (with_reducible refine (duetlaw21_live.calls true _ (HL0.out _ hS5.bel) rfl).mono ?_); rintro e u5 ⟨rfl, hB⟩; have hS9 := hS5.below hB; clear hB hS5)))
  all_goals
    go_split_ands
    go_wp2
    go_ret
    exact ⟨rfl, hS9.bel⟩
end Go.Proofs.YtoidlaonolkgkaaDoor.PureLays
