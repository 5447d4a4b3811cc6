/- Lay: the walk. -/
import Derived.Test.YtoidlaonolkgkaaDoorGy
import Derived.Test.YtoidlaonolkgkaaDoorPx2
set_option linter.unusedVariables false
set_option linter.unusedSimpArgs false
namespace Go.Proofs.YtoidlaonolkgkaaDoor.Gz
open Go.RowKit Go.Proofs.YtoidlaonolkgkaaDoor.Giv Go.Proofs.YtoidlaonolkgkaaDoor.Gr Go.Proofs.YtoidlaonolkgkaaDoor.Gl Go.Proofs.YtoidlaonolkgkaaDoor.Gn Go.Proofs.YtoidlaonolkgkaaDoor.Gy Go.Proofs.YtoidlaonolkgkaaDoorW.PrintWords Go.Proofs.YtoidlaonolkgkaaDoorW.PrintLast
theorem rd_nat (xs : List Int) (i : Nat) (h : i < xs.length) : rd xs (i : Int) = xs[i] := by unfold rd; rw [Int.toNat_natCast, List.getD_eq_getElem?_getD, List.getElem?_eq_getElem h]; rfl
theorem pen_new {W wr : World} {base width : Nat} (hb : Below base W wr) (hs : base ≤ wr.heap.size) : Pen base W (wr.alloc (.cells #[.int .i64 (width : Int), .int .i64 0, .int .i64 0, .slice none 0 0] 54)) wr.heap.size width 0 0 0 (fun _ _ => (0, false)) [] (.slice none 0 0) :=
  ⟨heap_alloc_new _ _, hs, ⟨rfl, own_nil _ _ _ _, fun i b h => by simp at h, List.nodup_nil, fun _ _ _ => rfl⟩, hb.alloc hs _⟩
theorem room_0 {base : Nat} {W wr : World} {p width : Nat} {v : Value} (h : Pen base W wr p width 0 0 0 (fun _ _ => (0, false)) [] v) (hw : width ≤ 600) :
    Calls Tryd.prog 22 #[.pointer (some ⟨p, 0, none⟩), .int .i64 0] wr fun e w' => e = .returned (.tuple #[]) ∧ ∃ bs2 v2, Pen base W w' p width st0.row st0.col st0.n st0.G bs2 v2 ∧ Keep2 p wr w' := by
  refine (room_calls h hw (by omega) (by omega) (by omega) 0 (by omega) 0 0 (by unfold roomP; rw [if_neg (by simp)])).mono ?_
  rintro e w' ⟨rfl, bs2, v2, h1, h2⟩
  exact ⟨rfl, bs2, v2, h1, fun j t cells a b c hc => h2 j t cells a c hc⟩
theorem index_l0 (l : List Int) (x : Int) (hl : l.length ≤ 1000000) : ∀ (m i : Nat), i + m = l.length → ∃ r, P.slices_Index_int_int.l0 (m + 1) l x (l.length : Int) (i : Int) = some r ∧ decide (r ≥ 0) = (l.drop i).contains x
  | 0, i, hi => by
    unfold P.slices_Index_int_int.l0
    rw [if_neg (by omega)]
    exact ⟨_, rfl, by rw [List.drop_eq_nil_of_le (by omega)]; rfl⟩
  | m + 1, i, hi => by
    have hlt : i < l.length := by omega
    unfold P.slices_Index_int_int.l0
    rw [if_pos (by omega), if_pos (by omega), if_pos (by omega), rd_nat l i hlt, List.drop_eq_getElem_cons hlt]
    by_cases h : x = l[i]
    · rw [if_pos h]
      refine ⟨_, rfl, ?_⟩
      rw [← h]; simp
    · rw [if_neg h, show wrap64 ((i : Int) + 1) = ((i + 1 : Nat) : Int) by unfold wrap64; omega]
      obtain ⟨r, h1, h2⟩ := index_l0 l x hl m (i + 1) (by omega)
      refine ⟨r, h1, h2.trans ?_⟩
      rw [List.contains_cons, beq_eq_false_iff_ne.2 h, Bool.false_or]
theorem contains_calls (A : Option Addr) (c : Nat) (l : List Int) (x : Int) (w : World) (hC : Kd.C (Kd.int .i64) w A l.length l) (hc : l.length ≤ c) (hl : l.length ≤ 1000000) :
    Calls Tryd.prog 24 #[.slice A l.length c, .int .i64 x] w fun e w' => e = .returned (.bool (l.contains x)) ∧ Below w.heap.size w w' := by
  obtain ⟨r, h1, h2⟩ := index_l0 l x hl l.length 0 (by omega)
  have hf : P.slices_Contains_int_int.f (l.length + 1) l x = some (l.contains x) := by
    unfold P.slices_Contains_int_int.f P.slices_Index_int_int.f
    rw [show ((0 : Int)) = ((0 : Nat) : Int) from rfl, h1]
    rw [List.drop_zero] at h2
    show some (decide (r ≥ 0)) = _
    rw [h2]
  refine (P.slices_Contains_int_int.calls (l.length + 1) A c l x _ w hC hc hf).mono ?_
  rintro e w' ⟨rfl, hD⟩
  obtain ⟨n, rfl⟩ := hD.out
  exact ⟨rfl, pw_below_drewN (Below.refl _ _) n⟩
theorem room0 (width : Nat) : roomP width (0, 0) 0 = (0, 0) := by unfold roomP; rw [if_neg (by simp)]
/-- The pen lays a rune: the state's own words. -/
theorem lay_st {base : Nat} {W wr : World} {p width k : Nat} {s : LS} {bs : List Nat} {v : Value} (hL : Laid wr) (h : Pen base W wr p width s.row s.col s.n s.G bs v) (hf : Far width k s) (hw : width ≤ 600) (hw0 : 2 ≤ width) (hk : k ≤ 10000) (x : Int) :
    Calls Tryd.prog 23 #[.pointer (some ⟨p, 0, none⟩), .int .i64 x] wr fun e w' => e = .returned (.tuple #[]) ∧ ∃ bs2 v2, Pen base W w' p width (layL width s x).row (layL width s x).col (layL width s x).n (layL width s x).G bs2 v2 ∧ Keep2 p wr w' := by
  have := hf.row; have := hf.n1
  refine (lay_calls hL h hw hw0 (by omega) hf.col (by omega) x _ _ rfl).mono ?_
  rintro e w' ⟨rfl, h2⟩
  refine ⟨rfl, ?_⟩
  unfold layL
  split at h2
  · obtain ⟨v2, h3, h4⟩ := h2
    rename_i h0
    rw [if_pos h0]
    exact ⟨bs, v2, h3, h4⟩
  · rename_i h0
    rw [if_neg h0]
    exact h2
def runL (width : Nat) (s : LS) (l : List Int) : LS := l.foldl (layL width) s
theorem runL_snoc (width : Nat) (s : LS) (l : List Int) (x : Int) : runL width s (l ++ [x]) = layL width (runL width s l) x := by unfold runL; rw [List.foldl_append]; rfl
theorem cut_line (A : Option Addr) (c : Nat) (xs : List Int) (k : Nat) (hk : k ≤ xs.length) (hc : xs.length ≤ c) : ∃ A' : Option Addr, (∀ W : World, (Instr.slice 22 (.slice A xs.length c) (some (.int .i64 (k : Int))) none none).run Tryd.prog W = .ok (.slice A' (xs.drop k).length (c - k)) W) ∧
    ∀ w : World, Kd.C (Kd.int .i64) w A xs.length xs → Kd.C (Kd.int .i64) w A' (xs.drop k).length (xs.drop k) := by
  obtain ⟨i, hi1, hi2⟩ := Option.map_eq_some_iff.1 (show (Tryd.prog.info? 3).map (·.size) = some 1 by kernel_rfl)
  obtain ⟨A', h1, h2, _⟩ := print_drop_of (P := Tryd.prog) (Value.int .i64) (0 : Int) 22 3 .i64 Tryd.underlying22 hi1 hi2 A c xs (k : Int) (by omega) (by omega) hc
  rw [Int.toNat_natCast] at h1 h2
  exact ⟨A', h1, fun w h => Kd.C_of_reads (h2 w (Kd.reads_of_C (enc := Value.int .i64) (d := (0 : Int)) (h1 := fun _ => rfl) h))⟩
/-- A cell of a page's box is another. -/
theorem Pen.other {base : Nat} {W wr : World} {p width row col n : Nat} {G : Grd} {bs : List Nat} {v : Value} (h : Pen base W wr p width row col n G bs v) {j : Nat} {cs : Array Value} (hj : wr.heap[j]? = some (.cells cs 28 (0, 0))) (hb : base ≤ j) (i : Nat) (u : Value) : Pen base W (wr.setCell ⟨j, i, none⟩ u) p width row col n G bs v := by
  have ne : ∀ (b : Nat) (t : TypeId) (cells : Array Value), t ≠ 28 → wr.heap[b]? = some (.cells cells t (0, 0)) → b ≠ j := fun b t cells ht hc e => by
    rw [e, hj] at hc; have h2 := Option.some.inj hc; injection h2 with _ h3; exact ht h3.symm
  have hk : ∀ (b : Nat) (t : TypeId) (cells : Array Value), t ≠ 28 → wr.heap[b]? = some (.cells cells t (0, 0)) → (wr.setCell ⟨j, i, none⟩ u).heap[b]? = some (.cells cells t (0, 0)) := fun b t cells ht hc => (Below.heap_setCell wr ⟨j, i, none⟩ u b (ne b t cells ht hc)).trans hc
  exact ⟨hk p 54 _ (by decide) h.b, h.hp, ⟨h.grid.len, own_setCell h.grid.own (own_ne h.grid.own hj (by decide)) u, fun a b hb2 => ⟨(h.grid.blk a b hb2).1, hk b 47 _ (by decide) (h.grid.blk a b hb2).2⟩, h.grid.nd, h.grid.zero⟩, h.bel.setCell hb u⟩
/-- What Lay answers. -/
def LayPost (w : World) (width : Nat) (fin : LS × (Nat × Nat)) (e : Ending) (w' : World) : Prop := Below w.heap.size w w' ∧
  if 200 < fin.1.n then e = .returned (.tuple #[.agg #[.slice none 0 0, .int .i64 0, .int .i64 0], .int .i64 5])
  else ∃ bs v, e = .returned (.tuple #[.agg #[v, .int .i64 (fin.2.1 : Int), .int .i64 (fin.2.2 : Int)], .int .i64 0]) ∧ Grid w.heap.size w' v width fin.1.n fin.1.G bs
set_option maxHeartbeats 8000000 in
set_option maxRecDepth 100000 in
theorem lay_ok (width caret : Nat) (A1 A2 A3 : Option Addr) (c1 c2 c3 : Nat) (ps ls os : List Int) (w : World) (hL : Laid w) (h1 : Kd.C (Kd.int .i64) w A1 ps.length ps) (h2 : Kd.C (Kd.int .i64) w A2 ls.length ls) (h3 : Kd.C (Kd.int .i64) w A3 os.length os)
    (hc2 : ls.length ≤ c2) (hc3 : os.length ≤ c3) (hw0 : 2 ≤ width) (hw1 : width ≤ 512) (hp : ps.length ≤ 200) (hl : ls.length ≤ 1000) (ho : os.length ≤ 20) (hk : caret ≤ ls.length) :
    Calls Tryd.prog 10 #[.int .i64 (width : Int), .slice A1 ps.length c1, .slice A2 ls.length c2, .int .i64 (caret : Int), .slice A3 os.length c3] w (LayPost w width (lineL width caret os 0 (runL width st0 ps, (0, 0)) ls)) := by
  have HL := Lib.hid hL
  have H1 := Lib.hid h1
  have H2 := Lib.hid h2
  have H3 := Lib.hid h3
  have d1 : decide ((width : Int) < 2) = false := decide_eq_false (by omega)
  have d2 : decide ((512 : Int) < (width : Int)) = false := decide_eq_false (by omega)
  have d3 : decide ((200 : Int) < (ps.length : Int)) = false := decide_eq_false (by omega)
  have d4 : decide ((1000 : Int) < (ls.length : Int)) = false := decide_eq_false (by omega)
  have d5 : decide ((20 : Int) < (os.length : Int)) = false := decide_eq_false (by omega)
  have d6 : decide ((caret : Int) < 0) = false := decide_eq_false (by omega)
  have d7 : decide ((ls.length : Int) < (caret : Int)) = false := decide_eq_false (by omega)
  clear hL h1 h2 h3
  go_enter Tryd.func10, Tryd.ntmps10
  go_upto_region 4 with fail
  clear d1 d2 d3 d4 d5 d6 d7
  have hP0 := pen_new (W := w) (wr := w.alloc (Obj.cells #[.slice none 0 0, .int .i64 0, .int .i64 0] 28)) (base := w.heap.size) (width := width) (below_alloc (Below.refl _ _) _) (by simp)
  rw [show (w.alloc (Obj.cells #[.slice none 0 0, .int .i64 0, .int .i64 0] 28)).heap.size = w.heap.size + 1 by simp] at hP0
  have hR0 : ((w.alloc (Obj.cells #[.slice none 0 0, .int .i64 0, .int .i64 0] 28)).alloc (.cells #[.int .i64 (width : Int), .int .i64 0, .int .i64 0, .slice none 0 0] 54)).heap[w.heap.size]? = some (.cells #[.slice none 0 0, .int .i64 0, .int .i64 0] 28 (0, 0)) := (heap_alloc_old _ _ (by simp)).trans (heap_alloc_new w _)
  have HP0 := Lib.hid hP0
  have HR0 := Lib.hid hR0
  clear hP0 hR0
  generalize (w.alloc (Obj.cells #[.slice none 0 0, .int .i64 0, .int .i64 0] 28)).alloc (.cells #[.int .i64 (width : Int), .int .i64 0, .int .i64 0, .slice none 0 0] 54) = w1 at HP0 HR0 ⊢
  obtain ⟨p, hpp⟩ : ∃ p, p = w.heap.size + 1 := ⟨_, rfl⟩
  have HPP := Lib.hid hpp
  rw [← hpp] at HP0 ⊢
  clear hpp
  go_upto_region 6 with (go_at_call 22; go_loud (refine (room_0 HP0.out (by omega)).mono ?_; rintro e w2 ⟨rfl, bs2, v2, hP2, hK2⟩; have HP2 := Lib.hid hP2; have HR2 := Lib.hid (hK2 w.heap.size 28 _ (by decide) (by decide) (by rw [HPP.out]; omega) HR0.out); clear hP2 hK2))
  go_loopw [14, 59] (fun v14 v59 wr => ∃ (k : Nat) (bs : List Nat) (v : Value), v59 = .int .i64 k ∧ k ≤ ps.length ∧ Hid (Pen w.heap.size w wr p width (runL width st0 (ps.take k)).row (runL width st0 (ps.take k)).col (runL width st0 (ps.take k)).n (runL width st0 (ps.take k)).G bs v) ∧ Hid (Far width k (runL width st0 (ps.take k))) ∧ Hid (wr.heap[w.heap.size]? = some (.cells #[.slice none 0 0, .int .i64 0, .int .i64 0] 28 (0, 0)))) (fun _ v59 _ => ps.length - (intOf v59).toNat)
  case atStart => exact ⟨0, bs2, v2, rfl, Nat.zero_le _, HP2, Lib.hid (far_st0 width), HR2⟩
  case round =>
    clear HP2 HR2 HP0 HR0
    obtain ⟨k, bs, v, rfl, hk1, HP, HF, HR⟩ := hrel
    by_cases hlt : k < ps.length
    · obtain ⟨ad, rfl, cw⟩ := Kd.at_int (Kd.C_below H1.out HP.out.bel) (k : Int) (by omega) (by omega)
      rw [rd_nat ps k hlt, Int.toNat_natCast] at cw
      have HT : Hid (runL width st0 (ps.take (k + 1)) = layL width (runL width st0 (ps.take k)) ps[k]) := Lib.hid (by rw [List.take_succ_eq_append_getElem hlt, runL_snoc])
      have hS := lay_st (HL.out.below HP.out.bel) HP.out HF.out (by omega) hw0 (by omega) ps[k]
      have HF2 : Hid (Far width (k + 1) (runL width st0 (ps.take (k + 1)))) := Lib.hid (by rw [HT.out]; exact HF.out.lay hw0 _)
      rw [← HT.out] at hS
      generalize ps[k] = x at cw hS
      clear HT
      go_wp2_with (go_at_call 23; go_loud (refine hS.mono ?_; rintro e w5 ⟨rfl, bs5, v5, hP5, hK5⟩; have HP5 := Lib.hid hP5; have HR5 := Lib.hid (hK5 w.heap.size 28 _ (by decide) (by decide) (by rw [HPP.out]; omega) HR.out); clear hP5 hK5))
      go_roundw
      case rel => exact ⟨k + 1, bs5, v5, by go_num, by omega, HP5, HF2, HR5⟩
      case measure => simp [intOf]; omega
    · obtain rfl : k = ps.length := by omega
      rw [List.take_length] at HP HF
      go_upto_region 12 with fail
      have hpg : wr.heap.size ≠ w.heap.size := fun e => by have := blk_lt HR.out; omega
      have hpp2 : wr.heap.size ≠ p := fun e => by have := blk_lt HP.out.b; omega
      have hb1 := below_alloc (Below.refl wr.heap.size wr) (.cells #[.slice none 0 0, .int .i64 0, .int .i64 0] 28)
      have HP1 := Lib.hid (HP.out.below hb1)
      have HR1 := Lib.hid ((hb1.block _ (blk_lt HR.out)).trans HR.out)
      have HG1 := Lib.hid (heap_alloc_new wr (.cells #[.slice none 0 0, .int .i64 0, .int .i64 0] 28))
      have HNE := Lib.hid (And.intro hpg (And.intro hpp2 HP.out.bel.size))
      obtain ⟨FIN, hFIN⟩ : ∃ FIN, FIN = lineL width caret os 0 (runL width st0 ps, (0, 0)) ls := ⟨_, rfl⟩
      have HFIN := Lib.hid hFIN
      obtain ⟨s0, hs0⟩ : ∃ s0, s0 = runL width st0 ps := ⟨_, rfl⟩
      rw [← hs0] at HP1 HF hFIN
      clear hb1 hpg hpp2 HP HR hs0
      generalize wr.alloc (.cells #[.slice none 0 0, .int .i64 0, .int .i64 0] 28) = w4 at HP1 HR1 HG1 ⊢
      generalize wr.heap.size = pg at HG1 HNE ⊢
      go_loopw [16] (fun v16 wr => ∃ (k : Nat) (s : LS) (at' : Nat × Nat) (bs : List Nat) (v : Value), v16 = .int .i64 k ∧ k ≤ ls.length + 1 ∧ Hid (if k ≤ ls.length then lineL width caret os k (s, at') (ls.drop k) = FIN else (s, at') = FIN) ∧ Hid (Pen w.heap.size w wr p width s.row s.col s.n s.G bs v) ∧ Hid (Far width (ps.length + k) s) ∧ Hid (wr.heap[w.heap.size]? = some (.cells #[.slice none 0 0, .int .i64 0, .int .i64 0] 28 (0, 0))) ∧ Hid (wr.heap[pg]? = some (.cells #[.slice none 0 0, .int .i64 (at'.1 : Int), .int .i64 (at'.2 : Int)] 28 (0, 0)))) (fun v16 _ => ls.length + 1 - (intOf v16).toNat)
      case atStart => exact ⟨0, s0, (0, 0), bs, v, rfl, Nat.zero_le _, Lib.hid (by rw [if_pos (Nat.zero_le _)]; exact hFIN.symm), HP1, HF, HR1, HG1⟩
      case round =>
        clear HP1 HF HR1 HG1
        obtain ⟨k, s, at', bs, v, rfl, hk2, HLi, HP, HF, HR, HG⟩ := hrel
        by_cases hlt : k ≤ ls.length
        · have hCt := fun W hW => contains_calls A3 c3 os (k : Int) W hW hc3 (by omega)
          have hlin := HLi.out
          rw [if_pos hlt] at hlin
          obtain ⟨A', hcut, hsuf⟩ := cut_line A2 c2 ls k hlt hc2
          have HX : Hid ((ls.drop k = [] ∧ ¬ k < ls.length) ∨ ∃ x, ls.drop k = x :: ls.drop (k + 1) ∧ k < ls.length ∧ rd ls (k : Int) = x) := Lib.hid (by
            by_cases hx : k < ls.length
            · exact .inr ⟨_, List.drop_eq_getElem_cons hx, hx, rd_nat ls k hx⟩
            · exact .inl ⟨List.drop_eq_nil_of_le (by omega), hx⟩)
          have HS := Lib.hid hsuf
          obtain ⟨l, hll⟩ : ∃ l, l = ls.drop k := ⟨_, rfl⟩
          rw [← hll] at hlin hcut HS
          have hnx := fun W hW h => next_calls A' (c2 - k) l W hW h (by rw [hll, List.length_drop]; omega)
          have HLL := Lib.hid hll
          have HLN := Lib.hid hlin
          clear hll hsuf hlin HLi
          obtain ⟨mk, hmk⟩ : ∃ mk, mk = os.contains (k : Int) := ⟨_, rfl⟩
          have HMK := Lib.hid hmk
          rw [← hmk] at hCt
          have dle : decide ((k : Int) ≤ (ls.length : Int)) = true := decide_eq_true (by omega)
          clear hmk
          by_cases hany : mk = true ∨ k = caret
          · have dany : mk = true ∨ (mk = false ∧ ((k : Int) == (caret : Int)) = true) := by
              rcases hany with h | h
              · exact .inl h
              · cases mk
                · exact .inr ⟨rfl, by rw [h]; simp⟩
                · exact .inl rfl
            obtain ⟨hr, hhr⟩ : ∃ hr, hr = ((k : Int) == (caret : Int)) := ⟨_, rfl⟩
            have HHR := Lib.hid hhr
            rw [← hhr] at dany
            have ek := hhr.symm
            clear hany hhr
            have hor : mk = true ∨ (mk = false ∧ hr = true) := dany
            obtain ⟨A0, cp0, rfl⟩ := own_slice HP.out.grid.own
            clear dany
            rcases hor with hm | ⟨hm, hh⟩
            · subst hm
              go_upto_region 17 with (go_at_call 24; go_loud (refine (hCt _ (Kd.C_below H3.out HP.out.bel)).mono ?_; rintro e w5 ⟨rfl, hB5⟩; have HP5 := Lib.hid (HP.out.below hB5); have HR5 := Lib.hid ((hB5.block _ (blk_lt HR.out)).trans HR.out); have HG5 := Lib.hid ((hB5.block _ (blk_lt HG.out)).trans HG.out); obtain ⟨c0, c1', c2', c3', f0⟩ := HP5.out.c; clear hB5))
              have HQ := Lib.hid (Pen.copy HP5.out)
              have hb6 := below_alloc (Below.refl w5.heap.size w5) (.cells #[.int .i64 (width : Int), .int .i64 (s.row : Int), .int .i64 (s.col : Int), .slice A0 s.n cp0] 54)
              have HB6 := Lib.hid ((hb6.block _ (blk_lt HP5.out.b)).trans HP5.out.b)
              have HR6 := Lib.hid ((hb6.block _ (blk_lt HR5.out)).trans HR5.out)
              have HG6 := Lib.hid ((hb6.block _ (blk_lt HG5.out)).trans HG5.out)
              have HQN : Hid (p ≠ w5.heap.size ∧ w.heap.size ≠ w5.heap.size ∧ pg ≠ w5.heap.size) := Lib.hid ⟨fun e => by have := blk_lt HP5.out.b; omega, fun e => by have := blk_lt HR5.out; omega, fun e => by have := blk_lt HG5.out; omega⟩
              have HPB := Lib.hid HP5.out.hp
              clear hb6 c0 c1' c2' c3' f0 hCt HP5 HR5 HG5 HP HR HG
              generalize w5.alloc (.cells #[.int .i64 (width : Int), .int .i64 (s.row : Int), .int .i64 (s.col : Int), .slice A0 s.n cp0] 54) = w6 at HQ HB6 HR6 HG6 ⊢
              generalize w5.heap.size = q at HQ HQN ⊢
              obtain ⟨nw, hnw, hnw1, hnw2⟩ : ∃ nw : Nat, nextW l = (nw : Int) ∧ 1 ≤ nw ∧ nw ≤ 2 := ⟨(nextW l).toNat, by have := nextW_range l; omega, by have := nextW_range l; omega, by have := nextW_range l; omega⟩
              have HNW := Lib.hid hnw
              rw [hnw] at hnx
              obtain ⟨R, C, hRC⟩ : ∃ R C, roomP width (s.row, s.col) nw = (R, C) := ⟨_, _, rfl⟩
              have hfit := room_fits width s.row s.col nw R C hw0 HF.out.col hnw2 hRC
              have HRC := Lib.hid hRC
              have hrm := fun w1 h => @room_calls w.heap.size w w1 q width s.row s.col s.n s.G bs (.slice A0 s.n cp0) h (by omega) (by have := HF.out.row; omega) (by have := HF.out.col; omega) (by have := HF.out.n1; omega) nw hnw2 R C hRC
              clear hnw hRC
              go_upto_region 18 with (first
                | (go_at_call 25; go_loud (refine (hnx _ (HL.out.below HQ.out.bel) (HS.out _ (Kd.C_below H2.out HQ.out.bel))).mono ?_; rintro e w7 ⟨rfl, hB7⟩; have HQ7 := Lib.hid (HQ.out.below hB7); have HB7 := Lib.hid ((hB7.block _ (blk_lt HB6.out)).trans HB6.out); have HR7 := Lib.hid ((hB7.block _ (blk_lt HR6.out)).trans HR6.out); have HG7 := Lib.hid ((hB7.block _ (blk_lt HG6.out)).trans HG6.out); clear hB7))
                | (go_at_call 22; go_loud (refine (hrm _ HQ7.out).mono ?_; rintro e w8 ⟨rfl, bs8, v8, hP8, hK8⟩; have HQ8 := Lib.hid hP8; have HB8 := Lib.hid (hK8 p 54 _ (by decide) HQN.out.1 HB7.out); have HR8 := Lib.hid (hK8 w.heap.size 28 _ (by decide) HQN.out.2.1 HR7.out); have HG8 := Lib.hid (hK8 pg 28 _ (by decide) HQN.out.2.2 HG7.out); clear hP8 hK8)))
              obtain ⟨q0, q1, q2, q3, qf⟩ := HQ8.out.c
              have p3 : w8.cell? ⟨p, 3, none⟩ = some (.slice A0 s.n cp0) := by rw [blk_cell HB8.out]; rfl
              have pf := fun i => blk_frozen HB8.out i
              obtain ⟨A8, cp8, rfl⟩ := own_slice HQ8.out.grid.own
              have hT := Pen.take HQ8.out HB8.out HPB.out HQN.out.1
              have HR9 := Lib.hid ((Below.heap_setCell w8 ⟨p, 3, none⟩ (.slice A8 (max s.n (R + 1)) cp8) w.heap.size (fun e => by have h5 := HPP.out; have e2 : w.heap.size = p := e; omega)).trans HR8.out)
              have HG9 := Lib.hid ((Below.heap_setCell w8 ⟨p, 3, none⟩ (.slice A8 (max s.n (R + 1)) cp8) pg HNE.out.2.1).trans HG8.out)
              have HT := Lib.hid hT
              clear hT hrm HQ HB6 HR6 HG6 HQ7 HB7 HR7 HG7
              go_upto_region 19 with fail
              clear HQ8 HB8 HR8 HG8 q0 q1 q2 q3 qf p3 pf
              generalize w8.setCell ⟨p, 3, none⟩ (.slice A8 (max s.n (R + 1)) cp8) = w9 at HT HR9 HG9 ⊢
              go_upto_region 21 with (go_at_call 25; go_loud (refine (hnx _ (HL.out.below HT.out.1.bel) (HS.out _ (Kd.C_below H2.out HT.out.1.bel))).mono ?_; rintro e wa ⟨rfl, hBa⟩; have HPa := Lib.hid (HT.out.1.below hBa); have HQa := Lib.hid (HT.out.2.below hBa); have HRa := Lib.hid ((hBa.block _ (blk_lt HR9.out)).trans HR9.out); have HGa := Lib.hid ((hBa.block _ (blk_lt HG9.out)).trans HG9.out); clear hBa))
              have HQB := Lib.hid HQa.out.b
              have hRn : R < max s.n (R + 1) := by omega
              clear HT HR9 HG9 hnx
              go_loopw [101] (fun v101 wr => ∃ j : Nat, v101 = .int .i64 j ∧ j ≤ nw ∧ Hid (Pen w.heap.size w wr p width s.row s.col (max s.n (R + 1)) (marks s.G R C j) bs8 (.slice A8 (max s.n (R + 1)) cp8)) ∧ Hid (wr.heap[q]? = some (.cells #[.int .i64 (width : Int), .int .i64 (R : Int), .int .i64 (C : Int), .slice A8 (max s.n (R + 1)) cp8] 54 (0, 0))) ∧ Hid (wr.heap[w.heap.size]? = some (.cells #[.slice none 0 0, .int .i64 0, .int .i64 0] 28 (0, 0))) ∧ Hid (wr.heap[pg]? = some (.cells #[.slice none 0 0, .int .i64 (at'.1 : Int), .int .i64 (at'.2 : Int)] 28 (0, 0)))) (fun v101 _ => nw - (intOf v101).toNat)
              case atStart => exact ⟨0, rfl, Nat.zero_le _, HPa, HQB, HRa, HGa⟩
              case round =>
                clear HPa HQB HRa HGa HQa
                obtain ⟨j, rfl, hj, HPj, HQj, HRj, HGj⟩ := hrel
                by_cases hjn : j < nw
                · have dj : decide ((j : Int) < (nw : Int)) = true := decide_eq_true (by omega)
                  obtain ⟨qq, cap, b, hv, hb, hq, hbb, _⟩ := Grid.at_ HPj.out.grid R hRn
                  injection hv with hv _ _
                  subst hv
                  obtain ⟨_, _, _, p3, _⟩ := HPj.out.c
                  have q1 : wr.cell? ⟨q, 1, none⟩ = some (.int .i64 (R : Int)) := by rw [blk_cell HQj.out]; rfl
                  have q2 : wr.cell? ⟨q, 2, none⟩ = some (.int .i64 (C : Int)) := by rw [blk_cell HQj.out]; rfl
                  obtain ⟨_, d1, f1⟩ := Pen.cellR HPj.out hb (C := C + j) (by omega)
                  have m0 : (0 : Int) ≤ (R : Int) := by omega
                  have m1 : (R : Int) < ((max s.n (R + 1) : Nat) : Int) := by omega
                  have m2 : ((C + j : Nat) : Int) < (width : Int) := by omega
                  have hwc : IntKind.i64.wrap ((C : Int) + (j : Int)) = ((C + j : Nat) : Int) := by rw [IntKind.wrap_i64]; omega
                  have HS5 := Lib.hid (Pen.setM HPj.out hb hRn (C := C + j) (by omega) ((C + j) * 2 + 1) rfl)
                  go_upto_region 23 with fail
                  go_region
                  all_goals
                    go_wp2
                    go_roundw
                    case rel => exact ⟨j + 1, by go_num, by omega, Lib.hid (HS5.out.1.below (below_drew (Below.refl _ _))), Lib.hid (HS5.out.2 q 54 _ (by decide) HQj.out), Lib.hid (HS5.out.2 w.heap.size 28 _ (by decide) HRj.out), Lib.hid (HS5.out.2 pg 28 _ (by decide) HGj.out)⟩
                    case measure => simp [intOf]; omega
                · obtain rfl : j = nw := by omega
                  have dj : decide ((j : Int) < (j : Int)) = false := decide_eq_false (by omega)
                  cases hr with
                  | false =>
                    have hcp : caretP width s l = (R, C) := by unfold caretP; rw [HNW.out, Int.toNat_natCast, HRC.out]
                    obtain ⟨s1, hs1⟩ : ∃ s1, s1 = spot width s l true false := ⟨_, rfl⟩
                    have hs2 : s1 = ⟨s.row, s.col, max s.n (R + 1), marks s.G R C j⟩ := by rw [hs1]; unfold spot; rw [hcp, HNW.out]; rfl
                    obtain ⟨at1, hat1⟩ : ∃ at1, at1 = if false = true then caretP width s l else at' := ⟨_, rfl⟩
                    have HN : Hid ((l = [] → (s1, at1) = FIN) ∧ ∀ x, l = x :: ls.drop (k + 1) → lineL width caret os (k + 1) (layL width s1 x, at1) (ls.drop (k + 1)) = FIN) := Lib.hid ⟨fun e => by
                        have h9 := HLN.out
                        rw [e, lineL, ← HMK.out, ek] at h9
                        rw [hs1, hat1, e]
                        exact h9, fun x e => by
                        have h9 := HLN.out
                        rw [e, lineL, ← HMK.out, ek] at h9
                        rw [hs1, hat1, e]
                        exact h9⟩
                    have HF1 : Hid (Far width (ps.length + k) s1) := Lib.hid (by rw [hs1]; exact HF.out.spot hw0 l _ _)
                    have HP1 : Hid (Pen w.heap.size w wr p width s1.row s1.col s1.n s1.G bs8 (.slice A8 (max s.n (R + 1)) cp8)) := Lib.hid (by rw [hs2]; exact HPj.out)
                    have hat2 : at1 = at' := by rw [hat1, if_neg (by simp)]
                    subst hat2
                    clear hs1 hs2 hat1 hcp HPj HQj
                    go_upto_region 27 with fail
                    rcases HX.out with ⟨hnil, hx⟩ | ⟨x, hcons, hx, hrd⟩
                    · have dlt : decide ((k : Int) < (ls.length : Int)) = false := decide_eq_false (by omega)
                      have HFI := Lib.hid (HN.out.1 (HLL.out.trans hnil))
                      go_wp2
                      go_roundw
                      case rel => exact ⟨k + 1, s1, at1, bs8, (.slice A8 (max s.n (R + 1)) cp8), by go_num, by omega, Lib.hid (by rw [if_neg (by omega)]; exact HFI.out), HP1, Lib.hid ⟨by have := HF1.out.row; omega, HF1.out.col, by have := HF1.out.n1; omega, HF1.out.n2⟩, HRj, HGj⟩
                      case measure => simp [intOf]; omega
                    · have dlt : decide ((k : Int) < (ls.length : Int)) = true := decide_eq_true (by omega)
                      have HFI := Lib.hid (HN.out.2 x (HLL.out.trans hcons))
                      obtain ⟨ad, rfl, cw⟩ := Kd.at_int (Kd.C_below H2.out HP1.out.bel) (k : Int) (by omega) (by omega)
                      rw [hrd, Int.toNat_natCast] at cw
                      have hS := lay_st (HL.out.below HP1.out.bel) HP1.out HF1.out (by omega) hw0 (by omega) x
                      have HF2 := Lib.hid (HF1.out.lay hw0 x)
                      clear hrd hcons
                      go_wp2_with (go_at_call 23; go_loud (refine hS.mono ?_; rintro e wz ⟨rfl, bsz, vz, hPz, hKz⟩; have HPz := Lib.hid hPz; have HRz := Lib.hid (hKz w.heap.size 28 _ (by decide) (by decide) (by rw [HPP.out]; omega) HRj.out); have HGz := Lib.hid (hKz pg 28 _ (by decide) (by decide) HNE.out.2.1 HGj.out); clear hPz hKz))
                      go_roundw
                      case rel => exact ⟨k + 1, layL width s1 x, at1, bsz, vz, by go_num, by omega, Lib.hid (by rw [if_pos (by omega)]; exact HFI.out), HPz, HF2, HRz, HGz⟩
                      case measure => simp [intOf]; omega
                  | true =>
                    have hcp : caretP width s l = (R, C) := by unfold caretP; rw [HNW.out, Int.toNat_natCast, HRC.out]
                    obtain ⟨s1, hs1⟩ : ∃ s1, s1 = spot width s l true true := ⟨_, rfl⟩
                    have hs2 : s1 = ⟨s.row, s.col, max s.n (R + 1), marks s.G R C j⟩ := by rw [hs1]; unfold spot; rw [hcp, HNW.out]; rfl
                    obtain ⟨at1, hat1⟩ : ∃ at1, at1 = if true = true then caretP width s l else at' := ⟨_, rfl⟩
                    have HN : Hid ((l = [] → (s1, at1) = FIN) ∧ ∀ x, l = x :: ls.drop (k + 1) → lineL width caret os (k + 1) (layL width s1 x, at1) (ls.drop (k + 1)) = FIN) := Lib.hid ⟨fun e => by
                        have h9 := HLN.out
                        rw [e, lineL, ← HMK.out, ek] at h9
                        rw [hs1, hat1, e]
                        exact h9, fun x e => by
                        have h9 := HLN.out
                        rw [e, lineL, ← HMK.out, ek] at h9
                        rw [hs1, hat1, e]
                        exact h9⟩
                    have HF1 : Hid (Far width (ps.length + k) s1) := Lib.hid (by rw [hs1]; exact HF.out.spot hw0 l _ _)
                    have HP1 : Hid (Pen w.heap.size w wr p width s1.row s1.col s1.n s1.G bs8 (.slice A8 (max s.n (R + 1)) cp8)) := Lib.hid (by rw [hs2]; exact HPj.out)
                    have hat2 : at1 = (R, C) := by rw [hat1, if_pos rfl, hcp]
                    have q1 : wr.cell? ⟨q, 1, none⟩ = some (.int .i64 (R : Int)) := by rw [blk_cell HQj.out]; rfl
                    have q2 : wr.cell? ⟨q, 2, none⟩ = some (.int .i64 (C : Int)) := by rw [blk_cell HQj.out]; rfl
                    have g1 : wr.cell? ⟨pg, 1, none⟩ = some (.int .i64 (at'.1 : Int)) := by rw [blk_cell HGj.out]; rfl
                    have g2 : wr.cell? ⟨pg, 2, none⟩ = some (.int .i64 (at'.2 : Int)) := by rw [blk_cell HGj.out]; rfl
                    have g3 := fun i => blk_frozen HGj.out i
                    have gq := HQN.out.2.2
                    have gq2 : q ≠ pg := fun e => gq e.symm
                    go_upto_region 26 with fail
                    go_region
                    have hPt := Pen.other (Pen.other HP1.out HGj.out HNE.out.2.2 1 (.int .i64 (R : Int))) (blk_put HGj.out 1 (.int .i64 (R : Int)) rfl) HNE.out.2.2 2 (.int .i64 (C : Int))
                    have HPt := Lib.hid (hPt.below (below_drew (Below.refl _ _)))
                    have HGt := Lib.hid (show ((wr.setCell ⟨pg, 1, none⟩ (.int .i64 (R : Int))).setCell ⟨pg, 2, none⟩ (.int .i64 (C : Int))).drew.heap[pg]? = some (.cells #[.slice none 0 0, .int .i64 (at1.1 : Int), .int .i64 (at1.2 : Int)] 28 (0, 0)) by rw [hat2]; exact blk_put (blk_put HGj.out 1 (.int .i64 (R : Int)) rfl) 2 (.int .i64 (C : Int)) rfl)
                    have HRt := Lib.hid (show ((wr.setCell ⟨pg, 1, none⟩ (.int .i64 (R : Int))).setCell ⟨pg, 2, none⟩ (.int .i64 (C : Int))).drew.heap[w.heap.size]? = some (.cells #[.slice none 0 0, .int .i64 0, .int .i64 0] 28 (0, 0)) from (Below.heap_setCell _ ⟨pg, 2, none⟩ _ _ (fun e => HNE.out.1 e.symm)).trans ((Below.heap_setCell wr ⟨pg, 1, none⟩ _ _ (fun e => HNE.out.1 e.symm)).trans HRj.out))
                    clear hPt q1 q2 g1 g2 g3 gq gq2 hs1 hs2 hat1 hat2 hcp HP1 HPj HRj HGj
                    generalize ((wr.setCell ⟨pg, 1, none⟩ (.int .i64 (R : Int))).setCell ⟨pg, 2, none⟩ (.int .i64 (C : Int))).drew = wt at HPt HGt HRt ⊢
                    go_upto_region 27 with fail
                    rcases HX.out with ⟨hnil, hx⟩ | ⟨x, hcons, hx, hrd⟩
                    · have dlt : decide ((k : Int) < (ls.length : Int)) = false := decide_eq_false (by omega)
                      have HFI := Lib.hid (HN.out.1 (HLL.out.trans hnil))
                      go_wp2
                      go_roundw
                      case rel => exact ⟨k + 1, s1, at1, bs8, (.slice A8 (max s.n (R + 1)) cp8), by go_num, by omega, Lib.hid (by rw [if_neg (by omega)]; exact HFI.out), HPt, Lib.hid ⟨by have := HF1.out.row; omega, HF1.out.col, by have := HF1.out.n1; omega, HF1.out.n2⟩, HRt, HGt⟩
                      case measure => simp [intOf]; omega
                    · have dlt : decide ((k : Int) < (ls.length : Int)) = true := decide_eq_true (by omega)
                      have HFI := Lib.hid (HN.out.2 x (HLL.out.trans hcons))
                      obtain ⟨ad, rfl, cw⟩ := Kd.at_int (Kd.C_below H2.out HPt.out.bel) (k : Int) (by omega) (by omega)
                      rw [hrd, Int.toNat_natCast] at cw
                      have hS := lay_st (HL.out.below HPt.out.bel) HPt.out HF1.out (by omega) hw0 (by omega) x
                      have HF2 := Lib.hid (HF1.out.lay hw0 x)
                      clear hrd hcons
                      go_wp2_with (go_at_call 23; go_loud (refine hS.mono ?_; rintro e wz ⟨rfl, bsz, vz, hPz, hKz⟩; have HPz := Lib.hid hPz; have HRz := Lib.hid (hKz w.heap.size 28 _ (by decide) (by decide) (by rw [HPP.out]; omega) HRt.out); have HGz := Lib.hid (hKz pg 28 _ (by decide) (by decide) HNE.out.2.1 HGt.out); clear hPz hKz))
                      go_roundw
                      case rel => exact ⟨k + 1, layL width s1 x, at1, bsz, vz, by go_num, by omega, Lib.hid (by rw [if_pos (by omega)]; exact HFI.out), HPz, HF2, HRz, HGz⟩
                      case measure => simp [intOf]; omega
            · subst hm hh
              go_upto_region 17 with (go_at_call 24; go_loud (refine (hCt _ (Kd.C_below H3.out HP.out.bel)).mono ?_; rintro e w5 ⟨rfl, hB5⟩; have HP5 := Lib.hid (HP.out.below hB5); have HR5 := Lib.hid ((hB5.block _ (blk_lt HR.out)).trans HR.out); have HG5 := Lib.hid ((hB5.block _ (blk_lt HG.out)).trans HG.out); obtain ⟨c0, c1', c2', c3', f0⟩ := HP5.out.c; clear hB5))
              have HQ := Lib.hid (Pen.copy HP5.out)
              have hb6 := below_alloc (Below.refl w5.heap.size w5) (.cells #[.int .i64 (width : Int), .int .i64 (s.row : Int), .int .i64 (s.col : Int), .slice A0 s.n cp0] 54)
              have HB6 := Lib.hid ((hb6.block _ (blk_lt HP5.out.b)).trans HP5.out.b)
              have HR6 := Lib.hid ((hb6.block _ (blk_lt HR5.out)).trans HR5.out)
              have HG6 := Lib.hid ((hb6.block _ (blk_lt HG5.out)).trans HG5.out)
              have HQN : Hid (p ≠ w5.heap.size ∧ w.heap.size ≠ w5.heap.size ∧ pg ≠ w5.heap.size) := Lib.hid ⟨fun e => by have := blk_lt HP5.out.b; omega, fun e => by have := blk_lt HR5.out; omega, fun e => by have := blk_lt HG5.out; omega⟩
              have HPB := Lib.hid HP5.out.hp
              clear hb6 c0 c1' c2' c3' f0 hCt HP5 HR5 HG5 HP HR HG
              generalize w5.alloc (.cells #[.int .i64 (width : Int), .int .i64 (s.row : Int), .int .i64 (s.col : Int), .slice A0 s.n cp0] 54) = w6 at HQ HB6 HR6 HG6 ⊢
              generalize w5.heap.size = q at HQ HQN ⊢
              obtain ⟨nw, hnw, hnw1, hnw2⟩ : ∃ nw : Nat, nextW l = (nw : Int) ∧ 1 ≤ nw ∧ nw ≤ 2 := ⟨(nextW l).toNat, by have := nextW_range l; omega, by have := nextW_range l; omega, by have := nextW_range l; omega⟩
              have HNW := Lib.hid hnw
              rw [hnw] at hnx
              obtain ⟨R, C, hRC⟩ : ∃ R C, roomP width (s.row, s.col) nw = (R, C) := ⟨_, _, rfl⟩
              have hfit := room_fits width s.row s.col nw R C hw0 HF.out.col hnw2 hRC
              have HRC := Lib.hid hRC
              have hrm := fun w1 h => @room_calls w.heap.size w w1 q width s.row s.col s.n s.G bs (.slice A0 s.n cp0) h (by omega) (by have := HF.out.row; omega) (by have := HF.out.col; omega) (by have := HF.out.n1; omega) nw hnw2 R C hRC
              clear hnw hRC
              go_upto_region 18 with (first
                | (go_at_call 25; go_loud (refine (hnx _ (HL.out.below HQ.out.bel) (HS.out _ (Kd.C_below H2.out HQ.out.bel))).mono ?_; rintro e w7 ⟨rfl, hB7⟩; have HQ7 := Lib.hid (HQ.out.below hB7); have HB7 := Lib.hid ((hB7.block _ (blk_lt HB6.out)).trans HB6.out); have HR7 := Lib.hid ((hB7.block _ (blk_lt HR6.out)).trans HR6.out); have HG7 := Lib.hid ((hB7.block _ (blk_lt HG6.out)).trans HG6.out); clear hB7))
                | (go_at_call 22; go_loud (refine (hrm _ HQ7.out).mono ?_; rintro e w8 ⟨rfl, bs8, v8, hP8, hK8⟩; have HQ8 := Lib.hid hP8; have HB8 := Lib.hid (hK8 p 54 _ (by decide) HQN.out.1 HB7.out); have HR8 := Lib.hid (hK8 w.heap.size 28 _ (by decide) HQN.out.2.1 HR7.out); have HG8 := Lib.hid (hK8 pg 28 _ (by decide) HQN.out.2.2 HG7.out); clear hP8 hK8)))
              obtain ⟨q0, q1, q2, q3, qf⟩ := HQ8.out.c
              have p3 : w8.cell? ⟨p, 3, none⟩ = some (.slice A0 s.n cp0) := by rw [blk_cell HB8.out]; rfl
              have pf := fun i => blk_frozen HB8.out i
              obtain ⟨A8, cp8, rfl⟩ := own_slice HQ8.out.grid.own
              have hT := Pen.take HQ8.out HB8.out HPB.out HQN.out.1
              have HR9 := Lib.hid ((Below.heap_setCell w8 ⟨p, 3, none⟩ (.slice A8 (max s.n (R + 1)) cp8) w.heap.size (fun e => by have h5 := HPP.out; have e2 : w.heap.size = p := e; omega)).trans HR8.out)
              have HG9 := Lib.hid ((Below.heap_setCell w8 ⟨p, 3, none⟩ (.slice A8 (max s.n (R + 1)) cp8) pg HNE.out.2.1).trans HG8.out)
              have HT := Lib.hid hT
              clear hT hrm HQ HB6 HR6 HG6 HQ7 HB7 HR7 HG7
              go_upto_region 25 with fail
              clear HQ8 HB8 HR8 HG8 q0 q1 q2 q3 qf p3 pf
              generalize w8.setCell ⟨p, 3, none⟩ (.slice A8 (max s.n (R + 1)) cp8) = w9 at HT HR9 HG9 ⊢
              have hcp : caretP width s l = (R, C) := by unfold caretP; rw [HNW.out, Int.toNat_natCast, HRC.out]
              obtain ⟨s1, hs1⟩ : ∃ s1, s1 = spot width s l false true := ⟨_, rfl⟩
              have hs2 : s1 = ⟨s.row, s.col, max s.n (R + 1), s.G⟩ := by rw [hs1]; unfold spot; rw [hcp, HNW.out]; rfl
              obtain ⟨at1, hat1⟩ : ∃ at1, at1 = if true = true then caretP width s l else at' := ⟨_, rfl⟩
              have HN : Hid ((l = [] → (s1, at1) = FIN) ∧ ∀ x, l = x :: ls.drop (k + 1) → lineL width caret os (k + 1) (layL width s1 x, at1) (ls.drop (k + 1)) = FIN) := Lib.hid ⟨fun e => by
                  have h9 := HLN.out
                  rw [e, lineL, ← HMK.out, ek] at h9
                  rw [hs1, hat1, e]
                  exact h9, fun x e => by
                  have h9 := HLN.out
                  rw [e, lineL, ← HMK.out, ek] at h9
                  rw [hs1, hat1, e]
                  exact h9⟩
              have HF1 : Hid (Far width (ps.length + k) s1) := Lib.hid (by rw [hs1]; exact HF.out.spot hw0 l _ _)
              have HP1 : Hid (Pen w.heap.size w w9 p width s1.row s1.col s1.n s1.G bs8 (.slice A8 (max s.n (R + 1)) cp8)) := Lib.hid (by rw [hs2]; exact HT.out.1)
              have hat2 : at1 = (R, C) := by rw [hat1, if_pos rfl, hcp]
              obtain ⟨_, q1, q2, _, _⟩ := HT.out.2.c
              have g1 : w9.cell? ⟨pg, 1, none⟩ = some (.int .i64 (at'.1 : Int)) := by rw [blk_cell HG9.out]; rfl
              have g2 : w9.cell? ⟨pg, 2, none⟩ = some (.int .i64 (at'.2 : Int)) := by rw [blk_cell HG9.out]; rfl
              have g3 := fun i => blk_frozen HG9.out i
              have gq := HQN.out.2.2
              have gq2 : q ≠ pg := fun e => gq e.symm
              go_upto_region 26 with fail
              go_region
              have hPt := Pen.other (Pen.other HP1.out HG9.out HNE.out.2.2 1 (.int .i64 (R : Int))) (blk_put HG9.out 1 (.int .i64 (R : Int)) rfl) HNE.out.2.2 2 (.int .i64 (C : Int))
              have HPt := Lib.hid (hPt.below (below_drew (Below.refl _ _)))
              have HGt := Lib.hid (show ((w9.setCell ⟨pg, 1, none⟩ (.int .i64 (R : Int))).setCell ⟨pg, 2, none⟩ (.int .i64 (C : Int))).drew.heap[pg]? = some (.cells #[.slice none 0 0, .int .i64 (at1.1 : Int), .int .i64 (at1.2 : Int)] 28 (0, 0)) by rw [hat2]; exact blk_put (blk_put HG9.out 1 (.int .i64 (R : Int)) rfl) 2 (.int .i64 (C : Int)) rfl)
              have HRt := Lib.hid (show ((w9.setCell ⟨pg, 1, none⟩ (.int .i64 (R : Int))).setCell ⟨pg, 2, none⟩ (.int .i64 (C : Int))).drew.heap[w.heap.size]? = some (.cells #[.slice none 0 0, .int .i64 0, .int .i64 0] 28 (0, 0)) from (Below.heap_setCell _ ⟨pg, 2, none⟩ _ _ (fun e => HNE.out.1 e.symm)).trans ((Below.heap_setCell w9 ⟨pg, 1, none⟩ _ _ (fun e => HNE.out.1 e.symm)).trans HR9.out))
              clear hPt q1 q2 g1 g2 g3 gq gq2 hs1 hs2 hat1 hat2 hcp HP1 HT HR9 HG9
              generalize ((w9.setCell ⟨pg, 1, none⟩ (.int .i64 (R : Int))).setCell ⟨pg, 2, none⟩ (.int .i64 (C : Int))).drew = wt at HPt HGt HRt ⊢
              go_upto_region 27 with fail
              rcases HX.out with ⟨hnil, hx⟩ | ⟨x, hcons, hx, hrd⟩
              · have dlt : decide ((k : Int) < (ls.length : Int)) = false := decide_eq_false (by omega)
                have HFI := Lib.hid (HN.out.1 (HLL.out.trans hnil))
                go_wp2
                go_roundw
                case rel => exact ⟨k + 1, s1, at1, bs8, (.slice A8 (max s.n (R + 1)) cp8), by go_num, by omega, Lib.hid (by rw [if_neg (by omega)]; exact HFI.out), HPt, Lib.hid ⟨by have := HF1.out.row; omega, HF1.out.col, by have := HF1.out.n1; omega, HF1.out.n2⟩, HRt, HGt⟩
                case measure => simp [intOf]; omega
              · have dlt : decide ((k : Int) < (ls.length : Int)) = true := decide_eq_true (by omega)
                have HFI := Lib.hid (HN.out.2 x (HLL.out.trans hcons))
                obtain ⟨ad, rfl, cw⟩ := Kd.at_int (Kd.C_below H2.out HPt.out.bel) (k : Int) (by omega) (by omega)
                rw [hrd, Int.toNat_natCast] at cw
                have hS := lay_st (HL.out.below HPt.out.bel) HPt.out HF1.out (by omega) hw0 (by omega) x
                have HF2 := Lib.hid (HF1.out.lay hw0 x)
                clear hrd hcons
                go_wp2_with (go_at_call 23; go_loud (refine hS.mono ?_; rintro e wz ⟨rfl, bsz, vz, hPz, hKz⟩; have HPz := Lib.hid hPz; have HRz := Lib.hid (hKz w.heap.size 28 _ (by decide) (by decide) (by rw [HPP.out]; omega) HRt.out); have HGz := Lib.hid (hKz pg 28 _ (by decide) (by decide) HNE.out.2.1 HGt.out); clear hPz hKz))
                go_roundw
                case rel => exact ⟨k + 1, layL width s1 x, at1, bsz, vz, by go_num, by omega, Lib.hid (by rw [if_pos (by omega)]; exact HFI.out), HPz, HF2, HRz, HGz⟩
                case measure => simp [intOf]; omega
          · obtain ⟨hm0, hc0⟩ : mk = false ∧ k ≠ caret := ⟨by cases mk; rfl; exact absurd (.inl rfl) hany, fun e => hany (.inr e)⟩
            subst hm0
            have ek : ((k : Int) == (caret : Int)) = false := by simp only [beq_eq_false_iff_ne]; omega
            clear hany
            have hsp : ∀ l, spot width s l (os.contains (k : Int)) ((k : Int) == (caret : Int)) = s := fun l => by rw [← HMK.out, ek]; rfl
            have HN : Hid ((l = [] → (s, at') = FIN) ∧ ∀ x, l = x :: ls.drop (k + 1) → lineL width caret os (k + 1) (layL width s x, at') (ls.drop (k + 1)) = FIN) := Lib.hid ⟨fun e => by
                have := HLN.out
                rw [e, lineL, hsp, ek] at this
                exact this, fun x e => by
                have := HLN.out
                rw [e, lineL, hsp, ek] at this
                exact this⟩
            clear hsp
            go_upto_region 27 with (go_at_call 24; go_loud (refine (hCt _ (Kd.C_below H3.out HP.out.bel)).mono ?_; rintro e w5 ⟨rfl, hB5⟩; have HP5 := Lib.hid (HP.out.below hB5); have HR5 := Lib.hid ((hB5.block _ (blk_lt HR.out)).trans HR.out); have HG5 := Lib.hid ((hB5.block _ (blk_lt HG.out)).trans HG.out); clear hB5))
            clear hCt hnx hcut dle ek HP HR HG
            rcases HX.out with ⟨hnil, hx⟩ | ⟨x, hcons, hx, hrd⟩
            · have dlt : decide ((k : Int) < (ls.length : Int)) = false := decide_eq_false (by omega)
              have HFI := Lib.hid (HN.out.1 (HLL.out.trans hnil))
              go_wp2
              go_roundw
              case rel => exact ⟨k + 1, s, at', bs, v, by go_num, by omega, Lib.hid (by rw [if_neg (by omega)]; exact HFI.out), HP5, Lib.hid ⟨by have := HF.out.row; omega, HF.out.col, by have := HF.out.n1; omega, HF.out.n2⟩, HR5, HG5⟩
              case measure => simp [intOf]; omega
            · have dlt : decide ((k : Int) < (ls.length : Int)) = true := decide_eq_true (by omega)
              have HFI := Lib.hid (HN.out.2 x (HLL.out.trans hcons))
              obtain ⟨ad, rfl, cw⟩ := Kd.at_int (Kd.C_below H2.out HP5.out.bel) (k : Int) (by omega) (by omega)
              rw [hrd, Int.toNat_natCast] at cw
              have hS := lay_st (HL.out.below HP5.out.bel) HP5.out HF.out (by omega) hw0 (by omega) x
              have HF2 := Lib.hid (HF.out.lay hw0 x)
              clear hrd hcons
              go_wp2_with (go_at_call 23; go_loud (refine hS.mono ?_; rintro e w6 ⟨rfl, bs6, v6, hP6, hK6⟩; have HP6 := Lib.hid hP6; have HR6 := Lib.hid (hK6 w.heap.size 28 _ (by decide) (by decide) (by rw [HPP.out]; omega) HR5.out); have HG6 := Lib.hid (hK6 pg 28 _ (by decide) (by decide) HNE.out.2.1 HG5.out); clear hP6 hK6))
              go_roundw
              case rel => exact ⟨k + 1, layL width s x, at', bs6, v6, by go_num, by omega, Lib.hid (by rw [if_pos (by omega)]; exact HFI.out), HP6, HF2, HR6, HG6⟩
              case measure => simp [intOf]; omega
        · obtain rfl : k = ls.length + 1 := by omega
          have hfin : (s, at') = FIN := by have := HLi.out; rw [if_neg hlt] at this; exact this
          have HE : Hid (lineL width caret os 0 (runL width st0 ps, (0, 0)) ls = (s, at')) := Lib.hid (HFIN.out.symm.trans hfin.symm)
          obtain ⟨A, cp, rfl⟩ := own_slice HP.out.grid.own
          obtain ⟨c0, c1', c2', c3', f0⟩ := HP.out.c
          have g0 : wr.cell? ⟨pg, 0, none⟩ = some (.slice none 0 0) := by rw [blk_cell HG.out]; rfl
          have g1 : wr.cell? ⟨pg, 1, none⟩ = some (.int .i64 (at'.1 : Int)) := by rw [blk_cell HG.out]; rfl
          have g2 : wr.cell? ⟨pg, 2, none⟩ = some (.int .i64 (at'.2 : Int)) := by rw [blk_cell HG.out]; rfl
          have g3 := fun i => blk_frozen HG.out i
          have r0 : wr.cell? ⟨w.heap.size, 0, none⟩ = some (.slice none 0 0) := by rw [blk_cell HR.out]; rfl
          have r1 : wr.cell? ⟨w.heap.size, 1, none⟩ = some (.int .i64 0) := by rw [blk_cell HR.out]; rfl
          have r2 : wr.cell? ⟨w.heap.size, 2, none⟩ = some (.int .i64 0) := by rw [blk_cell HR.out]; rfl
          have r3 := fun i => blk_frozen HR.out i
          have hne := HNE.out
          clear HLi hfin hlt
          by_cases hbig : 200 < s.n
          · have e1 : decide ((200 : Int) < (s.n : Int)) = true := decide_eq_true (by omega)
            have HB3 : Hid ((((wr.setCell ⟨w.heap.size, 0, none⟩ (.slice none 0 0)).setCell ⟨w.heap.size, 1, none⟩ (.int .i64 0)).setCell ⟨w.heap.size, 2, none⟩ (.int .i64 0)).heap[w.heap.size]? = some (.cells #[.slice none 0 0, .int .i64 0, .int .i64 0] 28 (0, 0))) := Lib.hid (blk_put (blk_put (blk_put HR.out 0 (.slice none 0 0) rfl) 1 (.int .i64 0) rfl) 2 (.int .i64 0) rfl)
            go_wp2
            refine bodyPost_ret (results_ct rfl _ _ w.heap.size 28 _ (0, 0) _ rfl HB3.out Tryd.underlying28 rfl (by kernel_rfl)) rfl ?_
            refine ⟨((HP.out.bel.setCell (Nat.le_refl _) _).setCell (Nat.le_refl _) _).setCell (Nat.le_refl _) _, ?_⟩
            rw [HE.out, if_pos hbig]
            rfl
          · have e1 : decide ((200 : Int) < (s.n : Int)) = false := decide_eq_false (by omega)
            have hpw : w.heap.size ≤ pg := hne.2.2
            have HB3 : Hid (((((wr.setCell ⟨pg, 0, none⟩ (.slice A s.n cp)).setCell ⟨w.heap.size, 0, none⟩ (.slice A s.n cp)).setCell ⟨w.heap.size, 1, none⟩ (.int .i64 (at'.1 : Int))).setCell ⟨w.heap.size, 2, none⟩ (.int .i64 (at'.2 : Int))).heap[w.heap.size]? = some (.cells #[.slice A s.n cp, .int .i64 (at'.1 : Int), .int .i64 (at'.2 : Int)] 28 (0, 0))) := Lib.hid (blk_put (blk_put (blk_put ((Below.heap_setCell wr ⟨pg, 0, none⟩ _ _ (fun e => hne.1 e.symm)).trans HR.out) 0 (.slice A s.n cp) rfl) 1 (.int .i64 (at'.1 : Int)) rfl) 2 (.int .i64 (at'.2 : Int)) rfl)
            have hne2 := hne.1
            have hne3 : w.heap.size ≠ pg := fun e => hne.1 e.symm
            go_wp2
            refine bodyPost_ret (results_ct rfl _ _ w.heap.size 28 _ (0, 0) _ rfl HB3.out Tryd.underlying28 rfl (by kernel_rfl)) rfl ?_
            refine ⟨(((HP.out.bel.setCell hpw _).setCell (Nat.le_refl _) _).setCell (Nat.le_refl _) _).setCell (Nat.le_refl _) _, ?_⟩
            rw [HE.out, if_neg hbig]
            have gs : ∀ (w1 : World) (j i : Nat) (u : Value) (cs : Array Value), w1.heap[j]? = some (.cells cs 28 (0, 0)) → ∀ v, Grid w.heap.size w1 v width s.n s.G bs → Grid w.heap.size (w1.setCell ⟨j, i, none⟩ u) v width s.n s.G bs := fun w1 j i u cs hj v hg =>
              ⟨hg.len, own_setCell hg.own (own_ne hg.own hj (by decide)) u, fun i2 b hb => ⟨(hg.blk i2 b hb).1, (Below.heap_setCell w1 ⟨j, i, none⟩ u b (fun e => by
                have hq := (hg.blk i2 b hb).2
                rw [e, hj] at hq; have h2 := Option.some.inj hq; injection h2 with _ h3; exact absurd h3 (by decide))).trans (hg.blk i2 b hb).2⟩, hg.nd, hg.zero⟩
            have b1 := (Below.heap_setCell wr ⟨pg, 0, none⟩ (.slice A s.n cp) _ hne3).trans HR.out
            have b2 := blk_put b1 0 (.slice A s.n cp) rfl
            have b3 := blk_put b2 1 (.int .i64 (at'.1 : Int)) rfl
            exact ⟨bs, _, rfl, gs _ _ _ _ _ b3 _ (gs _ _ _ _ _ b2 _ (gs _ _ _ _ _ b1 _ (gs _ _ _ _ _ HG.out _ HP.out.grid)))⟩
end Go.Proofs.YtoidlaonolkgkaaDoor.Gz
