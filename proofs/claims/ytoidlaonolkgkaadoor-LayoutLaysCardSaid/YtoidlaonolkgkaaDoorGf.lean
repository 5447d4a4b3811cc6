/- Text: the walk. -/
import Derived.Test.YtoidlaonolkgkaaDoorGe
import Derived.Test.YtoidlaonolkgkaaDoorGd
set_option linter.unusedVariables false
set_option linter.unusedSimpArgs false
namespace Go.Proofs.YtoidlaonolkgkaaDoor.Gf
open Go.RowKit Go.Proofs.YtoidlaonolkgkaaDoor.Giv Go.Proofs.YtoidlaonolkgkaaDoor.Gr Go.Proofs.YtoidlaonolkgkaaDoor.Gl Go.Proofs.YtoidlaonolkgkaaDoor.Gn Go.Proofs.YtoidlaonolkgkaaDoorW.PrintWords Go.Proofs.YtoidlaonolkgkaaDoorW.PrintLast Go.Proofs.YtoidlaonolkgkaaDoor.P Go.Proofs.YtoidlaonolkgkaaDoor.Gc Go.Proofs.YtoidlaonolkgkaaDoor.Gd Go.Proofs.YtoidlaonolkgkaaDoor.Ge
theorem info9 : (Tryd.prog.info? 9).map (fun i => (i.zero, i.size, i.bytes)) = some (some (.string ByteArray.empty), 1, 16) := by kernel_rfl
theorem drawn_below {w w' : World} (h : Drawn0 w w') : Below w.heap.size w w' := by
  obtain ⟨n, rfl⟩ := h.out
  exact pw_below_drewN (Below.refl _ _) n
/-- The texts so far. -/
structure TS (w0 wr : World) (v : Value) (l : List ByteArray) : Prop where
  row : wr.ownsRow w0.heap.size 9 1 v l.length (l.map Value.string)
  bel : Below w0.heap.size w0 wr
theorem TS.below {w0 wr w1 : World} {v : Value} {l : List ByteArray} (h : TS w0 wr v l) (hb : Below wr.heap.size wr w1) : TS w0 w1 v l :=
  ⟨own_keep h.row (fun j hj => hb.block j (own_lt h.row j hj)), h.bel.trans ⟨hb.os, hb.tape, hb.output, hb.size, fun i hi => hb.block i (Nat.lt_of_lt_of_le hi h.bel.size)⟩⟩
/-- The texts so far, and a Builder beside them. -/
structure TB (w0 wr : World) (b : Nat) (bs : List UInt8) (v : Value) (l : List ByteArray) : Prop where
  ts : TS w0 wr v l
  bd : Lib.IsBuilderF 67 5 w0.heap.size b (Lib.byteCells bs) wr
theorem bat_below {B b : Nat} {p : Value} {bs : List Value} {w w1 : World} (h : Lib.BuilderAtF 67 5 B b p bs w) (hb : Below w.heap.size w w1) : Lib.BuilderAtF 67 5 B b p bs w1 := by
  obtain ⟨h0, v, h1, ⟨h2, h3⟩, h4⟩ := h
  refine ⟨h0, v, (hb.block b (blk_lt h1)).trans h1, ⟨h2, ?_⟩, h4⟩
  rcases h3 with q | ⟨g, cap, cur, fz, q0, q1, q2, q3⟩
  · exact .inl q
  · exact .inr ⟨g, cap, cur, fz, q0, q1, (hb.block g (Array.getElem?_eq_some_iff.1 q2).1).trans q2, q3⟩
theorem bld_below {B b : Nat} {bs : List Value} {w w1 : World} (h : Lib.IsBuilderF 67 5 B b bs w) (hb : Below w.heap.size w w1) : Lib.IsBuilderF 67 5 B b bs w1 := h.elim (fun x => .inl (bat_below x hb)) (fun x => .inr (bat_below x hb))
theorem bld_blk {B b : Nat} {bs : List Value} {w : World} (h : Lib.IsBuilderF 67 5 B b bs w) : ∃ cs, w.heap[b]? = some (.cells cs 67 (0, 0)) := by
  rcases h with ⟨_, v, h1, _⟩ | ⟨_, v, h1, _⟩
  · exact ⟨_, h1⟩
  · exact ⟨_, h1⟩
theorem TB.below {w0 wr w1 : World} {b : Nat} {bs : List UInt8} {v : Value} {l : List ByteArray} (h : TB w0 wr b bs v l) (hb : Below wr.heap.size wr w1) : TB w0 w1 b bs v l := ⟨h.ts.below hb, bld_below h.bd hb⟩
theorem TS.kept {w0 wr w1 : World} {b : Nat} {v : Value} {l : List ByteArray} (h : TS w0 wr v l) (hbd : ∃ cs, wr.heap[b]? = some (.cells cs 67 (0, 0))) (hb : Below w0.heap.size wr w1) (hk : Lib.OthersKept 5 (some b) wr w1) : TS w0 w1 v l := by
  refine ⟨own_keep h.row (fun j hj => ?_), h.bel.trans hb⟩
  obtain ⟨cs, hc⟩ := own_typed h.row j hj
  obtain ⟨cs2, hc2⟩ := hbd
  refine (hk j _ hc (fun e => ?_) (fun c fz e => ?_)).trans hc.symm
  · have e2 := Option.some.inj e
    rw [e2, hc2] at hc; have h2 := Option.some.inj hc; injection h2 with _ h3; exact absurd h3 (by decide)
  · injection e with _ h3; exact absurd h3 (by decide)
theorem TB.write {w0 wr w1 : World} {b : Nat} {bs : List UInt8} {v : Value} {l : List ByteArray} {r : Int} (h : TB w0 wr b bs v l) (h1 : Lib.BuilderAtF 67 5 w0.heap.size b (.pointer (some ⟨b, 0, none⟩)) (Lib.byteCells bs ++ Lib.runeCells r) w1) (h2 : Below w0.heap.size wr w1) (h3 : Lib.OthersKept 5 (some b) wr w1) : TB w0 w1 b (bs ++ Lib.encodeRune r) v l :=
  ⟨h.ts.kept (bld_blk h.bd) h2 h3, .inr (by rw [Lib.byteCells_append, Lib.byteCells_encodeRune]; exact h1)⟩
theorem TB.box {w0 wr : World} {b cb : Nat} {bs : List UInt8} {v : Value} {l : List ByteArray} {cs : Array Value} (h : TB w0 wr b bs v l) (hc : wr.heap[cb]? = some (.cells cs 47 (0, 0))) (hb : w0.heap.size ≤ cb) (u : Value) : TB w0 (wr.setCell ⟨cb, 0, none⟩ u) b bs v l := by
  have hk : ∀ j (cells : Array Value) (t : TypeId) (fz : Nat × Nat), t ≠ 47 → wr.heap[j]? = some (Obj.cells cells t fz) → (wr.setCell ⟨cb, 0, none⟩ u).heap[j]? = some (Obj.cells cells t fz) := fun j cells t fz ht hj => (Below.heap_setCell wr ⟨cb, 0, none⟩ u j (fun e => by
    have e2 : j = cb := e
    rw [e2, hc] at hj; have h2 := Option.some.inj hj; injection h2 with _ h3; exact ht h3.symm)).trans hj
  refine ⟨⟨own_keep h.ts.row (fun j hj => ?_), h.ts.bel.setCell hb u⟩, ?_⟩
  · obtain ⟨cells, hc2⟩ := own_typed h.ts.row j hj
    exact (hk j _ 9 _ (by decide) hc2).trans hc2.symm
  · have hat : ∀ p, Lib.BuilderAtF 67 5 w0.heap.size b p (Lib.byteCells bs) wr → Lib.BuilderAtF 67 5 w0.heap.size b p (Lib.byteCells bs) (wr.setCell ⟨cb, 0, none⟩ u) := by
      rintro p ⟨h0, v, h1, ⟨h2, h3⟩, h4⟩
      refine ⟨h0, v, hk _ _ 67 _ (by decide) h1, ⟨h2, ?_⟩, h4⟩
      rcases h3 with q | ⟨g, cap, cur, fz, q0, q1, q2, q3⟩
      · exact .inl q
      · exact .inr ⟨g, cap, cur, fz, q0, q1, hk _ _ 5 _ (by decide) q2, q3⟩
    exact h.bd.elim (fun x => .inl (hat _ x)) (fun x => .inr (hat _ x))
theorem TS.push {w0 wr w1 : World} {v v1 : Value} {l : List ByteArray} {s : ByteArray} (h : TS w0 wr v l) (hown : w1.ownsRow w0.heap.size 9 1 v1 (l.map Value.string ++ [Value.string s]).length (l.map Value.string ++ [Value.string s])) (hb : Below w0.heap.size w0 w1) : TS w0 w1 v1 (l ++ [s]) := by
  refine ⟨?_, hb⟩
  rw [List.map_append, show (l ++ [s]).length = (l.map Value.string ++ [Value.string s]).length by simp]
  exact hown
theorem cellB_len (c : S47) : (cellB c).length ≤ 4 := by
  unfold cellB
  split
  · simp
  · have := Lib.encodeRuneZ_length (signN (if c.f0 = 0 then 32 else c.f0))
    unfold Lib.encodeRune; rw [List.length_map]; omega
theorem rowB_len (row : List S47) : (rowB row).length ≤ 4 * row.length := by
  induction row with
  | nil => simp [rowB]
  | cons c l ih =>
    have := cellB_len c
    unfold rowB at *
    rw [List.flatMap_cons, List.length_append, List.length_cons]; omega
theorem rowB_take (row : List S47) (j : Nat) (h : j < row.length) : rowB (row.take (j + 1)) = rowB (row.take j) ++ cellB row[j] := by
  unfold rowB
  rw [List.take_succ_eq_append_getElem h, List.flatMap_append, List.flatMap_cons, List.flatMap_nil, List.append_nil]
theorem pageT_take (rows : List (List S47)) (k : Nat) (h : k < rows.length) : pageT (rows.take (k + 1)) = pageT (rows.take k) ++ [⟨(rowT rows[k]).toArray⟩] := by
  unfold pageT
  rw [List.take_succ_eq_append_getElem h, List.map_append]; rfl
set_option maxHeartbeats 8000000 in
set_option maxRecDepth 100000 in
theorem text_calls (A : Option Addr) (c : Nat) (rows : List (List S47)) (row col : Int) (w : World) (hC : Kd.C (Kd.slice 47 k47) w A rows.length rows) (hl : rows.length ≤ 1000) (hr : ∀ r ∈ rows, r.length ≤ 1000) :
    Calls Tryd.prog 14 #[.agg #[.slice A rows.length c, .int .i64 row, .int .i64 col]] w fun e w' => ∃ v, e = .returned v ∧ TS w w' v (pageT rows) := by
  have HC := Lib.hid hC
  have HRr := Lib.hid hr
  clear hC hr
  go_enter Tryd.func14, Tryd.ntmps14
  go_upto_region 3 with fail
  have hB0 := below_alloc (Below.refl w.heap.size w) (.cells #[.slice A rows.length c, .int .i64 row, .int .i64 col] 28)
  have HB0 := Lib.hid hB0
  clear hB0
  generalize w.alloc (.cells #[.slice A rows.length c, .int .i64 row, .int .i64 col] 28) = w1 at HB0 ⊢
  go_loopw [3, 12] (fun v3 v12 wr => ∃ k : Nat, v12 = .int .i64 k ∧ k ≤ rows.length ∧ Hid (TS w wr v3 (pageT (rows.take k)))) (fun _ v12 _ => rows.length - (intOf v12).toNat)
  case atStart => exact ⟨0, rfl, Nat.zero_le _, Lib.hid ⟨own_nil _ _ _ _, HB0.out⟩⟩
  case round =>
    obtain ⟨k, rfl, hk, HT⟩ := hrel
    obtain ⟨A3, c3, rfl⟩ := own_slice HT.out.row
    by_cases hlt : k < rows.length
    · obtain ⟨ad, A0, c0, rfl, cw0, hc0, hCr⟩ := at_L6 HC.out (k : Int) (by omega) (by omega)
      rw [rdL6 rows k hlt] at cw0 hc0 hCr
      rw [Int.toNat_natCast] at cw0
      have cw := pw_cell_below HT.out.bel cw0
      clear cw0
      have HP : Hid (pageT (rows.take (k + 1)) = pageT (rows.take k) ++ [⟨(rowT rows[k]).toArray⟩] ∧ rows[k].length ≤ 1000) := Lib.hid ⟨pageT_take rows k hlt, HRr.out _ (List.getElem_mem hlt)⟩
      generalize rows[k] = row at cw hc0 hCr HP
      have hrl := HP.out.2
      have HCr := Lib.hid hCr
      clear hCr
      have hpl : (pageT (rows.take k)).length = k := by unfold pageT; rw [List.length_map, List.length_take]; omega
      have HPL := Lib.hid hpl
      generalize pageT (rows.take k) = strs at *
      clear hpl
      go_upto_region 7 with fail
      go_step3
      go_wp2
      go_step3
      go_upto_region 7 with fail
      have HT1 := Lib.hid (show TB w (wr.alloc (.cells #[.pointer none, .slice none 0 0] 67)) wr.heap.size [] (.slice A3 strs.length c3) strs from ⟨HT.out.below (below_alloc (Below.refl _ _) _), .of (.inl ⟨HT.out.bel.size, _, heap_alloc_new _ _, own_nil _ _ _ _, by simp [Value.ownBlock]⟩)⟩)
      clear cw HT
      generalize wr.alloc (.cells #[.pointer none, .slice none 0 0] 67) = w2 at HT1 ⊢
      generalize wr.heap.size = b at HT1 ⊢
      go_loopw [18] (fun v18 wi => ∃ j : Nat, v18 = .int .i64 j ∧ j ≤ row.length ∧ Hid (TB w wi b (rowB (row.take j)) (.slice A3 strs.length c3) strs)) (fun v18 _ => row.length - (intOf v18).toNat)
      case atStart => exact ⟨0, rfl, Nat.zero_le _, HT1⟩
      case round =>
        clear HT1
        obtain ⟨j, rfl, hj, HTi⟩ := hrel
        by_cases hlj : j < row.length
        · obtain ⟨ad2, rfl, dw, dm⟩ := at_T47 (Kd.C_below HCr.out HTi.out.ts.bel) (j : Int) (by omega) (by omega)
          rw [rd47 row j hlj, Int.toNat_natCast] at dw dm
          have HX : Hid (rowB (row.take (j + 1)) = rowB (row.take j) ++ cellB row[j] ∧ (rowB (row.take j)).length ≤ 4 * 1000) := Lib.hid ⟨rowB_take row j hlj, by have := rowB_len (row.take j); rw [List.length_take] at this; omega⟩
          generalize row[j] = x at dw dm HX
          obtain ⟨x0, x1⟩ := x
          dsimp only at dw dm
          have hbl := HX.out.2
          go_upto_region 9 with fail
          have HT3 := Lib.hid (HTi.out.below (below_alloc (Below.refl wr.heap.size wr) (.cells #[.int .i64 x0, .bool x1] 47)))
          have HB3 := Lib.hid (heap_alloc_new wr (.cells #[.int .i64 x0, .bool x1] 47))
          have HCBb := Lib.hid HTi.out.ts.bel.size
          clear dw dm HTi
          generalize wr.alloc (.cells #[.int .i64 x0, .bool x1] 47) = w3 at HT3 HB3 ⊢
          generalize wr.heap.size = cb at HB3 HCBb ⊢
          have z0 : w3.cell? ⟨cb, 0, none⟩ = some (.int .i64 x0) := by rw [blk_cell HB3.out]; rfl
          by_cases q1 : x0 = -1
          · have e1 : (x0 == -1) = true := by simp [q1]
            have HCB : Hid (rowB (row.take (j + 1)) = rowB (row.take j)) := Lib.hid (by rw [HX.out.1]; unfold cellB; rw [if_pos q1, List.append_nil])
            clear q1
            go_wp2
            go_roundw
            case rel => first | exact ⟨j + 1, by go_num, by omega, Lib.hid (by rw [HCB.out]; exact HT3.out)⟩ | repeat (first | (refine And.intro ?_ rfl; exact ⟨j + 1, by go_num, by omega, Lib.hid (by rw [HCB.out]; exact HT3.out)⟩) | apply Exists.intro)
            case measure => simp [intOf]; omega
          · have e1 : (x0 == -1) = false := by simp [q1]
            by_cases q0 : x0 = 0
            · have e0 : (x0 == 0) = true := by simp [q0]
              have HCB : Hid (rowB (row.take (j + 1)) = rowB (row.take j) ++ Lib.encodeRune (signN 32)) := Lib.hid (by rw [HX.out.1]; unfold cellB; rw [if_neg q1, if_pos q0])
              have zf : w3.frozen? ⟨cb, 0, none⟩ = false := blk_frozen HB3.out 0
              clear q1 q0
              go_upto_region 13 with fail
              have z1 : (w3.setCell ⟨cb, 0, none⟩ (.int .i64 32)).cell? ⟨cb, 0, none⟩ = some (.int .i64 32) := by rw [blk_cell (blk_put HB3.out 0 (.int .i64 32) rfl)]; rfl
              have HT4 := Lib.hid (HT3.out.box HB3.out HCBb.out (.int .i64 32))
              clear HT3 z0 zf
              generalize w3.setCell ⟨cb, 0, none⟩ (.int .i64 32) = w4 at z1 HT4 ⊢
              have hsg := fun W => layout_sign.calls (32) _ W (sign_f (32))
              have hsr : -2147483648 ≤ signN (32) ∧ signN (32) ≤ 2147483647 := by unfold signN; split <;> omega
              have hw30 := fun W h h2 => writeRune_calls w.heap.size b (Lib.byteCells (rowB (row.take j))) (signN (32)) hsr.1 hsr.2 W h (by rw [Lib.byteCells_length]; omega) h2
              generalize signN (32) = sg at hsg hw30 HCB
              clear hsr
              go_wp2_with (first
                | (go_at_call 31; go_loud (refine (hsg _).mono ?_; rintro e w5 ⟨rfl, hD5⟩; have hB5 := drawn_below hD5; have HT5 := Lib.hid (HT4.out.below hB5); clear hB5 hD5))
                | (go_at_call 30; go_loud (refine (hw30 _ HT5.out.bd HT5.out.ts.bel.size).mono ?_; rintro e w6 ⟨rfl, h1, h2, h3⟩; have HT6 := Lib.hid (HT5.out.write h1 h2 h3); clear h1 h2 h3)))
              go_roundw
              case rel => first | exact ⟨j + 1, by go_num, by omega, Lib.hid (by rw [HCB.out]; exact HT6.out)⟩ | repeat (first | (refine And.intro ?_ rfl; exact ⟨j + 1, by go_num, by omega, Lib.hid (by rw [HCB.out]; exact HT6.out)⟩) | apply Exists.intro)
              case measure => simp [intOf]; omega
            · have e0 : (x0 == 0) = false := by simp [q0]
              have HCB : Hid (rowB (row.take (j + 1)) = rowB (row.take j) ++ Lib.encodeRune (signN x0)) := Lib.hid (by rw [HX.out.1]; unfold cellB; rw [if_neg q1, if_neg q0])
              clear q1 q0
              have hsg := fun W => layout_sign.calls x0 _ W (sign_f x0)
              have hsr : -2147483648 ≤ signN x0 ∧ signN x0 ≤ 2147483647 := by unfold signN; split <;> omega
              have hw30 := fun W h h2 => writeRune_calls w.heap.size b (Lib.byteCells (rowB (row.take j))) (signN x0) hsr.1 hsr.2 W h (by rw [Lib.byteCells_length]; omega) h2
              generalize signN x0 = sg at hsg hw30 HCB
              clear hsr
              go_wp2_with (first
                | (go_at_call 31; go_loud (refine (hsg _).mono ?_; rintro e w5 ⟨rfl, hD5⟩; have hB5 := drawn_below hD5; have HT5 := Lib.hid (HT3.out.below hB5); clear hB5 hD5))
                | (go_at_call 30; go_loud (refine (hw30 _ HT5.out.bd HT5.out.ts.bel.size).mono ?_; rintro e w6 ⟨rfl, h1, h2, h3⟩; have HT6 := Lib.hid (HT5.out.write h1 h2 h3); clear h1 h2 h3)))
              go_roundw
              case rel => first | exact ⟨j + 1, by go_num, by omega, Lib.hid (by rw [HCB.out]; exact HT6.out)⟩ | repeat (first | (refine And.intro ?_ rfl; exact ⟨j + 1, by go_num, by omega, Lib.hid (by rw [HCB.out]; exact HT6.out)⟩) | apply Exists.intro)
              case measure => simp [intOf]; omega
        · obtain rfl : j = row.length := by omega
          have hT3 := HTi.out
          rw [List.take_length] at hT3
          have HT3 := Lib.hid hT3
          have hst := fun W h h2 => string_calls w.heap.size b (rowB row) W h h2
          have hrb : (rowB row).length ≤ 1000000 := by have := rowB_len row; omega
          have htr := fun W => trim_calls (rowB row) hrb W
          have hrt : rowT row = trimR (rowB row) := rfl
          rw [← hrt] at htr
          clear hT3 HTi hrb hrt
          obtain ⟨str, hstr⟩ : ∃ s : ByteArray, s = ⟨(rowT row).toArray⟩ := ⟨_, rfl⟩
          rw [← hstr] at htr
          have HSTR := Lib.hid hstr
          clear hstr
          generalize (⟨(rowB row).toArray⟩ : ByteArray) = sb at hst htr
          have hgo : (strs.length + 1) * 16 ≤ 140737488355328 := by rw [HPL.out]; omega
          have HPN : Hid (pageT (rows.take (k + 1)) = strs ++ [str]) := Lib.hid (by rw [HP.out.1, HSTR.out])
          go_wp2_with (first
            | (go_at_call 33; go_loud (refine (hst _ HT3.out.bd HT3.out.ts.bel.size).mono ?_; rintro e w5 ⟨rfl, h1, h2, h3⟩; have HT5 := Lib.hid (HT3.out.ts.kept (bld_blk HT3.out.bd) h2 h3); clear h1 h2 h3))
            | (go_at_call 32; go_loud (refine (htr _).mono ?_; rintro e w6 ⟨rfl, hB6⟩; have HT6 := Lib.hid (HT5.out.below hB6); clear hB6))
            | (at_builtin; go_loud (refine print_append w.heap.size rfl _ _ 37 9 (.string ByteArray.empty) 16 rfl Tryd.underlying37 info9 rfl (by decide) (.slice A3 strs.length c3) (strs.map Value.string) (.string str) rfl rfl rfl (by rw [List.length_map]; exact HT6.out.row) HT6.out.bel HT6.out.bel.size (by rw [List.length_map]; omega) ?_; intro v1 w7 hown hB7 hgr hat; have HT7 := Lib.hid (HT6.out.push hown hB7); clear hown hB7 hgr hat)))
          rw [Exit.noGoto_normal]
          go_wp2
          go_roundw
          case rel => first | exact ⟨k + 1, by go_num, by omega, Lib.hid (by rw [HPN.out]; exact HT7.out)⟩ | repeat (first | (refine And.intro ?_ rfl; exact ⟨k + 1, by go_num, by omega, Lib.hid (by rw [HPN.out]; exact HT7.out)⟩) | apply Exists.intro)
          case measure => simp [intOf]; omega
    · obtain rfl : k = rows.length := by omega
      obtain ⟨strs, hs⟩ : ∃ s, s = pageT rows := ⟨_, rfl⟩
      have hT := HT.out
      rw [List.take_length, ← hs] at hT
      have HT2 := Lib.hid hT
      rw [List.take_length, ← hs]
      have HS := Lib.hid hs
      clear hT hs HT
      go_wp2
      go_ret
      exact ⟨_, rfl, by rw [← HS.out]; exact HT2.out⟩
end Go.Proofs.YtoidlaonolkgkaaDoor.Gf
