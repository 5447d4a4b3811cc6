/- frame.Reader with its strings.Builder: the state, and Len, WriteByte, Reset, String, New, Bad: the walks. -/
import Derived.Test.YtacocgomhodboaaProg
import Derived.Test.YtacocgomhodboaaWWords
import Derived.Test.YtacocgomhodboaaWLast
import Derived.Lib.Hide
import Derived.Lib.Builder
import Derived.Lib.UnsafeStr
import Derived.Lib.AppendStr
import Derived.StillTailTactics
import Derived.BigQuiet
import Derived.Deep.QuietTactic
import Derived.Deep.RegionHeld3
import Derived.OwnWalk
import Derived.IntWalk
import Derived.WalkKit
import Derived.Laws.Externs
set_option linter.unusedVariables false
set_option linter.unusedSimpArgs false
namespace Go.Proofs.Ytacocgomhodboaa.Rd
open Go.RowKit Go.Proofs.YtacocgomhodboaaW.PrintWords Go.Proofs.YtacocgomhodboaaW.PrintLast
/-- What lies in the reader's block; what is foreign is kept and is none of its. -/
structure RdB (K : Nat → Option Obj) (W : World) (base g : Nat) (p v : Value) (l : List UInt8) (long : Bool) (bad : Int) : Prop where
  hp : p = .pointer none ∨ p = .pointer (some ⟨g, 0, none⟩)
  hb : W.heap[g]? = some (.cells #[p, v, .bool long, .int .i64 bad] 46 (0, 0))
  hg : base ≤ g
  row : W.ownsRow base 5 1 v l.length (Lib.byteCells l)
  fr : ∀ j o, K j = some o → W.heap[j]? = some o ∧ j ≠ g ∧ v.ownBlock ≠ some j
structure Rd (K : Nat → Option Obj) (w0 W : World) (g : Nat) (l : List UInt8) (long : Bool) (bad : Int) : Prop where
  bl : Below w0.heap.size w0 W
  ex : ∃ p v, RdB K W w0.heap.size g p v l long bad
theorem Len_calls {K : Nat → Option Obj} {w0 W : World} {g : Nat} {l : List UInt8} {long : Bool} {bad : Int} (h : Rd K w0 W g l long bad) :
    Calls Try.prog 22 #[.pointer (some ⟨g, 0, none⟩)] W fun e w' => e = .returned (.int .i64 l.length) ∧ w' = W := by
  obtain ⟨p, v, hR⟩ := h.ex
  obtain ⟨A, c, rfl⟩ := own_slice hR.row
  have c1 : W.cell? ⟨g, 1, none⟩ = some (.slice A l.length c) := by rw [blk_cell hR.hb]; rfl
  clear h hR
  go_enter Try.func22, Try.ntmps22
  go_wp2
  go_ret
  exact ⟨rfl, rfl⟩
theorem New_calls (K : Nat → Option Obj) (w : World) (hK : ∀ j o, K j = some o → w.heap[j]? = some o) :
    Calls Try.prog 14 #[] w fun e w' => ∃ g, e = .returned (.pointer (some ⟨g, 0, none⟩)) ∧ Rd K w w' g [] false 0 := by
  go_enter Try.func14, Try.ntmps14
  go_wp2
  go_ret
  refine ⟨w.heap.size, rfl, below_alloc (Below.refl _ _) _, .pointer none, .slice none 0 0, .inl rfl, heap_alloc_new _ _, Nat.le_refl _, own_nil _ _ _ _, fun j o hj => ?_⟩
  have hlt := blk_lt (hK j o hj)
  exact ⟨((below_alloc (Below.refl w.heap.size w) _).block j hlt).trans (hK j o hj), by omega, by simp [Value.ownBlock]⟩
theorem Bad_nil (w : World) : Calls Try.prog 18 #[.pointer none] w fun e w' => e = .returned (.int .i64 0) ∧ w' = w := by
  go_enter Try.func18, Try.ntmps18
  go_wp2
  go_ret
  exact ⟨rfl, rfl⟩
theorem Bad_calls {K : Nat → Option Obj} {w0 W : World} {g : Nat} {l : List UInt8} {long : Bool} {bad : Int} (h : Rd K w0 W g l long bad) :
    Calls Try.prog 18 #[.pointer (some ⟨g, 0, none⟩)] W fun e w' => e = .returned (.int .i64 bad) ∧ w' = W := by
  obtain ⟨p, v, hR⟩ := h.ex
  have c1 : W.cell? ⟨g, 3, none⟩ = some (.int .i64 bad) := by rw [blk_cell hR.hb]; rfl
  clear h hR
  go_enter Try.func18, Try.ntmps18
  go_wp2
  go_ret
  exact ⟨rfl, rfl⟩
theorem size44 : (Try.prog.info? 44).map (·.size) = some 2 := by kernel_rfl
theorem info44 : ∃ j, Try.prog.info? 44 = some j ∧ j.size ≠ 0 := by
  obtain ⟨j, hj, h⟩ := Option.map_eq_some_iff.1 size44
  exact ⟨j, hj, by rw [h]; decide⟩
theorem lies44 : liesAt Try.prog Try.prog.depth 46 (4 / Try.prog.cellsOf 46) 0 44 1 = true := by kernel_rfl
theorem copyCheck_used (b : Nat) (w : World) (h0 : w.cell? ⟨b, 0, none⟩ = some (.pointer (some ⟨b, 0, none⟩))) :
    Calls Try.prog 31 #[.pointer (some ⟨b, 0, none⟩)] w fun e w' => e = .returned (.tuple #[]) ∧ w' = w := by
  obtain ⟨j, hj, _⟩ := info44
  go_enter Try.func31, Try.ntmps31
  go_wp2
  rw [Lib.run_neq_ptr_same w _ Try.underlying42 hj]
  go_wp2
  go_end0
  exact ⟨rfl, rfl⟩
theorem copyCheck_fresh (b : Nat) (w : World) (h0 : w.cell? ⟨b, 0, none⟩ = some (.pointer none)) (hsh : w.shape? b = some (46, 4)) (hfz : w.frozen? ⟨b, 0, none⟩ = false) :
    Calls Try.prog 31 #[.pointer (some ⟨b, 0, none⟩)] w fun e w' => e = .returned (.tuple #[]) ∧ w' = w.setCell ⟨b, 0, none⟩ (.pointer (some ⟨b, 0, none⟩)) := by
  obtain ⟨j, hj, hjs⟩ := info44
  go_enter Try.func31, Try.ntmps31
  go_wp2
  rw [Lib.run_to_unsafe w ⟨b, 0, none⟩ Try.underlying42 Try.underlying58 hj hjs hsh (Nat.zero_lt_succ 3)]
  simp only [Result.andThen]
  rw [Oper.upon_value]
  go_wp2
  rw [run_callFunc_extern Try.func37 (by kernel_rfl) (by kernel_rfl) (by kernel_rfl) (e := Extern.AbiNoEscape.same) (by kernel_rfl)]
  rw [Lib.run_noEscape]
  simp only [Result.andThen]
  rw [Oper.upon_value]
  go_wp2
  rw [Lib.run_from_unsafe w ⟨b, 0, none⟩ Try.underlying58 Try.underlying42 hj hsh lies44]
  simp only [Result.andThen]
  rw [Oper.upon_value]
  go_wp2
  go_end0
  exact ⟨rfl, rfl⟩
theorem RdB.ne {K : Nat → Option Obj} {W : World} {base g : Nat} {p v : Value} {l : List UInt8} {long : Bool} {bad : Int} (h : RdB K W base g p v l long bad) : some g ≠ v.ownBlock := own_ne h.row h.hb (by decide)
/-- One of the reader's own cells is another. -/
theorem RdB.set_ {K : Nat → Option Obj} {W : World} {base g : Nat} {p v p' v' : Value} {l l' : List UInt8} {long long' : Bool} {bad bad' : Int} (h : RdB K W base g p v l long bad) (i : Nat) (u : Value)
    (he : (#[p, v, .bool long, .int .i64 bad] : Array Value).setIfInBounds i u = #[p', v', .bool long', .int .i64 bad']) (hp : p' = .pointer none ∨ p' = .pointer (some ⟨g, 0, none⟩)) (hr : W.ownsRow base 5 1 v' l'.length (Lib.byteCells l')) (hf : ∀ j o, K j = some o → v'.ownBlock ≠ some j) :
    RdB K (W.setCell ⟨g, i, none⟩ u) base g p' v' l' long' bad' :=
  have hne := own_ne hr h.hb (by decide)
  ⟨hp, blk_put h.hb i u he, h.hg, own_setCell hr hne u, fun j o hj => by
    obtain ⟨h1, h2, _⟩ := h.fr j o hj
    exact ⟨(Below.heap_setCell W ⟨g, i, none⟩ u j h2).trans h1, h2, hf j o hj⟩⟩
theorem copyCheck_calls {K : Nat → Option Obj} {w0 W : World} {g : Nat} {l : List UInt8} {long : Bool} {bad : Int} (h : Rd K w0 W g l long bad) :
    Calls Try.prog 31 #[.pointer (some ⟨g, 0, none⟩)] W fun e w' => e = .returned (.tuple #[]) ∧ Below w0.heap.size w0 w' ∧ ∃ v, RdB K w' w0.heap.size g (.pointer (some ⟨g, 0, none⟩)) v l long bad := by
  obtain ⟨p, v, hR⟩ := h.ex
  rcases hR.hp with rfl | rfl
  · refine (copyCheck_fresh g W (by rw [blk_cell hR.hb]; rfl) (by simp [World.shape?, hR.hb]) (blk_frozen hR.hb 0)).mono ?_
    rintro e w' ⟨rfl, rfl⟩
    exact ⟨rfl, h.bl.setCell hR.hg _, v, hR.set_ 0 _ rfl (.inr rfl) hR.row (fun j o hj => (hR.fr j o hj).2.2)⟩
  · refine (copyCheck_used g W (by rw [blk_cell hR.hb]; rfl)).mono ?_
    rintro e w' ⟨rfl, rfl⟩
    exact ⟨rfl, h.bl, v, hR⟩
theorem info5 : (Try.prog.info? 5).map (fun i => (i.zero, i.size, i.bytes)) = some (some (.int .u8 0), 1, 1) := by kernel_rfl
/-- What else grew: the reader stays, but for its row. -/
theorem RdB.grown {K : Nat → Option Obj} {W W1 : World} {base g : Nat} {p v v' : Value} {l l' : List UInt8} {long : Bool} {bad : Int} (h : RdB K W base g p v l long bad) (hg : W.grownBy W1 v.ownBlock) (ha : v'.ownBlock = v.ownBlock ∨ ∃ b, v'.ownBlock = some b ∧ W.heap.size ≤ b) :
    W1.heap[g]? = some (.cells #[p, v, .bool long, .int .i64 bad] 46 (0, 0)) ∧ ∀ j o, K j = some o → W1.heap[j]? = some o ∧ j ≠ g ∧ v'.ownBlock ≠ some j := by
  refine ⟨(hg.block g (blk_lt h.hb) h.ne).trans h.hb, fun j o hj => ?_⟩
  obtain ⟨h1, h2, h3⟩ := h.fr j o hj
  refine ⟨(hg.block j (blk_lt h1) (fun e => h3 e.symm)).trans h1, h2, ?_⟩
  rcases ha with ha | ⟨b, hb, hlt⟩
  · rw [ha]; exact h3
  · rw [hb]
    intro e
    have := blk_lt h1
    injection e with e
    omega
set_option maxHeartbeats 1000000 in
theorem WriteByte_calls {K : Nat → Option Obj} {w0 W : World} {g : Nat} {l : List UInt8} {long : Bool} {bad : Int} (h : Rd K w0 W g l long bad) (hl : l.length < 5000) (c : UInt8) :
    Calls Try.prog 23 #[.pointer (some ⟨g, 0, none⟩), .int .u8 c.toNat] W fun e w' => e = .returned .nilIface ∧ Rd K w0 w' g (l ++ [c]) long bad := by
  have hc := copyCheck_calls h
  clear h
  go_enter Try.func23, Try.ntmps23
  go_upto_region 2 with (go_at_call 31; with_reducible refine hc.mono ?_; rintro e w1 ⟨rfl, hB1, v, hR⟩)
  have hv := own_slice hR.row
  obtain ⟨A, cp, rfl⟩ := hv
  have c1 : w1.cell? ⟨g, 1, none⟩ = some (.slice A l.length cp) := by rw [blk_cell hR.hb]; rfl
  have HR := Lib.hid hR
  have HB := Lib.hid hB1
  clear hR hB1
  go_wp2_with (at_builtin; refine print_append w0.heap.size rfl _ _ 39 5 (.int .u8 0) 1 rfl Try.underlying39 info5 rfl (by decide) (.slice A l.length cp) (Lib.byteCells l) (.int .u8 c.toNat) rfl rfl rfl (by rw [Lib.byteCells_length]; exact HR.out.row) HB.out HB.out.size (by rw [Lib.byteCells_length]; omega) ?_; intro v1 w2 hown hB2 hgr hat; obtain ⟨A2, k2, rfl⟩ := own_slice hown; obtain ⟨b2, f2⟩ := HR.out.grown (l' := []) hgr hat; have d1 : w2.cell? ⟨g, 1, none⟩ = some (.slice A l.length cp) := (by rw [blk_cell b2]; rfl); have e1 : w2.frozen? ⟨g, 1, none⟩ = false := blk_frozen b2 1; have HO := Lib.hid hown; clear hown; have hB3 := Lib.hid hB2; clear hB2; have hF2 := Lib.hid f2; clear f2; have hb2 := Lib.hid b2; clear b2)
  go_ret
  refine ⟨rfl, hB3.out.setCell HR.out.hg _, _, _, .inr rfl, blk_put hb2.out 1 _ rfl, HR.out.hg, ?_, ?_⟩
  · have hne := own_ne HO.out hb2.out (by decide)
    have ho := own_setCell HO.out (p := ⟨g, 1, none⟩) hne (.slice A2 (Lib.byteCells l ++ [Value.int .u8 c.toNat]).length k2)
    simpa [Lib.byteCells] using ho
  · intro j o hj
    obtain ⟨h1, h2, h3⟩ := hF2.out j o hj
    refine ⟨(Below.heap_setCell w2 ⟨g, 1, none⟩ _ j h2).trans h1, h2, ?_⟩
    simpa using h3
theorem Reset_calls {K : Nat → Option Obj} {w0 W : World} {g : Nat} {p v : Value} {long : Bool} {bad : Int} (hB : Below w0.heap.size w0 W) (hg : w0.heap.size ≤ g) (hb : W.heap[g]? = some (.cells #[p, v, .bool long, .int .i64 bad] 46 (0, 0))) (hf : ∀ j o, K j = some o → W.heap[j]? = some o ∧ j ≠ g) :
    Calls Try.prog 25 #[.pointer (some ⟨g, 0, none⟩)] W fun e w' => e = .returned (.tuple #[]) ∧ Rd K w0 w' g [] long bad := by
  have hb1 := blk_put (cs' := #[.pointer none, v, .bool long, .int .i64 bad]) hb 0 (.pointer none) rfl
  have hb2 := blk_put (cs' := #[.pointer none, .slice none 0 0, .bool long, .int .i64 bad]) hb1 1 (.slice none 0 0) rfl
  have c0 : (W.cell? ⟨g, 0, none⟩) = some p := by rw [blk_cell hb]; rfl
  have c1 : (W.cell? ⟨g, 1, none⟩) = some v := by rw [blk_cell hb]; rfl
  have d1 : ((W.setCell ⟨g, 0, none⟩ (.pointer none)).cell? ⟨g, 1, none⟩) = some v := by rw [blk_cell hb1]; rfl
  have f0 := blk_frozen hb 0
  have f1 := blk_frozen hb1 1
  have HB := Lib.hid hb2
  have HF := Lib.hid hf
  clear hb2 hb1 hb hf
  go_enter Try.func25, Try.ntmps25
  go_wp2
  go_end0
  refine ⟨rfl, (hB.setCell hg _).setCell hg _, .pointer none, .slice none 0 0, .inl rfl, HB.out, hg, own_nil _ _ _ _, fun j o hj => ?_⟩
  obtain ⟨h1, h2⟩ := HF.out j o hj
  exact ⟨((Below.heap_setCell _ ⟨g, 1, none⟩ _ j h2).trans (Below.heap_setCell W ⟨g, 0, none⟩ _ j h2)).trans h1, h2, by simp [Value.ownBlock]⟩
theorem cells5 : Try.prog.cellsOf 5 = 1 := by kernel_rfl
theorem freeze_far {W : World} {p : Addr} {n j : Nat} (h : j ≠ p.block) : (W.freeze p n).heap[j]? = W.heap[j]? := by
  unfold World.freeze
  split
  · rfl
  · show (W.heap.modify p.block _)[j]? = _
    rw [Array.getElem?_modify, if_neg (fun e => h e.symm)]
set_option maxHeartbeats 1000000 in
set_option maxRecDepth 100000 in
theorem String_calls {K : Nat → Option Obj} {w0 W : World} {g : Nat} {l : List UInt8} {long : Bool} {bad : Int} (h : Rd K w0 W g l long bad) (h0 : l ≠ []) :
    Calls Try.prog 33 #[.pointer (some ⟨g, 0, none⟩)] W fun e w' => e = .returned (.string ⟨l.toArray⟩) ∧ Below w0.heap.size w0 w' ∧ w0.heap.size ≤ g ∧ (∃ p v, w'.heap[g]? = some (.cells #[p, v, .bool long, .int .i64 bad] 46 (0, 0))) ∧ ∀ j o, K j = some o → w'.heap[j]? = some o ∧ j ≠ g := by
  obtain ⟨p, v, hR⟩ := h.ex
  have hl0 : l.length ≠ 0 := by simpa using h0
  obtain ⟨q, cap, cur, rfl, hbg, hq, hnc, hcm, hcs, htake⟩ : ∃ q cap cur, v = .slice (some ⟨q, 0, none⟩) l.length cap ∧ w0.heap.size ≤ q ∧ W.heap[q]? = some (.cells cur 5 (0, 0)) ∧ l.length ≤ cap ∧ cap ≤ maxLen ∧ cur.size = cap * 1 ∧ cur.toList.take (l.length * 1) = Lib.byteCells l := by
    rcases hR.row.2 with ⟨_, hz⟩ | ⟨q, cap, cur, hv, r⟩
    · exact absurd hz hl0
    · exact ⟨q, cap, cur, hv, r⟩
  have c1 : W.drew.cell? ⟨g, 1, none⟩ = some (.slice (some ⟨q, 0, none⟩) l.length cap) := by
    have : W.drew.heap[g]? = _ := hR.hb
    rw [blk_cell this]; rfl
  have hSD : (Builtin.unsafeSliceData_ #[39] 61 #[.slice (some ⟨q, 0, none⟩) l.length cap]).run Try.prog W.drew = .ok (.pointer (some ⟨q, 0, none⟩)) W.drew := Lib.run_unsafeSliceData_row _ _ _ _ _ _ (by omega)
  have hUS : (Builtin.unsafeString_ #[61, 3] 9 #[.pointer (some ⟨q, 0, none⟩), .int .i64 l.length]).run Try.prog W.drew = .ok (.string ⟨l.toArray⟩) (W.drew.freeze ⟨q, 0, none⟩ l.length) := by
    refine Lib.run_unsafeString_row W.drew 61 3 9 5 Try.underlying61 cells5 q cur.size (by have hq' : W.drew.heap[q]? = some (.cells cur 5 (0, 0)) := hq; simp [World.shape?, hq']) l h0 (by omega) (by unfold maxLen at hcm; omega) ?_
    intro j x hx
    have := hR.row.cells (g := q) rfl j (.int .u8 x.toNat) (by simp [Lib.byteCells, hx])
    exact this
  have hgq : g ≠ q := fun e => hR.ne (by rw [e]; rfl)
  have hK : Hid (∀ j o, K j = some o → W.heap[j]? = some o ∧ j ≠ g ∧ j ≠ q) := Lib.hid (fun j o hj => by
    obtain ⟨a, b, c⟩ := hR.fr j o hj
    exact ⟨a, b, fun e => c (by rw [e]; rfl)⟩)
  have HB := Lib.hid hR.hb
  have hg := hR.hg
  have hbl := h.bl
  clear h hR h0 htake hcs hq
  go_enter Try.func33, Try.ntmps33
  go_wp2
  go_region
  all_goals
    go_wp2
    go_ret
    refine ⟨rfl, Lib.below_freeze (Below.drew hbl) (p := ⟨q, 0, none⟩) hbg _, hg, ⟨_, _, (freeze_far (p := ⟨q, 0, none⟩) hgq).trans HB.out⟩, fun j o hj => ?_⟩
    obtain ⟨a, b, c⟩ := hK.out j o hj
    exact ⟨(freeze_far (p := ⟨q, 0, none⟩) c).trans a, b⟩
end Go.Proofs.Ytacocgomhodboaa.Rd
