/- keys.Reader: the state, and tell, wait, first, second, other: the walks. -/
import Derived.Test.YtmgdikfgejablaaDoorProg
import Derived.Test.YtmgdikfgejablaaDoorWWords
import Derived.Test.YtmgdikfgejablaaDoorWLast
import Derived.Test.YtmgdikfgejablaaDoorKy
import Derived.Lib.Hide
import Derived.StillTailTactics
import Derived.BigQuiet
import Derived.Deep.QuietTactic
import Derived.Deep.RegionHeld3
import Derived.OwnWalk
import Derived.IntWalk
import Derived.WalkKit
import Derived.Laws.EntriesVeiled
set_option linter.unusedVariables false
set_option linter.unusedSimpArgs false
namespace Go.Proofs.YtmgdikfgejablaaDoor.Kd
open Go.RowKit Go.Proofs.YtmgdikfgejablaaDoor.Ky Go.Proofs.YtmgdikfgejablaaDoorW.PrintWords Go.Proofs.YtmgdikfgejablaaDoorW.PrintLast
def bts (w : List Nat) : List Value := w.map fun b : Nat => .int .u8 (b : Int)
def flat (l : List Key) : List Value := l.flatMap fun k : Key => [.int .i64 k.1, .int .i64 k.2]
theorem bts_len (w : List Nat) : (bts w).length = w.length := by simp [bts]
theorem flat_len (l : List Key) : (flat l).length = 2 * l.length := by induction l with | nil => rfl | cons k l ih => simp [flat] at ih ⊢; omega
theorem flat_snoc (l : List Key) (k : Key) : flat (l ++ [k]) = flat l ++ [.int .i64 k.1, .int .i64 k.2] := by simp [flat]
/-- A method as a value. -/
def fnV (n : Nat) (g : Nat) : Value := .func (.func n) #[.pointer (some ⟨g, 0, none⟩)] #[]
structure KdB (K : Nat → Option Obj) (W : World) (base g : Nat) (fn bv tv : Value) (w : List Nat) (told : List Key) : Prop where
  hb : W.heap[g]? = some (.cells #[fn, bv, tv] 49 (0, 0))
  hg : base ≤ g
  br : W.ownsRow base 5 1 bv w.length (bts w)
  tr : W.ownsRow base 50 2 tv told.length (flat told)
  fr : ∀ j o, K j = some o → W.heap[j]? = some o ∧ j ≠ g ∧ bv.ownBlock ≠ some j ∧ tv.ownBlock ≠ some j
structure Kr (K : Nat → Option Obj) (w0 W : World) (g : Nat) (fn : Value) (w : List Nat) (told : List Key) : Prop where
  bl : Below w0.heap.size w0 W
  ex : ∃ bv tv, KdB K W w0.heap.size g fn bv tv w told
theorem own_keep {W W1 : World} {base n size : Nat} {e : TypeId} {v : Value} {xs : List Value} (h : W.ownsRow base e size v n xs) (hk : ∀ j, v.ownBlock = some j → W1.heap[j]? = W.heap[j]?) : W1.ownsRow base e size v n xs := by
  refine ⟨h.1, ?_⟩
  rcases h.2 with q | ⟨g', cap, cur, q0, q1, q2, q3⟩
  · exact .inl q
  · exact .inr ⟨g', cap, cur, q0, q1, (hk g' (by rw [q0]; rfl)).trans q2, q3⟩
theorem Kr.below {K : Nat → Option Obj} {w0 W W1 : World} {g : Nat} {fn : Value} {w : List Nat} {told : List Key} (h : Kr K w0 W g fn w told) (hb : Below W.heap.size W W1) : Kr K w0 W1 g fn w told := by
  obtain ⟨bv, tv, hR⟩ := h.ex
  exact ⟨below_then h.bl h.bl.size hb, bv, tv, (hb.block g (blk_lt hR.hb)).trans hR.hb, hR.hg, own_keep hR.br (fun j hj => hb.block j (own_lt hR.br j hj)), own_keep hR.tr (fun j hj => hb.block j (own_lt hR.tr j hj)), fun j o hj => by
    obtain ⟨a, b, d⟩ := hR.fr j o hj
    exact ⟨(hb.block j (blk_lt a)).trans a, b, d⟩⟩
theorem Kr.mono {K K2 : Nat → Option Obj} {w0 W : World} {g : Nat} {fn : Value} {w : List Nat} {told : List Key} (h : Kr K w0 W g fn w told) (hK : ∀ j o, K2 j = some o → K j = some o) : Kr K2 w0 W g fn w told := by
  obtain ⟨bv, tv, hR⟩ := h.ex
  exact ⟨h.bl, bv, tv, hR.hb, hR.hg, hR.br, hR.tr, fun j o hj => hR.fr j o (hK j o hj)⟩
theorem Kr.fr {K : Nat → Option Obj} {w0 W : World} {g : Nat} {fn : Value} {w : List Nat} {told : List Key} (h : Kr K w0 W g fn w told) : ∀ j o, K j = some o → W.heap[j]? = some o ∧ j ≠ g := by
  obtain ⟨bv, tv, hR⟩ := h.ex
  exact fun j o hj => ⟨(hR.fr j o hj).1, (hR.fr j o hj).2.1⟩
theorem setCell_size (W : World) (a : Addr) (u : Value) : (W.setCell a u).heap.size = W.heap.size := by simp [World.setCell]
/-- One of the box's cells is another. -/
theorem KdB.set_ {K : Nat → Option Obj} {W : World} {base g : Nat} {fn bv tv fn' bv' tv' : Value} {w w' : List Nat} {told told' : List Key} (h : KdB K W base g fn bv tv w told) (i : Nat) (u : Value)
    (he : (#[fn, bv, tv] : Array Value).setIfInBounds i u = #[fn', bv', tv']) (hbr : W.ownsRow base 5 1 bv' w'.length (bts w')) (htr : W.ownsRow base 50 2 tv' told'.length (flat told')) (hf : ∀ j o, K j = some o → bv'.ownBlock ≠ some j ∧ tv'.ownBlock ≠ some j) :
    KdB K (W.setCell ⟨g, i, none⟩ u) base g fn' bv' tv' w' told' :=
  ⟨blk_put h.hb i u he, h.hg, own_setCell hbr (own_ne hbr h.hb (by decide)) u, own_setCell htr (own_ne htr h.hb (by decide)) u, fun j o hj => by
    obtain ⟨h1, h2, _⟩ := h.fr j o hj
    exact ⟨(Below.heap_setCell W ⟨g, i, none⟩ u j h2).trans h1, h2, hf j o hj⟩⟩
theorem KdB.c {K : Nat → Option Obj} {W : World} {base g : Nat} {fn bv tv : Value} {w : List Nat} {told : List Key} (h : KdB K W base g fn bv tv w told) : W.cell? ⟨g, 0, none⟩ = some fn ∧ W.cell? ⟨g, 1, none⟩ = some bv ∧ W.cell? ⟨g, 2, none⟩ = some tv ∧ W.frozen? ⟨g, 0, none⟩ = false ∧ W.frozen? ⟨g, 1, none⟩ = false ∧ W.frozen? ⟨g, 2, none⟩ = false :=
  ⟨by rw [blk_cell h.hb]; rfl, by rw [blk_cell h.hb]; rfl, by rw [blk_cell h.hb]; rfl, blk_frozen h.hb 0, blk_frozen h.hb 1, blk_frozen h.hb 2⟩
/-- A row of its own grew; its cell is told later. -/
theorem KdB.grown {K : Nat → Option Obj} {W W1 : World} {base g : Nat} {fn bv tv v v' : Value} {w : List Nat} {told : List Key} (h : KdB K W base g fn bv tv w told) (hg : W.grownBy W1 v.ownBlock) (hv : v = bv ∨ v = tv) (ha : v'.ownBlock = v.ownBlock ∨ ∃ b, v'.ownBlock = some b ∧ W.heap.size ≤ b) :
    W1.heap[g]? = some (.cells #[fn, bv, tv] 49 (0, 0)) ∧ ∀ j o, K j = some o → W1.heap[j]? = some o ∧ j ≠ g ∧ v'.ownBlock ≠ some j := by
  have hne : some g ≠ v.ownBlock := by
    rcases hv with rfl | rfl
    · exact own_ne h.br h.hb (by decide)
    · exact own_ne h.tr h.hb (by decide)
  refine ⟨(hg.block g (blk_lt h.hb) hne).trans h.hb, fun j o hj => ?_⟩
  obtain ⟨h1, h2, h3, h4⟩ := h.fr j o hj
  have h5 : v.ownBlock ≠ some j := by rcases hv with rfl | rfl; exact h3; exact h4
  refine ⟨(hg.block j (blk_lt h1) (fun e => h5 e.symm)).trans h1, h2, ?_⟩
  rcases ha with ha | ⟨b, hb, hlt⟩
  · rw [ha]; exact h5
  · rw [hb]
    intro e
    have := blk_lt h1
    injection e with e
    omega
theorem info5 : (Tryd.prog.info? 5).map (fun i => (i.zero, i.size, i.bytes)) = some (some (.int .u8 0), 1, 1) := by kernel_rfl
theorem info50 : (Tryd.prog.info? 50).map (fun i => (i.zero, i.size, i.bytes)) = some (some (.agg #[.int .i64 0, .int .i64 0]), 2, 16) := by kernel_rfl
theorem New_calls (K : Nat → Option Obj) (w : World) (hK : ∀ j o, K j = some o → w.heap[j]? = some o) :
    Calls Tryd.prog 10 #[] w fun e w' => ∃ g, e = .returned (.pointer (some ⟨g, 0, none⟩)) ∧ Kr K w w' g (fnV 20 g) [] [] := by
  go_enter Tryd.func10, Tryd.ntmps10
  go_wp2
  go_ret
  refine ⟨w.heap.size, rfl, below_alloc (Below.refl _ _) _, .slice none 0 0, .slice none 0 0, heap_alloc_new _ _, Nat.le_refl _, own_nil _ _ _ _, own_nil _ _ _ _, fun j o hj => ?_⟩
  have hlt := blk_lt (hK j o hj)
  exact ⟨((below_alloc (Below.refl w.heap.size w) _).block j hlt).trans (hK j o hj), by omega, by simp [Value.ownBlock], by simp [Value.ownBlock]⟩
/-- A key more is told: the new row, then its cell. -/
theorem KdB.pushT {K : Nat → Option Obj} {W W1 : World} {base g : Nat} {fn bv tv v1 : Value} {w : List Nat} {told : List Key} (h : KdB K W base g fn bv tv w told) {k : Key} (hown : W1.ownsRow base 50 2 v1 (told.length + 1) (flat told ++ [.int .i64 k.1, .int .i64 k.2]))
    (hg : W.grownBy W1 tv.ownBlock) (ha : v1.ownBlock = tv.ownBlock ∨ ∃ b, v1.ownBlock = some b ∧ W.heap.size ≤ b) : KdB K (W1.setCell ⟨g, 2, none⟩ v1) base g fn bv v1 w (told ++ [k]) := by
  obtain ⟨b1, fr1⟩ := h.grown hg (.inr rfl) ha
  have ho : W1.ownsRow base 50 2 v1 (told ++ [k]).length (flat (told ++ [k])) := by rw [flat_snoc, List.length_append]; exact hown
  have hbr := own_other h.br hg (own_type_ne h.br h.tr (by decide))
  refine ⟨blk_put b1 2 v1 rfl, h.hg, own_setCell hbr (own_ne hbr b1 (by decide)) v1, own_setCell ho (own_ne ho b1 (by decide)) v1, fun j o hj => ?_⟩
  obtain ⟨x1, x2, x3⟩ := fr1 j o hj
  exact ⟨(Below.heap_setCell W1 ⟨g, 2, none⟩ v1 j x2).trans x1, x2, (h.fr j o hj).2.2.1, x3⟩
/-- A byte more waits. -/
theorem KdB.pushB {K : Nat → Option Obj} {W W1 : World} {base g : Nat} {fn bv tv v1 : Value} {w : List Nat} {told : List Key} (h : KdB K W base g fn bv tv w told) {c : Nat} (hown : W1.ownsRow base 5 1 v1 (bts w ++ [Value.int .u8 (c : Int)]).length (bts w ++ [Value.int .u8 (c : Int)]))
    (hg : W.grownBy W1 bv.ownBlock) (ha : v1.ownBlock = bv.ownBlock ∨ ∃ b, v1.ownBlock = some b ∧ W.heap.size ≤ b) : KdB K (W1.setCell ⟨g, 1, none⟩ v1) base g fn v1 tv (w ++ [c]) told := by
  obtain ⟨b1, fr1⟩ := h.grown hg (.inl rfl) ha
  have ho : W1.ownsRow base 5 1 v1 (w ++ [c]).length (bts (w ++ [c])) := by simpa [bts] using hown
  have htr := own_other h.tr hg (own_type_ne h.tr h.br (by decide))
  refine ⟨blk_put b1 1 v1 rfl, h.hg, own_setCell ho (own_ne ho b1 (by decide)) v1, own_setCell htr (own_ne htr b1 (by decide)) v1, fun j o hj => ?_⟩
  obtain ⟨x1, x2, x3⟩ := fr1 j o hj
  exact ⟨(Below.heap_setCell W1 ⟨g, 1, none⟩ v1 j x2).trans x1, x2, x3, (h.fr j o hj).2.2.2⟩
set_option maxHeartbeats 1000000 in
theorem tell_calls {K : Nat → Option Obj} {w0 W : World} {g : Nat} {fn : Value} {w : List Nat} {told : List Key} (h : Kr K w0 W g fn w told) (hl : told.length ≤ 1000000) (kind rune : Int) :
    Calls Tryd.prog 21 #[.pointer (some ⟨g, 0, none⟩), .int .i64 kind, .int .i64 rune] W fun e w' => e = .returned (.bool true) ∧ Kr K w0 w' g (fnV 20 g) [] (told ++ [(kind, rune)]) := by
  obtain ⟨bv, tv, hR⟩ := h.ex
  obtain ⟨A, cp, rfl⟩ := own_slice hR.tr
  obtain ⟨c0, c1, c2, f0, f1, f2⟩ := hR.c
  have HR := Lib.hid hR
  have HB := Lib.hid h.bl
  clear h hR
  go_enter Tryd.func21, Tryd.ntmps21
  go_wp2_with (at_builtin; go_loud (refine print_append_cells (w0 := w0) w0.heap.size rfl _ _ 33 50 (.agg #[.int .i64 0, .int .i64 0]) 2 16 rfl Tryd.underlying33 info50 rfl (by decide) (by decide) (.slice A told.length cp) told.length (flat told) [.int .i64 kind, .int .i64 rune] rfl rfl rfl (by simp [Value.oneCell']) HR.out.tr HB.out HB.out.size (by omega) ?_; intro v1 w2 hown hB2 hgr hat; obtain ⟨A2, k2, rfl⟩ := own_slice hown; obtain ⟨b2, _⟩ := HR.out.grown hgr (.inr rfl) hat; have hP := HR.out.pushT (k := (kind, rune)) hown hgr hat; have d2 : w2.cell? ⟨g, 2, none⟩ = some (.slice A told.length cp) := (by rw [blk_cell b2]; rfl); have e2 : w2.frozen? ⟨g, 2, none⟩ = false := blk_frozen b2 2; obtain ⟨_, p1, _, _, q1, _⟩ := hP.c; have hP2 := hP.set_ (w' := []) 1 (.slice none 0 0) rfl (own_nil _ _ _ _) hP.tr (fun j o hj => ⟨(by simp [Value.ownBlock]), (hP.fr j o hj).2.2.2⟩); obtain ⟨r0, _, _, s0, _, _⟩ := hP2.c; have HP2 := Lib.hid hP2; have HB2 := Lib.hid hB2; clear hown hB2 hgr hat hP hP2 b2))
  go_ret
  have hg := HR.out.hg
  refine ⟨rfl, ((HB2.out.setCell hg _).setCell hg _).setCell hg _, _, _, HP2.out.set_ 0 _ rfl HP2.out.br HP2.out.tr (fun j o hj => (HP2.out.fr j o hj).2.2)⟩
set_option maxHeartbeats 1000000 in
theorem wait_calls {K : Nat → Option Obj} {w0 W : World} {g : Nat} {fn : Value} {w : List Nat} {told : List Key} (h : Kr K w0 W g fn w told) (hl : w.length ≤ 1000000) (c : Nat) (hc : c < 256) (fn2 : Value) (hfn : ∃ n, fn2 = fnV n g) :
    Calls Tryd.prog 25 #[.pointer (some ⟨g, 0, none⟩), .int .i64 (c : Int), fn2] W fun e w' => e = .returned (.bool true) ∧ Kr K w0 w' g fn2 (w ++ [c]) told := by
  obtain ⟨n, rfl⟩ := hfn
  obtain ⟨bv, tv, hR⟩ := h.ex
  obtain ⟨A, cp, rfl⟩ := own_slice hR.br
  obtain ⟨c0, c1, c2, f0, f1, f2⟩ := hR.c
  have HR := Lib.hid hR
  have HB := Lib.hid h.bl
  have hcm : (c : Int) % 256 = c := by omega
  have HLN : Hid ((bts w ++ [Value.int .u8 (c : Int)]).length = w.length + 1) := Lib.hid (by simp [bts])
  clear h hR
  unfold fnV
  go_enter Tryd.func25, Tryd.ntmps25
  go_wp2_with (at_builtin; go_loud (refine print_append w0.heap.size rfl _ _ 47 5 (.int .u8 0) 1 rfl Tryd.underlying47 info5 rfl (by decide) (.slice A w.length cp) (bts w) (.int .u8 (c : Int)) rfl rfl rfl (by rw [bts_len]; exact HR.out.br) HB.out HB.out.size (by rw [bts_len]; omega) ?_; intro v1 w2 hown hB2 hgr hat; have hown2 := hown; rw [HLN.out] at hown2; obtain ⟨A2, k2, rfl⟩ := own_slice hown2; clear hown2; obtain ⟨b2, _⟩ := HR.out.grown hgr (.inl rfl) hat; have hP := HR.out.pushB (c := c) hown hgr hat; have d1 : w2.cell? ⟨g, 1, none⟩ = some (.slice A w.length cp) := (by rw [blk_cell b2]; rfl); have e1 : w2.frozen? ⟨g, 1, none⟩ = false := blk_frozen b2 1; obtain ⟨p0, _, _, q0, _, _⟩ := hP.c; have HP := Lib.hid hP; have HB2 := Lib.hid hB2; clear hown hB2 hgr hat hP b2))
  go_ret
  have hg := HR.out.hg
  exact ⟨rfl, (HB2.out.setCell hg _).setCell hg _, _, _, HP.out.set_ 0 _ rfl HP.out.br HP.out.tr (fun j o hj => (HP.out.fr j o hj).2.2)⟩
end Go.Proofs.YtmgdikfgejablaaDoor.Kd
