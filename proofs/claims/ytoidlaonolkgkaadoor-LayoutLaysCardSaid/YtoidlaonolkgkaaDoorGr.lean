/- Rows of cells in memory, and the pen that lays runes: room. -/
import Derived.Test.YtoidlaonolkgkaaDoorProg
import Derived.Test.YtoidlaonolkgkaaDoorWWords
import Derived.Test.YtoidlaonolkgkaaDoorWLast
import Derived.Lib.Hide
import Derived.StillTailTactics
import Derived.BigQuiet
import Derived.Deep.QuietTactic
import Derived.Deep.RegionHeld3
import Derived.OwnWalk
import Derived.IntWalk
import Derived.WalkKit
import Derived.Deep.RegionLaw
set_option linter.unusedVariables false
set_option linter.unusedSimpArgs false
namespace Go.Proofs.YtoidlaonolkgkaaDoor.Gr
open Go.RowKit Go.Proofs.YtoidlaonolkgkaaDoorW.PrintWords Go.Proofs.YtoidlaonolkgkaaDoorW.PrintLast
abbrev Grd := Nat → Nat → Int × Bool
def rowC (width : Nat) (r : Nat → Int × Bool) : List Value := (List.range width).flatMap fun k => [.int .i64 (r k).1, .bool (r k).2]
theorem rowC_len (width : Nat) (r : Nat → Int × Bool) : (rowC width r).length = 2 * width := by
  unfold rowC
  induction width with
  | zero => rfl
  | succ n ih => rw [List.range_succ, List.flatMap_append, List.length_append, ih]; simp; omega
/-- Rows of cells: an own row of own rows. -/
structure Grid (base : Nat) (wr : World) (v : Value) (width n : Nat) (G : Grd) (bs : List Nat) : Prop where
  len : bs.length = n
  own : wr.ownsRow base 45 1 v n (bs.map fun b : Nat => .slice (some ⟨b, 0, none⟩) width width)
  blk : ∀ i b, bs[i]? = some b → base ≤ b ∧ wr.heap[b]? = some (.cells (rowC width (G i)).toArray 47 (0, 0))
  nd : bs.Nodup
  zero : ∀ i k, n ≤ i → G i k = (0, false)
/-- A pen in its box. -/
structure Pen (base : Nat) (W wr : World) (p : Nat) (width row col n : Nat) (G : Grd) (bs : List Nat) (v : Value) : Prop where
  b : wr.heap[p]? = some (.cells #[.int .i64 (width : Int), .int .i64 (row : Int), .int .i64 (col : Int), v] 54 (0, 0))
  hp : base ≤ p
  grid : Grid base wr v width n G bs
  bel : Below base W wr
def Keep (p : Nat) (w w' : World) : Prop := ∀ j t cells, t ≠ 45 → j ≠ p → w.heap[j]? = some (.cells cells t (0, 0)) → w'.heap[j]? = some (.cells cells t (0, 0))
theorem Keep.trans {p : Nat} {a b c : World} (h : Keep p a b) (k : Keep p b c) : Keep p a c := fun j t cells ht hj hc => k j t cells ht hj (h j t cells ht hj hc)
theorem Keep.refl (p : Nat) (w : World) : Keep p w w := fun _ _ _ _ _ h => h
theorem Pen.c {base : Nat} {W wr : World} {p width row col n : Nat} {G : Grd} {bs : List Nat} {v : Value} (h : Pen base W wr p width row col n G bs v) :
    wr.cell? ⟨p, 0, none⟩ = some (.int .i64 (width : Int)) ∧ wr.cell? ⟨p, 1, none⟩ = some (.int .i64 (row : Int)) ∧ wr.cell? ⟨p, 2, none⟩ = some (.int .i64 (col : Int)) ∧ wr.cell? ⟨p, 3, none⟩ = some v ∧ (∀ i, wr.frozen? ⟨p, i, none⟩ = false) :=
  ⟨by rw [blk_cell h.b]; rfl, by rw [blk_cell h.b]; rfl, by rw [blk_cell h.b]; rfl, by rw [blk_cell h.b]; rfl, fun i => blk_frozen h.b i⟩
theorem own_keep {W W1 : World} {base n size : Nat} {e : TypeId} {v : Value} {xs : List Value} (h : W.ownsRow base e size v n xs) (hk : ∀ j, v.ownBlock = some j → W1.heap[j]? = W.heap[j]?) : W1.ownsRow base e size v n xs := by
  refine ⟨h.1, ?_⟩
  rcases h.2 with q | ⟨g', cap, cur, q0, q1, q2, q3⟩
  · exact .inl q
  · exact .inr ⟨g', cap, cur, q0, q1, (hk g' (by rw [q0]; rfl)).trans q2, q3⟩
theorem Grid.below {base : Nat} {wr w1 : World} {width n : Nat} {G : Grd} {bs : List Nat} {v : Value} (h : Grid base wr v width n G bs) (hb : Below wr.heap.size wr w1) : Grid base w1 v width n G bs :=
  ⟨h.len, own_keep h.own (fun j hj => hb.block j (own_lt h.own j hj)), fun i b hi => ⟨(h.blk i b hi).1, (hb.block b (blk_lt (h.blk i b hi).2)).trans (h.blk i b hi).2⟩, h.nd, h.zero⟩
theorem Pen.below {base : Nat} {W wr w1 : World} {p width row col n : Nat} {G : Grd} {bs : List Nat} {v : Value} (h : Pen base W wr p width row col n G bs v) (hb : Below wr.heap.size wr w1) : Pen base W w1 p width row col n G bs v :=
  ⟨(hb.block p (blk_lt h.b)).trans h.b, h.hp, h.grid.below hb, h.bel.trans ⟨hb.os, hb.tape, hb.output, hb.size, fun i hi => hb.block i (Nat.lt_of_lt_of_le hi (Nat.le_trans h.hp (Nat.le_of_lt (blk_lt h.b))))⟩⟩
/-- One of the pen's numbers is another. -/
theorem Pen.set {base : Nat} {W wr : World} {p width row col row2 col2 n : Nat} {G : Grd} {bs : List Nat} {v : Value} (h : Pen base W wr p width row col n G bs v) (i : Nat) (u : Value)
    (he : (#[.int .i64 (width : Int), .int .i64 (row : Int), .int .i64 (col : Int), v] : Array Value).setIfInBounds i u = #[.int .i64 (width : Int), .int .i64 (row2 : Int), .int .i64 (col2 : Int), v]) : Pen base W (wr.setCell ⟨p, i, none⟩ u) p width row2 col2 n G bs v := by
  refine ⟨blk_put h.b i u he, h.hp, ⟨h.grid.len, own_setCell h.grid.own (own_ne h.grid.own h.b (by decide)) u, fun j b hj => ⟨(h.grid.blk j b hj).1, ?_⟩, h.grid.nd, h.grid.zero⟩, h.bel.setCell h.hp u⟩
  have hb := (h.grid.blk j b hj).2
  have hne : b ≠ p := fun e => by rw [e, h.b] at hb; have h2 := Option.some.inj hb; injection h2 with _ h3; exact absurd h3 (by decide)
  exact (Below.heap_setCell wr ⟨p, i, none⟩ u b hne).trans hb
theorem keep_set {wr : World} {p i : Nat} {u : Value} : Keep p wr (wr.setCell ⟨p, i, none⟩ u) := fun j t cells _ hj hc => (Below.heap_setCell wr ⟨p, i, none⟩ u j hj).trans hc
theorem keep_below {wr w1 : World} {p : Nat} (hb : Below wr.heap.size wr w1) : Keep p wr w1 := fun j t cells _ _ hc => (hb.block j (blk_lt hc)).trans hc
theorem info45 : (Tryd.prog.info? 45).map (fun i => (i.zero, i.size, i.bytes)) = some (some (.slice none 0 0), 1, 24) := by kernel_rfl
theorem made_row (width : Nat) : (rowC width (fun _ => (0, false))).toArray = madeCells #[.int .i64 0, .bool false] (width * 2) := by
  unfold rowC madeCells
  apply Array.ext'
  simp only [Array.toList_map, Array.toList_range]
  induction width with
  | zero => rfl
  | succ n ih =>
    rw [List.range_succ, List.flatMap_append, ih, show (n + 1) * 2 = n * 2 + 1 + 1 by omega, List.range_succ, List.range_succ, List.map_append, List.map_append, List.append_assoc]
    congr 1
    simp only [List.map_cons, List.map_nil, List.flatMap_cons, List.flatMap_nil, List.append_nil]
    rw [show n * 2 % (#[Value.int .i64 0, Value.bool false] : Array Value).size = 0 by show n * 2 % 2 = 0; omega, show (n * 2 + 1) % (#[Value.int .i64 0, Value.bool false] : Array Value).size = 1 by show (n * 2 + 1) % 2 = 1; omega]
    rfl
theorem info47 : (Tryd.prog.info? 47).map (fun i => (i.zero, i.size, i.bytes)) = some (some (.agg #[.int .i64 0, .bool false]), 2, 16) := by kernel_rfl
theorem make_row (width : Nat) (hw : width ≤ 600) (W : World) : (Instr.makeSlice 45 (.int .i64 (width : Int)) (.int .i64 (width : Int))).run Tryd.prog W = .ok (.slice (some ⟨W.heap.size, 0, none⟩) width width) (W.alloc (.cells (rowC width (fun _ => (0, false))).toArray 47)) := by
  obtain ⟨i, hi, he⟩ := Option.map_eq_some_iff.1 info47
  simp only [Prod.mk.injEq] at he
  obtain ⟨h1, h2, h3⟩ := he
  have := run_make W 45 47 i _ Tryd.underlying45 hi h1 .i64 .i64 (width : Int) (width : Int) (by omega) (Int.le_refl _) (by rw [h3]; omega) (by omega)
  rw [this, h2, Int.toNat_natCast, made_row]
  rfl
theorem Pen.grown {base : Nat} {W wr w1 : World} {p width row col n : Nat} {G : Grd} {bs : List Nat} {v : Value} (h : Pen base W wr p width row col n G bs v) (hg : wr.grownBy w1 v.ownBlock) : w1.heap[p]? = some (.cells #[.int .i64 (width : Int), .int .i64 (row : Int), .int .i64 (col : Int), v] 54 (0, 0)) :=
  (hg.block p (blk_lt h.b) (own_ne h.grid.own h.b (by decide))).trans h.b
/-- A row more. -/
theorem Pen.push {base : Nat} {W wr w1 : World} {p width row col n : Nat} {G : Grd} {bs : List Nat} {v v1 : Value} {b : Nat} (h : Pen base W wr p width row col n G bs v) (hb : wr.heap[b]? = some (.cells (rowC width (fun _ => (0, false))).toArray 47 (0, 0))) (hbase : base ≤ b) (hnew : b ∉ bs)
    (hown : w1.ownsRow base 45 1 v1 (n + 1) ((bs ++ [b]).map fun b : Nat => .slice (some ⟨b, 0, none⟩) width width)) (hg : wr.grownBy w1 v.ownBlock) : Pen base W (w1.setCell ⟨p, 3, none⟩ v1) p width row col (n + 1) G (bs ++ [b]) v1 ∧ Keep p wr (w1.setCell ⟨p, 3, none⟩ v1) := by
  have hpn := own_ne h.grid.own h.b (by decide)
  have hp1 : w1.heap[p]? = some (.cells #[.int .i64 (width : Int), .int .i64 (row : Int), .int .i64 (col : Int), v] 54 (0, 0)) := (hg.block p (blk_lt h.b) hpn).trans h.b
  have kp : Keep p wr (w1.setCell ⟨p, 3, none⟩ v1) := fun j t cells ht hj hc => (Below.heap_setCell w1 ⟨p, 3, none⟩ v1 j hj).trans ((hg.block j (blk_lt hc) (own_ne h.grid.own hc (fun e => ht e.symm))).trans hc)
  have hbel : Below base W w1 := pw_below_grown h.bel v.ownBlock (Nat.le_trans h.hp (Nat.le_of_lt (blk_lt h.b))) hg (fun k hk => own_base h.grid.own k hk)
  have hz : (fun _ : Nat => ((0, false) : Int × Bool)) = G n := by funext k; exact (h.grid.zero n k (Nat.le_refl _)).symm
  refine ⟨⟨blk_put hp1 3 v1 rfl, h.hp, ⟨by rw [List.length_append, h.grid.len]; rfl, own_setCell hown (own_ne hown hp1 (by decide)) v1, fun i c hi => ?_, ?_, fun i k hi => h.grid.zero i k (by omega)⟩, hbel.setCell h.hp v1⟩, kp⟩
  · have hne : ∀ c cells, wr.heap[c]? = some (.cells cells 47 (0, 0)) → c ≠ p := fun c cells hc e => by
      rw [e, h.b] at hc; have h2 := Option.some.inj hc; injection h2 with _ h3; exact absurd h3 (by decide)
    by_cases hi2 : i < bs.length
    · rw [List.getElem?_append_left hi2] at hi
      obtain ⟨x1, x2⟩ := h.grid.blk i c hi
      exact ⟨x1, kp c 47 _ (by decide) (hne c _ x2) x2⟩
    · rw [List.getElem?_append_right (by omega)] at hi
      have h0 : i - bs.length = 0 := by
        rcases Nat.eq_zero_or_pos (i - bs.length) with q | q
        · exact q
        · rw [List.getElem?_eq_none (by simp; omega)] at hi; cases hi
      rw [h0] at hi
      obtain rfl := Option.some.inj hi
      have e : i = n := by have := h.grid.len; omega
      rw [e, ← hz]
      exact ⟨hbase, kp b 47 _ (by decide) (hne b _ hb) hb⟩
  · rw [List.nodup_append]
    exact ⟨h.grid.nd, by simp, fun x hx y hy e => hnew (by rw [List.mem_singleton.1 hy] at e; rw [← e]; exact hx)⟩
/-- Where something is laid: the row and the column. -/
def roomP (width : Nat) (a : Nat × Nat) (w : Nat) : Nat × Nat := if width < a.2 + w then (a.1 + 1, 0) else a
theorem Pen.fresh {base : Nat} {W wr : World} {p width row col n : Nat} {G : Grd} {bs : List Nat} {v : Value} (h : Pen base W wr p width row col n G bs v) : wr.heap.size ∉ bs := fun hm => by
  obtain ⟨i, hi⟩ := List.getElem?_of_mem hm
  have := blk_lt (h.grid.blk i _ hi).2
  omega
def lenOf : Value → Nat | .slice _ n _ => n | _ => 0
def rowsN (p : Nat) (w : World) : Nat := match w.cell? ⟨p, 3, none⟩ with | some v => lenOf v | none => 0
theorem rowsN_of {p : Nat} {w : World} {v : Value} (h : w.cell? ⟨p, 3, none⟩ = some v) : rowsN p w = lenOf v := by unfold rowsN; rw [h]
section
variable {P : Program} {ops : Array Oper} {o : Oper} {a : Act} {K : Act → World → Prop} {Q : Exit → Act → World → Prop} {E : Prop}
/-- append(v, x) in a region that draws, at whatever world. -/
theorem step_append_at {w0 W : World} (base : Nat) (hgd : o.guard = none) (s x : Operand) (t e : TypeId) (z : Value) (size bytes : Nat)
    (ho : o.op = .call { callee := .builtin .append, args := #[s, x], argTypes := #[t, t] })
    (ht : P.underlying t = some (.slice e)) (hinfo : (P.info? e).map (fun i => (i.zero, i.size, i.bytes)) = some (some z, size, bytes)) (hz : z.cells.size = size) (hs0 : 0 < size) (hb0 : 0 < bytes)
    (v : Value) (n : Nat) (xs : List Value) (ad : Addr) (c : Nat) (ys : List Value) (hs : a.eval s = v) (hx : a.eval x = .slice (some ad) 1 c) (hys : ys.length = size) (hnews : ∀ j u, ys[j]? = some u → W.cell? (ad.add j) = some u) (h1 : ∀ u ∈ ys, u.oneCell' = true)
    (HO : W.ownsRow base e size v n xs) (HB : Below base w0 W) (hbase : base ≤ W.heap.size) (hl : (n + 1) * bytes ≤ 140737488355328)
    (h : ∀ v1 w1, w1.ownsRow base e size v1 (n + 1) (xs ++ ys) → Below base w0 w1 → W.grownBy w1 v.ownBlock → (v1.ownBlock = v.ownBlock ∨ ∃ b, v1.ownBlock = some b ∧ W.heap.size ≤ b) → K (a.put o.dst v1) w1) :
    if Region.wanted o (yielded ops a.tmps) = true then Oper.wp P o a W K Q else E := by
  have hw : Region.wanted o (yielded ops a.tmps) = true := by simp [Region.wanted, hgd]
  obtain ⟨i0, hi, hzz⟩ := Option.map_eq_some_iff.1 hinfo
  simp only [Prod.mk.injEq] at hzz
  obtain ⟨hz0, hz1, hz2⟩ := hzz
  have hlen : n + 1 ≤ 140737488355328 := Nat.le_trans (Nat.le_mul_of_pos_right _ hb0) hl
  rw [if_pos hw]
  obtain ⟨v1, w1, hr, hown, hg, _, hat⟩ := run_append_own_at (P := P) W base t o.type e i0 z size bytes ht hi hz0 hz1 hz2 hz hs0 v n xs HO ad 1 c ys (by rw [hys]; simp) hnews h1 (by simp only [maxLen]; omega) hl hbase
  unfold Oper.wp execOp
  simp only [ho, resolve, invoke, builtin, Sem.run_bind, Sem.run_pure, Result.andThen_ok, List.map_toArray, List.map_cons, List.map_nil, hs, hx, hr]
  refine h v1 w1 hown (HB.grown hg hbase (own_base HO)) hg ?_
  rcases hat with hat | hat
  · exact .inl hat
  · exact .inr ⟨_, hat, Nat.le_refl _⟩
end
set_option maxHeartbeats 4000000 in
set_option maxRecDepth 100000 in
theorem room_calls {base : Nat} {W w0 : World} {p width row col n : Nat} {G : Grd} {bs : List Nat} {v : Value} (h : Pen base W w0 p width row col n G bs v) (hw : width ≤ 600) (hr : row ≤ 100000) (hc : col ≤ 600) (hn : n ≤ 100001) (w : Nat) (hw2 : w ≤ 2) (R C : Nat) (hRC : roomP width (row, col) w = (R, C)) :
    Calls Tryd.prog 22 #[.pointer (some ⟨p, 0, none⟩), .int .i64 (w : Int)] w0 fun e w' => e = .returned (.tuple #[]) ∧ ∃ bs2 v2, Pen base W w' p width R C (max n (R + 1)) G bs2 v2 ∧ Keep p w0 w' := by
  obtain ⟨c0, c1, c2, c3, f0⟩ := h.c
  have hmk := make_row width hw
  have hR : R ≤ 100001 := by
    unfold roomP at hRC
    split at hRC
    · injection hRC with a b; omega
    · injection hRC with a b; omega
  have HS : Hid ((width < col + w → ∀ w2, w2 = ((w0.setCell ⟨p, 1, none⟩ (.int .i64 ((row : Int) + 1))).setCell ⟨p, 2, none⟩ (.int .i64 0)).drew → Pen base W w2 p width R C n G bs v ∧ Keep p w0 w2) ∧ (¬ width < col + w → ∀ w2, w2 = w0.drew → Pen base W w2 p width R C n G bs v ∧ Keep p w0 w2)) := by
    refine Lib.hid ⟨fun hd w2 e => ?_, fun hd w2 e => ?_⟩
    · unfold roomP at hRC
      rw [if_pos hd] at hRC
      injection hRC with a b
      subst e
      have h1 := (h.set (row2 := R) (col2 := col) 1 (.int .i64 ((row : Int) + 1)) (by rw [← a]; rfl)).set (row2 := R) (col2 := C) 2 (.int .i64 0) (by rw [← b]; rfl)
      exact ⟨h1.below (below_drew (Below.refl _ _)), (keep_set.trans keep_set).trans (keep_below (below_drew (Below.refl _ _)))⟩
    · unfold roomP at hRC
      rw [if_neg hd] at hRC
      injection hRC with a b
      subst e a b
      exact ⟨h.below (below_drew (Below.refl _ _)), keep_below (below_drew (Below.refl _ _))⟩
  clear h hRC
  go_enter Tryd.func22, Tryd.ntmps22
  have hcw : IntKind.i64.wrap ((col : Int) + (w : Int)) = (col : Int) + (w : Int) := by rw [IntKind.wrap_i64]; omega
  by_cases hd : width < col + w
  all_goals
    first
      | have d : decide ((width : Int) < (col : Int) + (w : Int)) = true := decide_eq_true (by omega)
      | have d : decide ((width : Int) < (col : Int) + (w : Int)) = false := decide_eq_false (by omega)
    go_wp2
    go_region
    all_goals
      go_upto_region 2 with fail
      go_loopw [] (fun wr => ∃ m bs2 v2, n ≤ m ∧ m ≤ max n (R + 1) ∧ Hid (Pen base W wr p width R C m G bs2 v2 ∧ Keep p w0 wr)) (fun wr => R + 1 - rowsN p wr)
      case atStart => exact ⟨n, bs, v, Nat.le_refl _, Nat.le_max_left _ _, Lib.hid (by first | exact HS.out.1 hd _ rfl | exact HS.out.2 hd _ rfl)⟩
      case round =>
        obtain ⟨m, bs2, v2, hm1, hm2, HP⟩ := hrel
        obtain ⟨A, cp, rfl⟩ := own_slice HP.out.1.grid.own
        obtain ⟨c0, c1, c2, c3, f0⟩ := HP.out.1.c
        clear HS
        by_cases hlt : m ≤ R
        · have d2 : decide ((m : Int) ≤ (R : Int)) = true := decide_eq_true (by omega)
          have hgo : (m + 1) * 24 ≤ 140737488355328 := by omega
          obtain ⟨WX, hWX⟩ : ∃ WX, WX = ((wr.alloc (.cells (rowC width (fun _ => (0, false))).toArray 47)).alloc (.cells #[.slice (some ⟨wr.heap.size, 0, none⟩) width width] 45)).drew.drew := ⟨_, rfl⟩
          have hb1 := below_alloc (Below.refl wr.heap.size wr) (.cells (rowC width (fun _ => (0, false))).toArray 47)
          have hb2 := below_alloc hb1 (.cells #[.slice (some ⟨wr.heap.size, 0, none⟩) width width] 45)
          have hbx : Below wr.heap.size wr WX := by rw [hWX]; exact below_drew (below_drew hb2)
          have HX := Lib.hid (And.intro (HP.out.1.below hbx) (Nat.le_trans HP.out.1.hp (Nat.le_trans (Nat.le_of_lt (blk_lt HP.out.1.b)) hbx.size)))
          have hnb : Hid (WX.heap[wr.heap.size]? = some (.cells (rowC width (fun _ => (0, false))).toArray 47 (0, 0))) := Lib.hid (by rw [hWX]; exact (heap_alloc_old _ _ (by simp)).trans (heap_alloc_new wr _))
          have hbb : Hid (base ≤ wr.heap.size) := Lib.hid (Nat.le_trans HP.out.1.hp (Nat.le_of_lt (blk_lt HP.out.1.b)))
          have hfr : Hid (wr.heap.size ∉ bs2) := Lib.hid HP.out.1.fresh
          have HC : Hid (∀ j u, ([.slice (some ⟨wr.heap.size, 0, none⟩) width width] : List Value)[j]? = some u → WX.cell? ((⟨wr.heap.size + 1, 0, none⟩ : Addr).add j) = some u) := Lib.hid (by
            intro j u hj
            match j, hj with
            | 0, hj =>
              have hc := heap_alloc_new (wr.alloc (.cells (rowC width (fun _ => (0, false))).toArray 47)) (.cells #[.slice (some ⟨wr.heap.size, 0, none⟩) width width] 45)
              rw [show (wr.alloc (.cells (rowC width (fun _ => (0, false))).toArray 47)).heap.size = wr.heap.size + 1 by simp] at hc
              have hc2 : WX.heap[wr.heap.size + 1]? = some (.cells #[.slice (some ⟨wr.heap.size, 0, none⟩) width width] 45 (0, 0)) := by rw [hWX]; exact hc
              rw [show (⟨wr.heap.size + 1, 0, none⟩ : Addr).add 0 = ⟨wr.heap.size + 1, 0, none⟩ by simp [Addr.add], blk_cell hc2]
              exact hj
            | j + 1, hj => simp at hj)
          have HKX : Hid (Keep p w0 WX) := Lib.hid (HP.out.2.trans (keep_below hbx))
          have HM : Hid (rowsN p wr = m) := Lib.hid (rowsN_of c3)
          have z1 := pw_cell_below (below_drew (below_drew hb1)) c3
          have z2 := pw_cell_below (below_drew (below_drew hb2)) c3
          subst hWX
          clear hb1 hb2 hbx
          go_wp2
          go_region
          all_goals
            go_upto_region 3 with fail
            go_region_law (refine step_append_at (w0 := W) base rfl (.tmp 40) (.tmp 46) 26 45 (.slice none 0 0) 1 24 rfl Tryd.underlying26 info45 rfl (by decide) (by decide) (.slice A m cp) m (bs2.map fun b : Nat => .slice (some ⟨b, 0, none⟩) width width) ⟨wr.heap.size + 1, 0, none⟩ 1 [.slice (some ⟨wr.heap.size, 0, none⟩) width width] rfl rfl rfl HC.out (by simp [Value.oneCell']) HX.out.1.grid.own HX.out.1.bel HX.out.2 hgo ?_; intro v1 w5 hown hB5 hg5 hat5; have HP5 := Lib.hid (Pen.push HX.out.1 hnb.out hbb.out hfr.out (by rw [List.map_append]; exact hown) hg5); obtain ⟨A2, k2, rfl⟩ := own_slice hown; have hpc := Pen.grown HX.out.1 hg5; have y3 : w5.cell? ⟨p, 3, none⟩ = some (.slice A m cp) := (by rw [blk_cell hpc]; rfl); have y4 := blk_frozen hpc 3; clear hown hB5 hg5 hat5 hpc)
            all_goals
              go_wp2
              go_roundw
              case rel => first | exact ⟨m + 1, bs2 ++ [wr.heap.size], .slice A2 (m + 1) k2, by omega, by omega, Lib.hid ⟨HP5.out.1, HKX.out.trans HP5.out.2⟩⟩ | exact ⟨_, _, _, _, _, _, _, _, _, _, _, _, _, _, _, _, _, _, _, _, _, _, _, _, ⟨m + 1, bs2 ++ [wr.heap.size], .slice A2 (m + 1) k2, by omega, by omega, Lib.hid ⟨HP5.out.1, HKX.out.trans HP5.out.2⟩⟩, rfl⟩
              case measure => rw [rowsN_of HP5.out.1.c.2.2.2.1, HM.out]; simp only [lenOf]; omega
        · have d2 : decide ((m : Int) ≤ (R : Int)) = false := decide_eq_false (by omega)
          have hmx : max n (R + 1) = m := by omega
          have HMX := Lib.hid hmx
          clear hmx
          go_wp2
          go_region
          all_goals
            go_wp2
            go_end0
            have hbd := below_drew (Below.refl wr.heap.size wr)
            exact ⟨rfl, bs2, _, by rw [HMX.out]; exact HP.out.1.below hbd, HP.out.2.trans (keep_below hbd)⟩
end Go.Proofs.YtoidlaonolkgkaaDoor.Gr
