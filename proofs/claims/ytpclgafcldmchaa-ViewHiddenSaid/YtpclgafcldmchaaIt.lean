/- What of a line is seen: the iterator's closure (view.seen), its contract for every loop body. -/
import Derived.RangeFuncBox
import Derived.RangeFuncLeaves
import Derived.RangeFuncNested
import Derived.Shelf.Abstract
import Derived.WalkKit
import Derived.OwnWalkIn
import Derived.TacticsInMore
import Derived.LoopNIn
import Derived.LoopIn
import Derived.Maps.AppendAt
import Derived.Lib.Hide
import Derived.Test.YtpclgafcldmchaaPx0
set_option linter.unusedVariables false
set_option linter.unusedSimpArgs false
namespace Go.Proofs.Ytpclgafcldmchaa.It
open Go.RowKit Go.Shelf
attribute [local go_sem] Oper.semAt_some
/-- An element, as its six cells say it. -/
structure El where
  e0 : Int
  e1 : Int
  e2 : Int
  e3 : Int
  rune : Int
  ad : Option Addr
  n : Nat
  c : Nat
def El.cells (x : El) : Array Value := #[.int .i64 x.e0, .int .i64 x.e1, .int .i64 x.e2, .int .i64 x.e3, .int .i64 x.rune, .slice x.ad x.n x.c]
/-- What has been seen when k are over. -/
def came (f : Nat → El) (k : Nat) : List (Nat × El) := ((List.range k).filter fun j => (f j).n == 0).map fun j => (j, f j)
theorem came_hit (f : Nat → El) (k : Nat) (h : (f k).n = 0) : came f (k + 1) = came f k ++ [(k, f k)] := by
  simp [came, List.range_succ, List.filter_append, h]
theorem came_miss (f : Nat → El) (k : Nat) (h : (f k).n ≠ 0) : came f (k + 1) = came f k := by
  simp [came, List.range_succ, List.filter_append, h]
theorem came_length (f : Nat → El) (k : Nat) : (came f k).length ≤ k := by
  unfold came
  rw [List.length_map]
  have := List.length_filter_le (fun j => (f j).n == 0) (List.range k)
  simpa using this
/-- The elements lie there. -/
def Lie (W : World) (b off len : Nat) (f : Nat → El) : Prop := ∀ k, k < len → W.cell? ⟨b, off + k * 6, none⟩ = some (.int .i64 (f k).e0) ∧ W.cell? ⟨b, off + k * 6 + 1, none⟩ = some (.int .i64 (f k).e1) ∧ W.cell? ⟨b, off + k * 6 + 2, none⟩ = some (.int .i64 (f k).e2) ∧
  W.cell? ⟨b, off + k * 6 + 3, none⟩ = some (.int .i64 (f k).e3) ∧ W.cell? ⟨b, off + k * 6 + 4, none⟩ = some (.int .i64 (f k).rune) ∧ W.cell? ⟨b, off + k * 6 + 5, none⟩ = some (.slice (f k).ad (f k).n (f k).c)
theorem Lie.below {n₀ b off len : Nat} {f : Nat → El} {A B : World} (h : Lie A b off len f) (hb : b < n₀) (k : Below n₀ A B) : Lie B b off len f := fun j hj => by
  obtain ⟨h0, h1, h2, h3, h4, h5⟩ := h j hj
  exact ⟨(k.cell (p := ⟨b, _, none⟩) hb).trans h0, (k.cell (p := ⟨b, _, none⟩) hb).trans h1, (k.cell (p := ⟨b, _, none⟩) hb).trans h2, (k.cell (p := ⟨b, _, none⟩) hb).trans h3, (k.cell (p := ⟨b, _, none⟩) hb).trans h4, (k.cell (p := ⟨b, _, none⟩) hb).trans h5⟩
set_option maxRecDepth 100000 in
set_option maxHeartbeats 2000000 in
theorem seen1_in (F : Fence) (n : Nat) (h25 : F.fn 25) (hro : F.round = none) (hn : 1 ≤ n) (l Bs n₀ b off len cap : Nat) (f : Nat → El) (hreach : len ≤ 140737488351232) (hb : b < n₀) (J Jx : List (Nat × El) → World → Prop)
    (W : World) (hJ : AbidesFrom W.heap.size J)
    (hY : ∀ pre x W, J pre W → pre.length < len → YieldAt F (n - 1) Try.prog l #[.int .i64 (x.1 : Int), .agg x.2.cells] W fun e W' =>
      (e = .returned (.bool true) ∧ J (pre ++ [x]) W' ∧ Below n₀ W W') ∨ (e = .returned (.bool false) ∧ Jx (pre ++ [x]) W'))
    (hn₀ : n₀ ≤ W.heap.size) (hBs : W.cell? ⟨Bs, 0, none⟩ = some (.slice (some ⟨b, off, none⟩) len cap)) (hc : Lie W b off len f) (h0 : J [] W) :
    CallsIn F n Try.prog 25 #[.func (.yield l) #[] #[], .pointer (some ⟨Bs, 0, none⟩)] W fun e W' => (∃ v, e = .returned v) ∧
      ((∃ ys, ys = came f len ∧ J ys W') ∨ (∃ pre, (∃ k, k ≤ len ∧ pre = came f k) ∧ Jx pre W')) := by
  refine callsIn_of_wp Try.func25 rfl h25 ?_ hro
  simp only [Try.ntmps25, List.size_toArray, List.length_cons, List.length_nil, Nat.reduceAdd, Nat.reduceSub, Array.replicate_succ, Array.replicate_zero, List.push_toArray, List.append_toArray, List.nil_append, List.cons_append]
  gi_wp2
  gi_loopw [7] (fun i wr => ∃ k : Nat, k ≤ len ∧ i = .int .i64 k ∧ J (came f k) wr ∧ Below n₀ W wr ∧ W.heap.size ≤ wr.heap.size)
    (fun i _ => len - (intOf i).toNat)
  case atStart => exact ⟨0, Nat.zero_le _, rfl, h0, Below.refl _ _, Nat.le_refl _⟩
  case round =>
    obtain ⟨k, hk, rfl, hJs, hnx, hsz⟩ := hrel
    by_cases hlt : k < len
    · obtain ⟨c0, c1, c2, c3, c4, c5⟩ := (hc.below hb hnx) k hlt
      by_cases hz : (f k).n = 0
      · have hJs' := hJ (came f k) wr (wr.alloc (.cells (f k).cells 44)) none hJs (World.grownBy_alloc _ _ _) (fun r e => by cases e)
        obtain ⟨fn, tmps, assign, body, hy, hR⟩ := hY _ (k, f k) _ hJs' (Nat.lt_of_le_of_lt (came_length f k) hlt)
        have hch := came_hit f k hz
        have HZ := Lib.hid hz
        have HC := Lib.hid hch
        simp only [El.cells, hz] at hy hR
        clear hch hJs'
        gi_wp2
        refine hR.mono ?_
        rintro e W3 (⟨rfl, hJ3, hk3⟩ | ⟨rfl, hJx3⟩)
        · gi_wp2
          go_roundw
          case rel => exact ⟨k + 1, by omega, by simp, by rw [HC.out]; exact hJ3, hnx.trans (((Below.refl _ _).alloc (Nat.le_trans hn₀ hsz) _).trans hk3), by have := hk3.size; simp at this; omega⟩
          case measure => simp [intOf]; omega
        · gi_wp2
          refine bodyPost_ret (results_none rfl _ _ _) rfl ?_
          exact ⟨⟨_, rfl⟩, .inr ⟨_, ⟨k + 1, by omega, HC.out.symm⟩, hJx3⟩⟩
      · have HC := Lib.hid (came_miss f k hz)
        have hz0 : (((f k).n : Int) == 0) = false := by rw [beq_eq_false_iff_ne]; omega
        have hz1 : ((f k).n == 0) = false := by rw [beq_eq_false_iff_ne]; omega
        have hJs' := hJ (came f k) wr (wr.alloc (.cells (f k).cells 44)) none hJs (World.grownBy_alloc _ _ _) (fun r e => by cases e)
        gi_wp2
        refine ⟨fun _ h => (by cases h), ?_⟩
        gi_wp2
        go_roundw
        case rel => exact ⟨k + 1, by omega, by simp, by rw [HC.out]; exact hJs', hnx.trans ((Below.refl _ _).alloc (Nat.le_trans hn₀ hsz) _), by simp; omega⟩
        case measure => simp [intOf]; omega
    · obtain rfl : k = len := by omega
      gi_wp2
      go_end0
      exact ⟨⟨_, rfl⟩, .inl ⟨_, rfl, hJs⟩⟩
set_option maxRecDepth 100000 in
set_option maxHeartbeats 1000000 in
/-- .. at a slice of no element: no round. -/
theorem seen1_none_in (F : Fence) (n : Nat) (h25 : F.fn 25) (hro : F.round = none) (l Bs : Nat) (A : Option Addr) (cap : Nat) (J : List (Nat × El) → World → Prop) (W : World) (hBs : W.cell? ⟨Bs, 0, none⟩ = some (.slice A 0 cap)) (h0 : J [] W) :
    CallsIn F n Try.prog 25 #[.func (.yield l) #[] #[], .pointer (some ⟨Bs, 0, none⟩)] W fun e W' => (∃ v, e = .returned v) ∧ J [] W' := by
  refine callsIn_of_wp Try.func25 rfl h25 ?_ hro
  simp only [Try.ntmps25, List.size_toArray, List.length_cons, List.length_nil, Nat.reduceAdd, Nat.reduceSub, Array.replicate_succ, Array.replicate_zero, List.push_toArray, List.append_toArray, List.nil_append, List.cons_append]
  gi_wp2
  gi_loopw [7] (fun i wr => i = .int .i64 0 ∧ J [] wr) (fun _ _ => 0)
  case atStart => exact ⟨rfl, h0⟩
  case round =>
    obtain ⟨rfl, hJs⟩ := hrel
    gi_wp2
    go_end0
    exact ⟨⟨_, rfl⟩, hJs⟩
set_option maxHeartbeats 1000000 in
/-- seen(l): the slice is boxed; the function value captures the box. -/
theorem seen_in (F : Fence) (n : Nat) (h24 : F.fn 24) (hro : F.round = none) (a : Option Addr) (len cap : Nat) (w : World) :
    CallsIn F n Try.prog 24 #[.slice a len cap] w fun e w' => e = .returned (.func (.func 25) #[] #[.pointer (some ⟨w.heap.size, 0, none⟩)]) ∧ w' = w.alloc (.cells #[.slice a len cap] 22) := by
  refine callsIn_of_wp Try.func24 rfl h24 ?_ hro
  simp only [Try.ntmps24, List.size_toArray, List.length_cons, List.length_nil, Nat.reduceAdd, Nat.reduceSub, Array.replicate_succ, Array.replicate_zero, List.push_toArray, List.append_toArray, List.nil_append, List.cons_append]
  gi_wp2
  go_ret
  exact ⟨rfl, rfl⟩
/-- The slice holds the elements, in a block below n₀; or there is none. -/
def Els (n₀ : Nat) (W : World) (A : Option Addr) (len : Nat) (f : Nat → El) : Prop := len = 0 ∨ ∃ b off, A = some ⟨b, off, none⟩ ∧ b < n₀ ∧ Lie W b off len f
theorem Els.below {n₀ len : Nat} {f : Nat → El} {W W' : World} {A : Option Addr} (k : Below n₀ W W') : Els n₀ W A len f → Els n₀ W' A len f
  | .inl e => .inl e
  | .inr ⟨b, off, e, hb, h⟩ => .inr ⟨b, off, e, hb, h.below hb k⟩
theorem seen_stops (F : Fence) (n : Nat) (h25 : F.fn 25) (hro : F.round = none) (hn : 1 ≤ n) (Bs n₀ : Nat) (A : Option Addr) (len cap : Nat) (f : Nat → El) (hreach : len ≤ 140737488351232) (w : World) (hBs : Bs < w.heap.size) (hn₀ : n₀ ≤ w.heap.size)
    (hc : w.cell? ⟨Bs, 0, none⟩ = some (.slice A len cap)) (hI : Els n₀ w A len f) :
    SeqStopsK F n Try.prog 25 #[.pointer (some ⟨Bs, 0, none⟩)] (fun x : Nat × El => #[Value.int .i64 (x.1 : Int), .agg x.2.cells]) (Below n₀) (fun ys => ys = came f len)
      (fun pre => ∃ k, k ≤ len ∧ pre = came f k) len w := fun l J Jx W hW hJ _ hY h0 => by
  have hc' := (hW.cell (p := ⟨Bs, 0, none⟩) hBs).trans hc
  rcases hI.below (hW.mono hn₀) with rfl | ⟨b, off, rfl, hb, hcs⟩
  · exact (seen1_none_in F n h25 hro l Bs A cap J W hc' h0).mono fun e W' ⟨he, hj⟩ => ⟨he, .inl ⟨_, rfl, hj⟩⟩
  · exact seen1_in F n h25 hro hn l Bs n₀ b off len cap f hreach hb J Jx W hJ hY (Nat.le_trans hn₀ hW.size) hc' hcs h0
theorem info3 : (Try.prog.info? 3).map (fun i => (i.zero, i.size, i.bytes)) = some (some (.int .i64 0), 1, 8) := by kernel_rfl
/-- The places. -/
def places (l : List (Nat × El)) : List Value := l.map fun x => .int .i64 (x.1 : Int)
theorem places_snoc (l : List (Nat × El)) (x : Nat × El) : places (l ++ [x]) = places l ++ [.int .i64 (x.1 : Int)] := by simp [places]
theorem places_length (l : List (Nat × El)) : (places l).length = l.length := by simp [places]
set_option maxRecDepth 100000 in
set_option maxHeartbeats 2000000 in
theorem Seen_in (F : Fence) (n : Nat) (h17 : F.fn 17) (h24 : F.fn 24) (h25 : F.fn 25) (hro : F.round = none) (hn : 3 ≤ n) (A : Option Addr) (len cap : Nat) (f : Nat → El) (hreach : len * 8 ≤ 140737488351232) (w : World) (hI : Els w.heap.size w A len f) :
    CallsIn F n Try.prog 17 #[.slice A len cap] w fun e W' => ∃ v, e = .returned v ∧ W'.ownsRow w.heap.size 3 1 v (places (came f len)).length (places (came f len)) ∧ Below w.heap.size w W' := by
  have h1 : 1 ≤ n := by omega
  obtain ⟨i0, hi, hz0, hz1, hz2⟩ := info_parts info3
  refine callsIn_of_wp_marks Try.func17 rfl h17 ?_ hro
  simp only [Try.ntmps17, List.size_toArray, List.length_cons, List.length_nil, Nat.reduceAdd, Nat.reduceSub, Array.replicate_succ, Array.replicate_zero, List.push_toArray, List.append_toArray, List.nil_append, List.cons_append]
  gi_wp2_with (gi_at_call 24; refine (seen_in F (n - 1) h24 hro _ _ _ _).mono ?_; rintro e w' ⟨rfl, rfl⟩)
  have bO := Boxed.new w 38 (.slice none 0 0)
  have bN := Boxed.new (w.alloc (.cells #[.slice none 0 0] 38)) 22 (.slice A len cap)
  rw [World.size_alloc] at bN
  have hB0 : Below w.heap.size w ((w.alloc (.cells #[.slice none 0 0] 38)).alloc (.cells #[.slice A len cap] 22)) := ((Below.refl _ w).alloc (Nat.le_refl _) _).alloc (by simp) _
  refine wpIn_rangeFunc_ownG hro h1 (gf := 25) (lb := #[.pointer (some ⟨w.heap.size + 1, 0, none⟩)]) rfl h25 (enters_of Try.func25 (by kernel_rfl) rfl)
    (seen_stops F (n - 1) h25 hro (by omega) (w.heap.size + 1) w.heap.size A len cap f (by omega) _ (by simp) (by simp; omega) bN.cell (hI.below hB0)) belowK_t (belowK_b (by simp; omega)) (Below.refl _ _) (fun _ => rfl)
    (fun pre W => (∃ v, Boxed W w.heap.size 38 v ∧ W.ownsRow w.heap.size 3 1 v (places pre).length (places pre) ∧ True) ∧ Below w.heap.size w W)
    (fun _ _ _ => False)
    (OwnFrom.and (Own.from (holdsRow_own w.heap.size w.heap.size 38 3 1 (fun pre => (places pre).length) (fun pre => places pre) (fun pre v => True)) _) (ownFrom_below (Nat.le_refl _) (by simp; omega)))
    (fun _ _ _ _ _ hs _ _ => hs)
    ⟨⟨_, bO.alloc _, World.ownsRow_nil _ _ _ _, trivial⟩, hB0⟩
    (fun x => { tmps := #[.slice A len cap, undef, .slice none 0 0, .pointer (some ⟨w.heap.size, 0, none⟩), .int .i64 (x.1 : Int), .slice A len cap, .func (.func 25) #[] #[.pointer (some ⟨w.heap.size + 1, 0, none⟩)], .int .i64 (x.1 : Int), .agg x.2.cells, undef, undef, undef, undef, undef], defers := [] }) ?assign ?body ?done ?stop
  case assign =>
    intro l x W K hK
    gi_wp2
    exact hK
  case body =>
    rintro l pre x W ⟨⟨v, hv, hrow, _⟩, hB⟩ hlt
    have hc := hv.cell
    have hpl := places_length pre
    have hps := places_snoc pre x
    have HP := Lib.hid hps
    have HL := Lib.hid hpl
    clear hps hpl
    gi_wp2_with (gi_at_builtin; refine wpListIn_append_own _ rfl _ _ 38 rfl w.heap.size 3 i0 (.int .i64 0) 1 8 Try.underlying38 hi hz0 hz1 hz2 rfl (by decide) _ _ _ rfl (hrow.alloc _) ⟨W.heap.size, 0, none⟩ 1 1 [.int .i64 (x.1 : Int)] rfl rfl (cell_one_new _ _ _) (by simp [Value.oneCell']) (by rw [HL.out]; unfold maxLen; omega) (by rw [HL.out]; omega) (by have := hB.size; simp; omega) ?_; intro v' w1 hown' hgrow _; obtain ⟨g', cap', rfl⟩ := ownsRow_succ hown'; obtain ⟨hv1, hv2, hr2, hk2, hb2⟩ := hv.appended (by decide) hrow hB.size (Nat.le_refl _) hown' hgrow; have hc1 := hv1.cell; have hf1 := hv1.frozen)
    exact ⟨hk2.from _, hb2, ⟨_, hv2, by rw [HP.out]; simpa using hr2, trivial⟩, hB.trans hb2⟩
  case done =>
    rintro D ys W hD rfl ⟨⟨v, hv, hrow, _⟩, hB⟩ hK
    have hc := hv.cell
    gi_wp2
    refine ⟨by simp, .inl ⟨_, _, rfl, run_takeDeferred hK, ?_⟩⟩
    exact ⟨_, results_tmp rfl _ _ _, v, rfl, ownsRow_putObj hrow _ hK rfl, hB.trans (belowK_b (w := w) (Nat.le_refl _) W D _ _ (by simp at hD; omega) hK rfl rfl)⟩
  case stop =>
    rintro D c pre W _ _ h _
    exact h.elim
end Go.Proofs.Ytpclgafcldmchaa.It
