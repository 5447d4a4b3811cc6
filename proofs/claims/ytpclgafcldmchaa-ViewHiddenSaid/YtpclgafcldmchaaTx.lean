/- view.Text: the walk. -/
import Derived.Test.YtpclgafcldmchaaIt
import Derived.Laws.Cover4
import Derived.Laws.Rows
set_option linter.unusedVariables false
set_option linter.unusedSimpArgs false
namespace Go.Proofs.Ytpclgafcldmchaa.It
open Go.RowKit Go.Shelf
attribute [local go_sem] Oper.semAt_some
theorem info21 : (Try.prog.info? 21).map (fun i => (i.zero, i.size, i.bytes)) = some (some (.int .i32 0), 1, 4) := by kernel_rfl
/-- A rune as the text takes it. -/
def clip (n : Int) : Int := if wrap32 n = n then n else -1
def runes (l : List (Nat × El)) : List Int := l.map fun x => clip x.2.rune
theorem runes_snoc (l : List (Nat × El)) (x : Nat × El) : runes (l ++ [x]) = runes l ++ [clip x.2.rune] := by simp [runes]
theorem runes_length (l : List (Nat × El)) : (runes l).length = l.length := by simp [runes]
def rvals (l : List (Nat × El)) : List Value := (runes l).map (Value.int .i32)
theorem rvals_snoc (l : List (Nat × El)) (x : Nat × El) : rvals (l ++ [x]) = rvals l ++ [.int .i32 (clip x.2.rune)] := by simp [rvals, runes]
theorem rvals_length (l : List (Nat × El)) : (rvals l).length = l.length := by simp [rvals, runes]
/-- A block of six cells: the loop's variable. -/
def Var (W : World) (B : Nat) (x : El) : Prop := W.heap[B]? = some (.cells x.cells 44 (0, 0))
theorem var_own (lo B : Nat) (x : El) (a a' : Act) : OwnFrom lo (fun (_ : Unit) W => lo ≤ B ∧ Var W B x ∧ a' = a) := fun s W W' row hs hg hr => by
  obtain ⟨h1, h2, h3⟩ := hs
  refine ⟨h1, ?_, h3⟩
  unfold Var at h2 ⊢
  have hB : B < W.heap.size := (Array.getElem?_eq_some_iff.1 h2).1
  rw [hg.block B hB ?_]; exact h2
  intro e
  obtain ⟨_, o, ho, hc⟩ := hr B e.symm
  rw [h2] at ho
  injection ho with ho
  subst ho
  simp [Obj.isCells] at hc
theorem Var.cell {W : World} {B : Nat} {x : El} (h : Var W B x) (j : Nat) (v : Value) (hj : x.cells[j]? = some v) : W.cell? ⟨B, j, none⟩ = some v := by
  rw [cell_of_row W B j _ 44 _ h]; exact hj
theorem conv_row {W : World} {base : Nat} {v : Value} {l : List (Nat × El)} (h : W.ownsRow base 21 1 v (rvals l).length (rvals l)) : (convert 55 9 v).run Try.prog W = .ok (.string (runesBytes (runes l))) W := by
  rcases h.2 with ⟨rfl, h0⟩ | ⟨g, cap, cur, rfl, _⟩
  · rw [rvals_length] at h0
    obtain rfl : l = [] := List.eq_nil_of_length_eq_zero (by omega)
    exact run_convert_runes_nil W 55 9 21 0 0 Try.underlying55 Try.underlying21 Try.underlying9
  · have hl : (rvals l).length = (runes l).length := by simp [rvals]
    have := run_convert_runes W 55 9 21 ⟨g, 0, none⟩ (rvals l).length cap (runes l) (by omega) Try.underlying55 Try.underlying21 Try.underlying9 (fun j hj => by
      have hc := h.cells (g := g) rfl j (.int .i32 ((runes l).getD j 0)) (by simp [rvals, List.getD_eq_getElem?_getD, List.getElem?_eq_getElem hj])
      exact hc)
    rw [hl, List.take_length] at this
    rw [hl]; exact this
set_option maxRecDepth 100000 in
set_option maxHeartbeats 2000000 in
theorem Text_in (F : Fence) (n : Nat) (h19 : F.fn 19) (h24 : F.fn 24) (h25 : F.fn 25) (hro : F.round = none) (hn : 3 ≤ n) (A : Option Addr) (len cap : Nat) (f : Nat → El) (hreach : len * 8 ≤ 140737488351232) (w : World) (hI : Els w.heap.size w A len f) :
    CallsIn F n Try.prog 19 #[.slice A len cap] w fun e W' => e = .returned (.string (runesBytes (runes (came f len)))) ∧ Below w.heap.size w W' := by
  have h1 : 1 ≤ n := by omega
  obtain ⟨i0, hi, hz0, hz1, hz2⟩ := info_parts info21
  refine callsIn_of_wp_marks Try.func19 rfl h19 ?_ hro
  simp only [Try.ntmps19, List.size_toArray, List.length_cons, List.length_nil, Nat.reduceAdd, Nat.reduceSub, Array.replicate_succ, Array.replicate_zero, List.push_toArray, List.append_toArray, List.nil_append, List.cons_append]
  gi_wp2_with (gi_at_call 24; refine (seen_in F (n - 1) h24 hro _ _ _ _).mono ?_; rintro e w' ⟨rfl, rfl⟩)
  have bO := Boxed.new w 55 (.slice none 0 0)
  have bN := Boxed.new (w.alloc (.cells #[.slice none 0 0] 55)) 22 (.slice A len cap)
  rw [World.size_alloc] at bN
  have hB0 : Below w.heap.size w ((w.alloc (.cells #[.slice none 0 0] 55)).alloc (.cells #[.slice A len cap] 22)) := ((Below.refl _ w).alloc (Nat.le_refl _) _).alloc (by simp) _
  have hsz : ((w.alloc (.cells #[.slice none 0 0] 55)).alloc (.cells #[.slice A len cap] 22)).heap.size = w.heap.size + 2 := by simp
  have bO2 := bO.alloc (.cells #[.slice A len cap] 22)
  obtain ⟨W0, hW0⟩ : ∃ W0, (w.alloc (.cells #[.slice none 0 0] 55)).alloc (.cells #[.slice A len cap] 22) = W0 := ⟨_, rfl⟩
  rw [hW0] at bO2 bN hB0 hsz ⊢
  clear hW0
  refine wpIn_rangeFunc_ownH hro h1 (gf := 25) (lb := #[.pointer (some ⟨w.heap.size + 1, 0, none⟩)]) rfl h25 (enters_of Try.func25 (by kernel_rfl) rfl)
    (seen_stops F (n - 1) h25 hro (by omega) (w.heap.size + 1) w.heap.size A len cap f (by omega) W0 (by omega) (by omega) bN.cell (hI.below hB0)) belowK_t (belowK_b (by omega)) (Below.refl _ _) (fun _ => rfl)
    (fun pre W => (∃ v, Boxed W w.heap.size 55 v ∧ W.ownsRow w.heap.size 21 1 v (rvals pre).length (rvals pre) ∧ True) ∧ Below w.heap.size w W)
    (fun _ _ _ => False)
    (OwnFrom.and (Own.from (holdsRow_own w.heap.size w.heap.size 55 21 1 (fun pre => (rvals pre).length) (fun pre => rvals pre) (fun pre v => True)) _) (ownFrom_below (Nat.le_refl _) (by omega)))
    (fun _ _ _ _ _ hs _ _ => hs)
    ⟨⟨_, bO2, World.ownsRow_nil _ _ _ _, trivial⟩, hB0⟩
    (fun x a' W => ∃ Bx, w.heap.size < Bx ∧ Var W Bx x.2 ∧ a' = { tmps := #[.slice A len cap, undef, .string ⟨#[]⟩, .pointer (some ⟨w.heap.size, 0, none⟩), undef, .pointer (some ⟨Bx, 0, none⟩), undef, .slice A len cap, .func (.func 25) #[] #[.pointer (some ⟨w.heap.size + 1, 0, none⟩)], .int .i64 (x.1 : Int), .agg x.2.cells, undef, undef, undef, undef, undef, undef, undef, undef, undef, undef, undef, undef, undef, undef], defers := [] })
    (fun x a' _ X Y row hs hg hr => by obtain ⟨Bx, h1, h2, h3⟩ := hs; exact ⟨Bx, h1, (var_own 0 Bx x.2 a' a' () X Y row ⟨Nat.zero_le _, h2, rfl⟩ hg (fun r e => ⟨Nat.zero_le _, (hr r e).2⟩)).2.1, h3⟩)
    ?assign ?body ?done ?stop
  case assign =>
    rintro l pre x W K ⟨⟨v, hv, hrow, _⟩, hB⟩ hK
    have hsW := hB.size
    simp only [El.cells]
    gi_wp2
    exact hK _ _ ((KeepsOthers.alloc _ _).from _) ((Below.refl _ W).alloc hsW _) ⟨⟨v, hv.alloc _, hrow.alloc _, trivial⟩, hB.alloc hsW _⟩ ⟨W.heap.size, hv.lt, heap_alloc_new _ _, rfl⟩
  case body =>
    rintro l pre x a' W hl ⟨r, hr⟩ ⟨⟨v, hv, hrow, _⟩, hB⟩ ⟨Bx, hBx, hvar, rfl⟩ hlt
    have hc := hv.cell
    have hpl := rvals_length pre
    have hps := rvals_snoc pre x
    have HP := Lib.hid hps
    have HL := Lib.hid hpl
    have c4 := hvar.cell 4 (.int .i64 x.2.rune) rfl
    clear hps hpl
    have hq1 : -2147483648 ≤ wrap32 x.2.rune ∧ wrap32 x.2.rune ≤ 2147483647 := by unfold wrap32; omega
    by_cases hclip : wrap32 x.2.rune = x.2.rune
    · have hcl : clip x.2.rune = x.2.rune := by unfold clip; rw [if_pos hclip]
      have HC := Lib.hid hcl
      rw [hclip] at hq1
      obtain ⟨hq1, hq2⟩ := hq1
      clear hcl
      gi_wp2_with (gi_at_builtin; refine wpListIn_append_own _ rfl _ _ 55 rfl w.heap.size 21 i0 (.int .i32 0) 1 4 Try.underlying55 hi hz0 hz1 hz2 rfl (by decide) _ _ _ rfl (hrow.alloc _) ⟨W.heap.size, 0, none⟩ 1 1 [.int .i32 x.2.rune] rfl rfl (cell_one_new _ _ _) (by simp [Value.oneCell']) (by rw [HL.out]; unfold maxLen; omega) (by rw [HL.out]; omega) (by have := hB.size; simp; omega) ?_; intro v' w1 hown' hgrow _; obtain ⟨g', cap', rfl⟩ := ownsRow_succ hown'; obtain ⟨hv1, hv2, hr2, hk2, hb2⟩ := hv.appended (by decide) hrow hB.size (Nat.le_refl _) hown' hgrow; have hc1 := hv1.cell; have hf1 := hv1.frozen)
      exact ⟨hk2.from _, hb2, ⟨_, hv2, by rw [HP.out, HC.out]; simpa using hr2, trivial⟩, hB.trans hb2⟩
    · have hcl : clip x.2.rune = -1 := by unfold clip; rw [if_neg hclip]
      have HC := Lib.hid hcl
      have hne : (wrap32 x.2.rune != x.2.rune) = true := bne_iff_ne.2 hclip
      obtain ⟨hq1, hq2⟩ := hq1
      obtain ⟨q, hq⟩ : ∃ q, wrap32 x.2.rune = q := ⟨_, rfl⟩
      rw [hq] at hq1 hq2 hne
      clear hcl hclip
      gi_wp2_with (gi_at_builtin; refine wpListIn_append_own _ rfl _ _ 55 rfl w.heap.size 21 i0 (.int .i32 0) 1 4 Try.underlying55 hi hz0 hz1 hz2 rfl (by decide) _ _ _ rfl (hrow.alloc _) ⟨W.heap.size, 0, none⟩ 1 1 [.int .i32 (-1)] rfl rfl (cell_one_new _ _ _) (by simp [Value.oneCell']) (by rw [HL.out]; unfold maxLen; omega) (by rw [HL.out]; omega) (by have := hB.size; simp; omega) ?_; intro v' w1 hown' hgrow _; obtain ⟨g', cap', rfl⟩ := ownsRow_succ hown'; obtain ⟨hv1, hv2, hr2, hk2, hb2⟩ := hv.appended (by decide) hrow hB.size (Nat.le_refl _) hown' hgrow; have hc1 := hv1.cell; have hf1 := hv1.frozen)
      exact ⟨hk2.from _, hb2, ⟨_, hv2, by rw [HP.out, HC.out]; simpa using hr2, trivial⟩, hB.trans hb2⟩
  case done =>
    rintro D ys W hD rfl ⟨⟨v, hv, hrow, _⟩, hB⟩ hK
    have hc := hv.cell
    have hcv := conv_row hrow
    gi_wp2
    refine ⟨by simp, .inl ⟨_, _, rfl, run_takeDeferred hK, ?_⟩⟩
    exact ⟨_, results_tmp rfl _ _ _, rfl, hB.trans (belowK_b (w := w) (Nat.le_refl _) W D _ _ (by omega) hK rfl rfl)⟩
  case stop =>
    rintro D c pre W _ _ h _
    exact h.elim
end Go.Proofs.Ytpclgafcldmchaa.It
