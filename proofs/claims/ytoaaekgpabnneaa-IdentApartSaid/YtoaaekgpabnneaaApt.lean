/- IdentApart: the walk. -/
import Derived.Test.YtoaaekgpabnneaaMks
import Derived.Deep.RegionHeld3
import Derived.OwnWalk
set_option linter.unusedVariables false
set_option linter.unusedSimpArgs false
namespace Go.Proofs.Ytoaaekgpabnneaa.Apt
open Go.RowKit Go.Proofs.Ytoaaekgpabnneaa.P Go.Proofs.Ytoaaekgpabnneaa.Sta Go.Proofs.Ytoaaekgpabnneaa.Giv Go.Proofs.Ytoaaekgpabnneaa.Cpt Go.Proofs.Ytoaaekgpabnneaa.Odr Go.Proofs.Ytoaaekgpabnneaa.Rnk Go.Proofs.Ytoaaekgpabnneaa.Mks Go.Proofs.YtoaaekgpabnneaaW.PrintWords Go.Proofs.YtoaaekgpabnneaaW.PrintLast
/-- Two makers of two sites, and what they made. -/
structure Ap (w0 W : World) (g h : Nat) (a b : Int) (v : Value) (L : List S23) (ta tb : Int) : Prop where
  bl : Below w0.heap.size w0 W
  hg : w0.heap.size ≤ g
  hh : w0.heap.size ≤ h
  m : Mk W g ta a
  n : Mk W h tb b
  gh : g ≠ h
  row : W.ownsRow w0.heap.size 23 2 v L.length (flat L)
  all : ∀ y ∈ L, (y.f1 = a ∧ y.f0 ≤ ta) ∨ (y.f1 = b ∧ y.f0 ≤ tb)
  ta0 : 0 ≤ ta
  tb0 : 0 ≤ tb
  ta1 : ta ≤ L.length
  tb1 : tb ≤ L.length
theorem Ap.below {w0 W W1 : World} {g h : Nat} {a b : Int} {v : Value} {L : List S23} {ta tb : Int} (s : Ap w0 W g h a b v L ta tb) (hb : Below W.heap.size W W1) : Ap w0 W1 g h a b v L ta tb :=
  ⟨below_then s.bl s.bl.size hb, s.hg, s.hh, Mk.below s.m hb, Mk.below s.n hb, s.gh, pw_own_below s.row hb, s.all, s.ta0, s.tb0, s.ta1, s.tb1⟩
/-- One more is made, and lies in the box p. -/
structure Ax (w0 W : World) (g h : Nat) (a b : Int) (v : Value) (L : List S23) (ta tb : Int) (p : Nat) (x : S23) : Prop where
  bl : Below w0.heap.size w0 W
  hg : w0.heap.size ≤ g
  hh : w0.heap.size ≤ h
  m : Mk W g ta a
  n : Mk W h tb b
  gh : g ≠ h
  row : W.ownsRow w0.heap.size 23 2 v L.length (flat L)
  px : W.heap[p]? = some (.cells #[.int .i64 x.f0, .int .i64 x.f1] 23 (0, 0))
  pv : some p ≠ v.ownBlock
  new : ∀ y ∈ L, y ≠ x ∧ (y.f1 = x.f1 → ltI y x = true)
  all : ∀ y ∈ L ++ [x], (y.f1 = a ∧ y.f0 ≤ ta) ∨ (y.f1 = b ∧ y.f0 ≤ tb)
  xc : chk x.f0 x.f1 = 0
  x1 : x.f0 ≤ L.length + 1
  ta0 : 0 ≤ ta
  tb0 : 0 ≤ tb
  ta1 : ta ≤ L.length + 1
  tb1 : tb ≤ L.length + 1
theorem Ax.below {w0 W W1 : World} {g h : Nat} {a b : Int} {v : Value} {L : List S23} {ta tb : Int} {p : Nat} {x : S23} (s : Ax w0 W g h a b v L ta tb p x) (hb : Below W.heap.size W W1) : Ax w0 W1 g h a b v L ta tb p x :=
  ⟨below_then s.bl s.bl.size hb, s.hg, s.hh, Mk.below s.m hb, Mk.below s.n hb, s.gh, pw_own_below s.row hb, cells_below s.px hb, s.pv, s.new, s.all, s.xc, s.x1, s.ta0, s.tb0, s.ta1, s.tb1⟩
theorem Ax.c0 {w0 W : World} {g h : Nat} {a b : Int} {v : Value} {L : List S23} {ta tb : Int} {p : Nat} {x : S23} (s : Ax w0 W g h a b v L ta tb p x) : W.cell? ⟨p, 0, none⟩ = some (.int .i64 x.f0) := by unfold World.cell?; rw [s.px]; rfl
theorem Ax.c1 {w0 W : World} {g h : Nat} {a b : Int} {v : Value} {L : List S23} {ta tb : Int} {p : Nat} {x : S23} (s : Ax w0 W g h a b v L ta tb p x) : W.cell? ⟨p, 1, none⟩ = some (.int .i64 x.f1) := by unfold World.cell?; rw [s.px]; rfl
/-- A maker makes one: what is new of it. -/
theorem new_of {a b : Int} (hab : a ≠ b) {L : List S23} {ta tb : Int} (h : ∀ y ∈ L, (y.f1 = a ∧ y.f0 ≤ ta) ∨ (y.f1 = b ∧ y.f0 ≤ tb)) : ∀ y ∈ L, y ≠ (⟨ta + 1, a⟩ : S23) ∧ (y.f1 = a → ltI y ⟨ta + 1, a⟩ = true) := by
  intro y hy
  rcases h y hy with ⟨h1, h2⟩ | ⟨h1, h2⟩
  · refine ⟨fun e => by rw [e] at h2; simp at h2; omega, fun _ => ?_⟩
    have : y.f0 < ta + 1 := by omega
    simp [ltI, this]
  · exact ⟨fun e => hab (by rw [e] at h1; exact h1), fun e => absurd (e.symm.trans h1) hab⟩
theorem grow_a {a b : Int} {L : List S23} {ta tb : Int} (h : ∀ y ∈ L, (y.f1 = a ∧ y.f0 ≤ ta) ∨ (y.f1 = b ∧ y.f0 ≤ tb)) : ∀ y ∈ L ++ [(⟨ta + 1, a⟩ : S23)], (y.f1 = a ∧ y.f0 ≤ ta + 1) ∨ (y.f1 = b ∧ y.f0 ≤ tb) := by
  intro y hy
  rcases List.mem_append.1 hy with hy | hy
  · rcases h y hy with ⟨h1, h2⟩ | ⟨h1, h2⟩
    · exact .inl ⟨h1, by omega⟩
    · exact .inr ⟨h1, h2⟩
  · obtain rfl := List.mem_singleton.1 hy
    exact .inl ⟨rfl, Int.le_refl _⟩
theorem grow_b {a b : Int} {L : List S23} {ta tb : Int} (h : ∀ y ∈ L, (y.f1 = a ∧ y.f0 ≤ ta) ∨ (y.f1 = b ∧ y.f0 ≤ tb)) : ∀ y ∈ L ++ [(⟨tb + 1, b⟩ : S23)], (y.f1 = a ∧ y.f0 ≤ ta) ∨ (y.f1 = b ∧ y.f0 ≤ tb + 1) := by
  intro y hy
  rcases List.mem_append.1 hy with hy | hy
  · rcases h y hy with ⟨h1, h2⟩ | ⟨h1, h2⟩
    · exact .inl ⟨h1, h2⟩
    · exact .inr ⟨h1, by omega⟩
  · obtain rfl := List.mem_singleton.1 hy
    exact .inr ⟨rfl, Int.le_refl _⟩
theorem mono_ab {a b : Int} {L : List S23} {ta tb ta' tb' : Int} (h : ∀ y ∈ L, (y.f1 = a ∧ y.f0 ≤ ta) ∨ (y.f1 = b ∧ y.f0 ≤ tb)) (h1 : ta ≤ ta') (h2 : tb ≤ tb') : ∀ y ∈ L, (y.f1 = a ∧ y.f0 ≤ ta') ∨ (y.f1 = b ∧ y.f0 ≤ tb') := fun y hy => by
  rcases h y hy with ⟨h3, h4⟩ | ⟨h3, h4⟩
  · exact .inl ⟨h3, by omega⟩
  · exact .inr ⟨h3, by omega⟩
/-- The one maker makes. -/
theorem Ap.make {w0 W W1 : World} {g h : Nat} {a b : Int} {v : Value} {L : List S23} {ta tb : Int} (s : Ap w0 W g h a b v L ta tb) (hab : a ≠ b) (ha : 0 ≤ a ∧ a ≤ 15) (hL : L.length < 60) (p : Nat) (hp : W.heap[p]? = some (.cells #[.int .i64 0, .int .i64 0] 23 (0, 0))) (hpv : some p ≠ v.ownBlock)
    (hp0 : w0.heap.size ≤ p) (hm : Mk W1 g (ta + 1) a) (hB : But g W W1) : Ax w0 ((W1.setCell ⟨p, 0, none⟩ (.int .i64 (ta + 1))).setCell ⟨p, 1, none⟩ (.int .i64 a)) g h a b v L (ta + 1) tb p ⟨ta + 1, a⟩ := by
  have hpg : p ≠ g := blk_ne hp s.m (by decide)
  have hph : p ≠ h := blk_ne hp s.n (by decide)
  have h1 : W1.heap[p]? = some (.cells #[.int .i64 0, .int .i64 0] 23 (0, 0)) := (hB.block p hpg (blk_lt hp)).trans hp
  have h2 := blk_put (cs := #[.int .i64 0, .int .i64 0]) h1 0 (.int .i64 (ta + 1)) rfl
  have h3 := blk_put (cs := #[.int .i64 (ta + 1), .int .i64 0]) h2 1 (.int .i64 a) rfl
  have far : ∀ k, k ≠ p → ((W1.setCell ⟨p, 0, none⟩ (.int .i64 (ta + 1))).setCell ⟨p, 1, none⟩ (.int .i64 a)).heap[k]? = W1.heap[k]? := fun k hk => (Below.heap_setCell _ ⟨p, 1, none⟩ _ k hk).trans (Below.heap_setCell _ ⟨p, 0, none⟩ _ k hk)
  have hl := s.ta1
  refine ⟨((But.out s.bl s.hg hB).setCell hp0 _).setCell hp0 _, s.hg, s.hh, (far g (Ne.symm hpg)).trans hm, (far h (Ne.symm hph)).trans ((hB.block h (Ne.symm s.gh) (blk_lt s.n)).trans s.n), s.gh, ?_, h3, hpv, new_of hab s.all, grow_a s.all, chk_mk _ _ (by have := s.ta0; simp; omega) (by simp; omega) ha.1 ha.2, by simp; omega, by have := s.ta0; omega, s.tb0, by omega, by have := s.tb1; omega⟩
  have hgv : some g ≠ v.ownBlock := own_ne s.row s.m (by decide)
  have r1 : W1.ownsRow w0.heap.size 23 2 v L.length (flat L) := by
    refine ⟨s.row.1, ?_⟩
    rcases s.row.2 with h | ⟨g', cap, cur, rfl, q1, q2, q3⟩
    · exact .inl h
    · refine .inr ⟨g', cap, cur, rfl, q1, ?_, q3⟩
      exact (hB.block g' (fun e => hgv (by rw [← e]; rfl)) (blk_lt q2)).trans q2
  exact own_setCell (own_setCell r1 hpv _) hpv _
theorem Ap.pcells {w0 W W1 : World} {g h : Nat} {a b : Int} {v : Value} {L : List S23} {ta tb : Int} (s : Ap w0 W g h a b v L ta tb) {p : Nat} (hp : W.heap[p]? = some (.cells #[.int .i64 0, .int .i64 0] 23 (0, 0))) (hB : But g W W1) :
    W1.cell? ⟨p, 0, none⟩ = some (.int .i64 0) ∧ W1.cell? ⟨p, 1, none⟩ = some (.int .i64 0) ∧ W1.frozen? ⟨p, 0, none⟩ = false ∧ W1.frozen? ⟨p, 1, none⟩ = false := by
  have hpg : p ≠ g := blk_ne hp s.m (by decide)
  have h1 : W1.heap[p]? = some (.cells #[.int .i64 0, .int .i64 0] 23 (0, 0)) := (hB.block p hpg (blk_lt hp)).trans hp
  exact ⟨by rw [blk_cell h1]; rfl, by rw [blk_cell h1]; rfl, blk_frozen h1 _, blk_frozen h1 _⟩
/-- The other one makes. -/
theorem Ap.swap {w0 W : World} {g h : Nat} {a b : Int} {v : Value} {L : List S23} {ta tb : Int} (s : Ap w0 W g h a b v L ta tb) : Ap w0 W h g b a v L tb ta :=
  ⟨s.bl, s.hh, s.hg, s.n, s.m, s.gh.symm, s.row, fun y hy => (s.all y hy).symm, s.tb0, s.ta0, s.tb1, s.ta1⟩
theorem Ax.swap {w0 W : World} {g h : Nat} {a b : Int} {v : Value} {L : List S23} {ta tb : Int} {p : Nat} {x : S23} (s : Ax w0 W g h a b v L ta tb p x) : Ax w0 W h g b a v L tb ta p x :=
  ⟨s.bl, s.hh, s.hg, s.n, s.m, s.gh.symm, s.row, s.px, s.pv, s.new, fun y hy => (s.all y hy).symm, s.xc, s.x1, s.tb0, s.ta0, s.tb1, s.ta1⟩
theorem row_at {W : World} {base : Nat} {v : Value} {L : List S23} (h : W.ownsRow base 23 2 v L.length (flat L)) (k : Nat) (hk : k < L.length) : ∃ g c, v = .slice (some ⟨g, 0, none⟩) L.length c ∧ W.cell? ⟨g, k * 2, none⟩ = some (.int .i64 L[k].f0) ∧ W.cell? ⟨g, k * 2 + 1, none⟩ = some (.int .i64 L[k].f1) := by
  rcases h.2 with ⟨_, e⟩ | ⟨g, cap, cur, rfl, q1, q2, q3, q4, q5, q6⟩
  · omega
  · have hf := flat_at L [] k hk
    rw [List.append_nil] at hf
    refine ⟨g, cap, rfl, ?_, ?_⟩
    · rw [blk_cell q2, ← Array.getElem?_toList]
      rw [← q6, List.getElem?_take, if_pos (by omega)] at hf
      exact hf.1
    · rw [blk_cell q2, ← Array.getElem?_toList]
      have h2 := hf.2
      rw [← q6, List.getElem?_take, if_pos (by omega)] at h2
      exact h2
/-- What was made is kept. -/
theorem Ax.push {w0 W W1 : World} {g h : Nat} {a b : Int} {v v' : Value} {L : List S23} {ta tb : Int} {p : Nat} {x : S23} (s : Ax w0 W g h a b v L ta tb p x) {o : Obj} (hg : (W.alloc o).grownBy W1 v.ownBlock) (ho : W1.ownsRow w0.heap.size 23 2 v' (L.length + 1) (flat L ++ [.int .i64 x.f0, .int .i64 x.f1])) :
    Ap w0 W1 g h a b v' (L ++ [x]) ta tb ∧ W1.heap[p]? = some (.cells #[.int .i64 x.f0, .int .i64 x.f1] 23 (0, 0)) := by
  have s2 := s.below (below_alloc (Below.refl _ W) o)
  refine ⟨⟨s2.bl.grown hg s2.bl.size (fun k hk => own_base s2.row k hk), s.hg, s.hh, blk_grown s2.m hg (own_ne s2.row s2.m (by decide)), blk_grown s2.n hg (own_ne s2.row s2.n (by decide)), s.gh, ?_, s.all, s.ta0, s.tb0, by simpa using s.ta1, by simpa using s.tb1⟩, blk_grown s2.px hg s.pv⟩
  rw [List.length_append, flat_append]
  exact ho
theorem mxt_le {t0 t n : Int} (h1 : t0 ≤ n) (h2 : t ≤ n) : mxt t0 t ≤ n := by unfold mxt; split <;> omega
theorem mxt_ge (t0 t : Int) : t0 ≤ mxt t0 t := by unfold mxt; split <;> omega
theorem Ap.seen {w0 W W1 : World} {g h : Nat} {a b : Int} {v : Value} {L : List S23} {ta tb t : Int} (s : Ap w0 W g h a b v L ta tb) (ht : t ≤ L.length) (hm : Mk W1 g (mxt ta t) a) (hB : But g W W1) : Ap w0 W1 g h a b v L (mxt ta t) tb := by
  have hgv : some g ≠ v.ownBlock := own_ne s.row s.m (by decide)
  refine ⟨But.out s.bl s.hg hB, s.hg, s.hh, hm, (hB.block h (Ne.symm s.gh) (blk_lt s.n)).trans s.n, s.gh, ?_, mono_ab s.all (mxt_ge _ _) (Int.le_refl _), Int.le_trans s.ta0 (mxt_ge _ _), s.tb0, mxt_le s.ta1 ht, s.tb1⟩
  refine ⟨s.row.1, ?_⟩
  rcases s.row.2 with h | ⟨g', cap, cur, rfl, q1, q2, q3⟩
  · exact .inl h
  · refine .inr ⟨g', cap, cur, rfl, q1, ?_, q3⟩
    exact (hB.block g' (fun e => hgv (by rw [← e]; rfl)) (blk_lt q2)).trans q2
theorem Ap.see {w0 W : World} {g h : Nat} {a b : Int} {v : Value} {L : List S23} {ta tb : Int} (s : Ap w0 W g h a b v L ta tb) (p : Nat) (x : S23) (hc : chk x.f0 x.f1 = 0) (ht : x.f0 ≤ L.length) (hp : W.heap[p]? = some (.cells #[.int .i64 x.f0, .int .i64 x.f1] 23 (0, 0))) :
    Calls Try.prog 21 #[.pointer (some ⟨g, 0, none⟩), .agg #[.int .i64 x.f0, .int .i64 x.f1]] W fun e w' => e = .returned (.int .i64 0) ∧ Ap w0 w' g h a b v L (mxt ta x.f0) tb ∧ w'.heap[p]? = some (.cells #[.int .i64 x.f0, .int .i64 x.f1] 23 (0, 0)) :=
  (See_ok g x.f0 x.f1 ta a hc W s.m).mono fun _ _ ⟨he, hm, hb⟩ => ⟨he, s.seen ht hm hb, (hb.block p (blk_ne hp s.m (by decide)) (blk_lt hp)).trans hp⟩
theorem Ap.see2 {w0 W : World} {g h : Nat} {a b : Int} {v : Value} {L : List S23} {ta tb : Int} (s : Ap w0 W g h a b v L ta tb) (p : Nat) (x : S23) (hc : chk x.f0 x.f1 = 0) (ht : x.f0 ≤ L.length) (hp : W.heap[p]? = some (.cells #[.int .i64 x.f0, .int .i64 x.f1] 23 (0, 0))) :
    Calls Try.prog 21 #[.pointer (some ⟨h, 0, none⟩), .agg #[.int .i64 x.f0, .int .i64 x.f1]] W fun e w' => e = .returned (.int .i64 0) ∧ Ap w0 w' g h a b v L ta (mxt tb x.f0) ∧ w'.heap[p]? = some (.cells #[.int .i64 x.f0, .int .i64 x.f1] 23 (0, 0)) :=
  (s.swap.see p x hc ht hp).mono fun _ _ ⟨he, hs, hb⟩ => ⟨he, hs.swap, hb⟩
theorem chk_site0 (s : Int) (h : chk 1 s = 0) : 0 ≤ s ∧ s ≤ 15 := by rcases chk_site s with ⟨h1, _⟩ | ⟨_, h1, h2⟩; · rw [h] at h1; cases h1
                                                                     · exact ⟨h1, h2⟩
theorem new_info : (Try.prog.info? 23).map (fun i => (i.zero, i.size, i.bytes)) = some (some (.agg #[.int .i64 0, .int .i64 0]), 2, 16) := by kernel_rfl
theorem apart_same (a : Int) (A : Option Addr) (n c : Nat) (w : World) : Calls Try.prog 7 #[.int .i64 a, .int .i64 a, .slice A n c] w fun e w' => e = .returned (.bool true) ∧ Below w.heap.size w w' := by
  go_enter Try.func7, Try.ntmps7
  go_wp2_with (go_at_call 13; with_reducible refine (live_calls _).mono ?_; rintro e w6 ⟨rfl, hB6⟩)
  go_ret
  exact ⟨rfl, hB6⟩
theorem apart_bad1 (a b : Int) (hab : (a == b) = false) (h : chk 1 a = 1) (A : Option Addr) (n c : Nat) (w : World) : Calls Try.prog 7 #[.int .i64 a, .int .i64 b, .slice A n c] w fun e w' => e = .returned (.bool true) ∧ Below w.heap.size w w' := by
  have HA := Lib.hid h
  clear h
  have d1 : decide (a = b) = false := by simpa using hab
  rcases chk_two 1 b with hb | hb
  · have HB := Lib.hid hb
    clear hb
    go_enter Try.func7, Try.ntmps7
    go_wp2_with (first
      | (go_at_call 19; with_reducible refine (New_bad a HA.out _).mono ?_; rintro e w1 ⟨rfl, hB1⟩)
      | (go_at_call 19; with_reducible refine (New_ok b HB.out _).mono ?_; rintro e w2 ⟨h, rfl, hh, hM2, hB2⟩)
      | (go_at_call 13; with_reducible refine (live_calls _).mono ?_; rintro e w6 ⟨rfl, hB6⟩))
    go_ret
    have b4 := below_then hB1 hB1.size hB2
    exact ⟨rfl, below_then b4 b4.size hB6⟩
  · have HB := Lib.hid hb
    clear hb
    go_enter Try.func7, Try.ntmps7
    go_wp2_with (first
      | (go_at_call 19; with_reducible refine (New_bad a HA.out _).mono ?_; rintro e w1 ⟨rfl, hB1⟩)
      | (go_at_call 19; with_reducible refine (New_bad b HB.out _).mono ?_; rintro e w2 ⟨rfl, hB2⟩)
      | (go_at_call 13; with_reducible refine (live_calls _).mono ?_; rintro e w6 ⟨rfl, hB6⟩))
    go_ret
    have b4 := below_then hB1 hB1.size hB2
    exact ⟨rfl, below_then b4 b4.size hB6⟩
theorem apart_bad2 (a b : Int) (hab : (a == b) = false) (h : chk 1 a = 0) (hb : chk 1 b = 1) (A : Option Addr) (n c : Nat) (w : World) : Calls Try.prog 7 #[.int .i64 a, .int .i64 b, .slice A n c] w fun e w' => e = .returned (.bool true) ∧ Below w.heap.size w w' := by
  have HA := Lib.hid h
  have HB := Lib.hid hb
  clear h hb
  have d1 : decide (a = b) = false := by simpa using hab
  go_enter Try.func7, Try.ntmps7
  go_wp2_with (first
    | (go_at_call 19; with_reducible refine (New_ok a HA.out _).mono ?_; rintro e w1 ⟨g, rfl, hg, hM1, hB1⟩)
    | (go_at_call 19; with_reducible refine (New_bad b HB.out _).mono ?_; rintro e w2 ⟨rfl, hB2⟩)
    | (go_at_call 13; with_reducible refine (live_calls _).mono ?_; rintro e w6 ⟨rfl, hB6⟩))
  go_ret
  have b4 := below_then hB1 hB1.size hB2
  exact ⟨rfl, below_then b4 b4.size hB6⟩
set_option maxHeartbeats 8000000 in
set_option maxRecDepth 100000 in
theorem apart_ok (a b : Int) (hab : (a == b) = false) (ha : chk 1 a = 0) (hb : chk 1 b = 0) (A : Option Addr) (c : Nat) (l : List Int) (w : World) (hC : Kd.C (Kd.int .i64) w A l.length l) :
    Calls Try.prog 7 #[.int .i64 a, .int .i64 b, .slice A l.length c] w fun e w' => e = .returned (.bool true) ∧ Below w.heap.size w w' := by
  have HA := Lib.hid ha
  have HB := Lib.hid hb
  have hml := Kd.C_max hC
  have HC := Lib.hid hC
  have d1 : decide (a = b) = false := by simpa using hab
  have HAB : Hid (a ≠ b) := Lib.hid (by simpa using hab)
  clear ha hb hC
  obtain ⟨i0, hi, hz0, hz1, hz2⟩ := info_parts new_info
  go_enter Try.func7, Try.ntmps7
  go_wp2_with (first
    | (go_at_call 19; with_reducible refine (New_ok a HA.out _).mono ?_; rintro e w1 ⟨g, rfl, hg, hM1, hB1⟩)
    | (go_at_call 19; with_reducible refine (New_ok b HB.out _).mono ?_; rintro e w2 ⟨h, rfl, hh, hM2, hB2⟩))
  have hgw : g < w1.heap.size := blk_lt hM1
  have hS : Hid (Ap w w2 g h a b (.slice none 0 0) [] 0 0) := Lib.hid ⟨below_then hB1 hB1.size hB2, hg, Nat.le_trans hB1.size hh, Mk.below hM1 hB2, hM2, by omega, own_nil _ _ _ _, fun y hy => by simp at hy, by omega, by omega, by simp, by simp⟩
  clear hM1 hM2 hB1 hB2 hg hh hgw d1 hab
  go_loopw [11, 12] (fun v11 v12 wr => ∃ (L : List S23) (ta tb : Int), v12 = .int .i64 (L.length : Nat) ∧ L.length ≤ 60 ∧ Hid (Ap w wr g h a b v11 L ta tb)) (fun _ v12 _ => 60 - (intOf v12).toNat)
  case atStart => exact ⟨[], 0, 0, rfl, by simp, hS⟩
  case round =>
    obtain ⟨L, ta, tb, rfl, hL60, HS⟩ := hrel
    obtain ⟨A', c', rfl⟩ := own_slice HS.out.row
    clear hS
    by_cases hi2 : L.length < l.length ∧ L.length < 60
    · obtain ⟨hil, hi6⟩ := hi2
      obtain ⟨ad, rfl, c0⟩ := Kd.at_int HC.out (L.length : Int) (by omega) (by omega)
      have d0 := pw_cell_below HS.out.bl c0
      rw [Int.toNat_natCast] at c0 d0
      have hC0 := Lib.hid c0
      clear c0
      generalize rd l (L.length : Int) = z at hC0 d0
      go_upto_region 14 with fail
      have hS3 : Hid (Ap w (wr.alloc (.cells #[.int .i64 0, .int .i64 0] 23)) g h a b (.slice A' L.length c') L ta tb) := Lib.hid (HS.out.below (below_alloc (Below.refl _ _) _))
      have hX3 : Hid ((wr.alloc (.cells #[.int .i64 0, .int .i64 0] 23)).heap[wr.heap.size]? = some (.cells #[.int .i64 0, .int .i64 0] 23 (0, 0))) := Lib.hid (heap_alloc_new _ _)
      have hpv : Hid (some wr.heap.size ≠ (Value.slice A' L.length c').ownBlock) := Lib.hid (fun e => by have := own_lt HS.out.row _ e.symm; omega)
      have hp0 : Hid (w.heap.size ≤ wr.heap.size) := Lib.hid HS.out.bl.size
      clear d0 HS
      have d0 := pw_cell_below hS3.out.bl hC0.out
      generalize wr.heap.size = p at hX3 hpv hp0 ⊢
      generalize wr.alloc (.cells #[.int .i64 0, .int .i64 0] 23) = w3 at hS3 hX3 d0 ⊢
      have hta := hS3.out.ta0
      have htb := hS3.out.tb0
      have hta1 := hS3.out.ta1
      have htb1 := hS3.out.tb1
      rcases hz2' : decide (z.tmod 2 = 0) with _ | _
      · have e2 : (z.tmod 2 == 0) = false := by simpa using hz2'
        go_upto_region 17 with (go_at_call 24; with_reducible refine (Make_ok h tb b (by omega) htb (by omega) _ hS3.out.n).mono ?_; rintro e w4 ⟨rfl, hM4, hB4⟩; obtain ⟨p0, p1, p2, p3⟩ := hS3.out.swap.pcells hX3.out hB4)
        have hA : Hid (Ax w ((w4.setCell ⟨p, 0, none⟩ (.int .i64 (tb + 1))).setCell ⟨p, 1, none⟩ (.int .i64 b)) g h a b (.slice A' L.length c') L ta (tb + 1) p ⟨tb + 1, b⟩) := Lib.hid (hS3.out.swap.make (fun e => HAB.out e.symm) (chk_site0 b HB.out) hi6 p hX3.out hpv.out hp0.out hM4 hB4).swap
        clear p0 p1 p2 p3 hM4 hB4 hS3 hX3 d0
        generalize (w4.setCell ⟨p, 0, none⟩ (.int .i64 (tb + 1))).setCell ⟨p, 1, none⟩ (.int .i64 b) = w5 at hA ⊢
        obtain ⟨x, ta', tb', hA⟩ : ∃ x ta' tb', Hid (Ax w w5 g h a b (.slice A' L.length c') L ta' tb' p x) := ⟨_, _, _, hA⟩
        clear hta htb hta1 htb1 e2 hz2'
        go_wp2
        go_loopw [14] (fun v14 wi => ∃ k : Nat, v14 = .int .i64 k ∧ k ≤ L.length ∧ Hid (Ax w wi g h a b (.slice A' L.length c') L ta' tb' p x)) (fun v14 _ => L.length - (intOf v14).toNat)
        case atStart => exact ⟨0, rfl, Nat.zero_le _, hA⟩
        case round =>
          obtain ⟨k, rfl, hk, HX⟩ := hrel
          clear hA
          by_cases hkl : k < L.length
          · obtain ⟨g2, c2, e2, y0, y1⟩ := row_at HX.out.row k hkl
            injection e2 with e3 e4 e5
            subst e3 e5
            have hnew := HX.out.new L[k] (List.getElem_mem hkl)
            have x0 := HX.out.c0
            have x1 := HX.out.c1
            generalize L[k] = y at y0 y1 hnew
            by_cases q1 : y.f1 = x.f1
            · have q0 : ¬ y.f0 = x.f0 := fun e => hnew.1 (by cases y; cases x; simp at q1 e; simp [q1, e])
              have b1 : (y.f1 == x.f1) = true := by simpa using q1
              have b0 : (y.f0 == x.f0) = false := by simpa using q0
              have hlt := hnew.2 q1
              have hls := less_calls y x
              rw [hlt] at hls
              clear hnew hlt q0 q1
              go_upto_region 20 with fail
              have HX0 := HX.out
              go_region_held3 (fun w' => w'.cell? ⟨g2, k * 2, none⟩ = some (.int .i64 y.f0) ∧ w'.cell? ⟨g2, k * 2 + 1, none⟩ = some (.int .i64 y.f1) ∧ w'.cell? ⟨p, 0, none⟩ = some (.int .i64 x.f0) ∧ w'.cell? ⟨p, 1, none⟩ = some (.int .i64 x.f1) ∧ Ax w w' g h a b (.slice (some ⟨g2, 0, none⟩) L.length c') L ta' tb' p x)
                (first | exact ⟨y0, y1, x0, x1, HX0.below (below_drew (Below.refl _ _))⟩ | (go_split_ands; refine ⟨?_, ?_, ?_, ?_, ?_⟩ <;> first | assumption | exact pw_cell_below hBx (by assumption) | exact Ax.below (by assumption) hBx) | go_keep)
                ((go_at_call 9; with_reducible refine (hls _).mono ?_; rintro e wx ⟨rfl, hBx⟩))
              go_split_ands
              go_wp2
              go_roundw
              case rel => exact ⟨k + 1, by go_num, by omega, Lib.hid (by assumption)⟩
              case measure => simp [intOf]; omega
            · have b1 : (y.f1 == x.f1) = false := by simpa using q1
              clear hnew q1
              rcases hq0 : (y.f0 == x.f0) with _ | _
              all_goals
                go_upto_region 20 with fail
                go_quiet (fail)
                go_wp2
                go_roundw
                case rel => exact ⟨k + 1, by go_num, by omega, Lib.hid (HX.out.below (pw_below_drewN (Below.refl _ _) _))⟩
                case measure => simp [intOf]; omega
          · have x0 := HX.out.c0
            have x1 := HX.out.c1
            go_upto_region 23 with (at_builtin; refine wpList_append_own _ rfl _ _ 29 rfl w.heap.size 23 i0 (.agg #[.int .i64 0, .int .i64 0]) 2 16 Try.underlying29 hi hz0 hz1 hz2 rfl (by decide) _ _ _ rfl (pw_own_below HX.out.row (below_alloc (Below.refl _ _) _)) ⟨wr.heap.size, 0, none⟩ 1 1 [.int .i64 x.f0, .int .i64 x.f1] rfl rfl (World.news_of_block (cs := #[.int .i64 x.f0, .int .i64 x.f1]) (t := 23) (fr := (0, 0)) (heap_alloc_new _ _)) (by simp [Value.oneCell']) (by unfold maxLen; omega) (by omega) (by have := HX.out.bl.size; simp; omega) ?_; intro v' w6 hown hgrow hnil)
            obtain ⟨hP, hpx⟩ := HX.out.push hgrow hown
            have hxc := HX.out.xc
            have hx1 := HX.out.x1
            have hln : ((L ++ [x]).length : Int) = (L.length : Int) + 1 := by simp
            clear x0 x1 hown hgrow hnil
            have hxl : x.f0 ≤ ((L ++ [x]).length : Int) := by omega
            have HLN := Lib.hid hln
            have HXL := Lib.hid hxl
            have HXC := Lib.hid hxc
            have d0 := pw_cell_below hP.bl hC0.out
            clear hln hxl hxc hx1
            have HP := Lib.hid hP
            have HPX := Lib.hid hpx
            have x0 : w6.cell? ⟨p, 0, none⟩ = some (.int .i64 x.f0) := by unfold World.cell?; rw [hpx]; rfl
            have x1 : w6.cell? ⟨p, 1, none⟩ = some (.int .i64 x.f1) := by unfold World.cell?; rw [hpx]; rfl
            clear hP hpx
            rcases hz3 : decide (z.tmod 3 = 0) with _ | _
            · have e3 : (z.tmod 3 == 0) = false := by simpa using hz3
              go_wp2
              go_roundw
              case rel => exact ⟨L ++ [x], ta', tb', by rw [List.length_append]; go_num, by simp; omega, HP⟩
              case measure => simp [intOf]; omega
            · have e3 : (z.tmod 3 == 0) = true := by simpa using hz3
              go_upto_region 25 with (go_at_call 21; with_reducible refine (HP.out.see p x HXC.out HXL.out HPX.out).mono ?_; rintro e w7 ⟨rfl, hP7, hpx7⟩)
              have HP7 := Lib.hid hP7
              have HPX7 := Lib.hid hpx7
              clear x0 x1 d0
              have x0 : w7.cell? ⟨p, 0, none⟩ = some (.int .i64 x.f0) := by unfold World.cell?; rw [hpx7]; rfl
              have x1 : w7.cell? ⟨p, 1, none⟩ = some (.int .i64 x.f1) := by unfold World.cell?; rw [hpx7]; rfl
              clear hP7 hpx7
              go_wp2_with (go_at_call 21; with_reducible refine (HP7.out.see2 p x HXC.out HXL.out HPX7.out).mono ?_; rintro e w8 ⟨rfl, hP8, hpx8⟩)
              go_roundw
              case rel => exact ⟨L ++ [x], _, _, by rw [List.length_append]; go_num, by simp; omega, Lib.hid hP8⟩
              case measure => simp [intOf]; omega
      · have e2 : (z.tmod 2 == 0) = true := by simpa using hz2'
        go_upto_region 17 with (go_at_call 24; with_reducible refine (Make_ok g ta a (by omega) hta (by omega) _ hS3.out.m).mono ?_; rintro e w4 ⟨rfl, hM4, hB4⟩; obtain ⟨p0, p1, p2, p3⟩ := hS3.out.pcells hX3.out hB4)
        have hA : Hid (Ax w ((w4.setCell ⟨p, 0, none⟩ (.int .i64 (ta + 1))).setCell ⟨p, 1, none⟩ (.int .i64 a)) g h a b (.slice A' L.length c') L (ta + 1) tb p ⟨ta + 1, a⟩) := Lib.hid (hS3.out.make HAB.out (chk_site0 a HA.out) hi6 p hX3.out hpv.out hp0.out hM4 hB4)
        clear p0 p1 p2 p3 hM4 hB4 hS3 hX3 d0
        generalize (w4.setCell ⟨p, 0, none⟩ (.int .i64 (ta + 1))).setCell ⟨p, 1, none⟩ (.int .i64 a) = w5 at hA ⊢
        obtain ⟨x, ta', tb', hA⟩ : ∃ x ta' tb', Hid (Ax w w5 g h a b (.slice A' L.length c') L ta' tb' p x) := ⟨_, _, _, hA⟩
        clear hta htb hta1 htb1 e2 hz2'
        go_wp2
        go_loopw [14] (fun v14 wi => ∃ k : Nat, v14 = .int .i64 k ∧ k ≤ L.length ∧ Hid (Ax w wi g h a b (.slice A' L.length c') L ta' tb' p x)) (fun v14 _ => L.length - (intOf v14).toNat)
        case atStart => exact ⟨0, rfl, Nat.zero_le _, hA⟩
        case round =>
          obtain ⟨k, rfl, hk, HX⟩ := hrel
          clear hA
          by_cases hkl : k < L.length
          · obtain ⟨g2, c2, e2, y0, y1⟩ := row_at HX.out.row k hkl
            injection e2 with e3 e4 e5
            subst e3 e5
            have hnew := HX.out.new L[k] (List.getElem_mem hkl)
            have x0 := HX.out.c0
            have x1 := HX.out.c1
            generalize L[k] = y at y0 y1 hnew
            by_cases q1 : y.f1 = x.f1
            · have q0 : ¬ y.f0 = x.f0 := fun e => hnew.1 (by cases y; cases x; simp at q1 e; simp [q1, e])
              have b1 : (y.f1 == x.f1) = true := by simpa using q1
              have b0 : (y.f0 == x.f0) = false := by simpa using q0
              have hlt := hnew.2 q1
              have hls := less_calls y x
              rw [hlt] at hls
              clear hnew hlt q0 q1
              go_upto_region 20 with fail
              have HX0 := HX.out
              go_region_held3 (fun w' => w'.cell? ⟨g2, k * 2, none⟩ = some (.int .i64 y.f0) ∧ w'.cell? ⟨g2, k * 2 + 1, none⟩ = some (.int .i64 y.f1) ∧ w'.cell? ⟨p, 0, none⟩ = some (.int .i64 x.f0) ∧ w'.cell? ⟨p, 1, none⟩ = some (.int .i64 x.f1) ∧ Ax w w' g h a b (.slice (some ⟨g2, 0, none⟩) L.length c') L ta' tb' p x)
                (first | exact ⟨y0, y1, x0, x1, HX0.below (below_drew (Below.refl _ _))⟩ | (go_split_ands; refine ⟨?_, ?_, ?_, ?_, ?_⟩ <;> first | assumption | exact pw_cell_below hBx (by assumption) | exact Ax.below (by assumption) hBx) | go_keep)
                ((go_at_call 9; with_reducible refine (hls _).mono ?_; rintro e wx ⟨rfl, hBx⟩))
              go_split_ands
              go_wp2
              go_roundw
              case rel => exact ⟨k + 1, by go_num, by omega, Lib.hid (by assumption)⟩
              case measure => simp [intOf]; omega
            · have b1 : (y.f1 == x.f1) = false := by simpa using q1
              clear hnew q1
              rcases hq0 : (y.f0 == x.f0) with _ | _
              all_goals
                go_upto_region 20 with fail
                go_quiet (fail)
                go_wp2
                go_roundw
                case rel => exact ⟨k + 1, by go_num, by omega, Lib.hid (HX.out.below (pw_below_drewN (Below.refl _ _) _))⟩
                case measure => simp [intOf]; omega
          · have x0 := HX.out.c0
            have x1 := HX.out.c1
            go_upto_region 23 with (at_builtin; refine wpList_append_own _ rfl _ _ 29 rfl w.heap.size 23 i0 (.agg #[.int .i64 0, .int .i64 0]) 2 16 Try.underlying29 hi hz0 hz1 hz2 rfl (by decide) _ _ _ rfl (pw_own_below HX.out.row (below_alloc (Below.refl _ _) _)) ⟨wr.heap.size, 0, none⟩ 1 1 [.int .i64 x.f0, .int .i64 x.f1] rfl rfl (World.news_of_block (cs := #[.int .i64 x.f0, .int .i64 x.f1]) (t := 23) (fr := (0, 0)) (heap_alloc_new _ _)) (by simp [Value.oneCell']) (by unfold maxLen; omega) (by omega) (by have := HX.out.bl.size; simp; omega) ?_; intro v' w6 hown hgrow hnil)
            obtain ⟨hP, hpx⟩ := HX.out.push hgrow hown
            have hxc := HX.out.xc
            have hx1 := HX.out.x1
            have hln : ((L ++ [x]).length : Int) = (L.length : Int) + 1 := by simp
            clear x0 x1 hown hgrow hnil
            have hxl : x.f0 ≤ ((L ++ [x]).length : Int) := by omega
            have HLN := Lib.hid hln
            have HXL := Lib.hid hxl
            have HXC := Lib.hid hxc
            have d0 := pw_cell_below hP.bl hC0.out
            clear hln hxl hxc hx1
            have HP := Lib.hid hP
            have HPX := Lib.hid hpx
            have x0 : w6.cell? ⟨p, 0, none⟩ = some (.int .i64 x.f0) := by unfold World.cell?; rw [hpx]; rfl
            have x1 : w6.cell? ⟨p, 1, none⟩ = some (.int .i64 x.f1) := by unfold World.cell?; rw [hpx]; rfl
            clear hP hpx
            rcases hz3 : decide (z.tmod 3 = 0) with _ | _
            · have e3 : (z.tmod 3 == 0) = false := by simpa using hz3
              go_wp2
              go_roundw
              case rel => exact ⟨L ++ [x], ta', tb', by rw [List.length_append]; go_num, by simp; omega, HP⟩
              case measure => simp [intOf]; omega
            · have e3 : (z.tmod 3 == 0) = true := by simpa using hz3
              go_upto_region 25 with (go_at_call 21; with_reducible refine (HP.out.see p x HXC.out HXL.out HPX.out).mono ?_; rintro e w7 ⟨rfl, hP7, hpx7⟩)
              have HP7 := Lib.hid hP7
              have HPX7 := Lib.hid hpx7
              clear x0 x1 d0
              have x0 : w7.cell? ⟨p, 0, none⟩ = some (.int .i64 x.f0) := by unfold World.cell?; rw [hpx7]; rfl
              have x1 : w7.cell? ⟨p, 1, none⟩ = some (.int .i64 x.f1) := by unfold World.cell?; rw [hpx7]; rfl
              clear hP7 hpx7
              go_wp2_with (go_at_call 21; with_reducible refine (HP7.out.see2 p x HXC.out HXL.out HPX7.out).mono ?_; rintro e w8 ⟨rfl, hP8, hpx8⟩)
              go_roundw
              case rel => exact ⟨L ++ [x], _, _, by rw [List.length_append]; go_num, by simp; omega, Lib.hid hP8⟩
              case measure => simp [intOf]; omega
    · go_wp2_with (go_at_call 13; with_reducible refine (live_calls _).mono ?_; rintro e w6 ⟨rfl, hB6⟩)
      all_goals
        go_ret
        exact ⟨rfl, below_then HS.out.bl HS.out.bl.size hB6⟩
theorem apart_law (a b : Int) (A : Option Addr) (c : Nat) (l : List Int) (w : World) (hC : Kd.C (Kd.int .i64) w A l.length l) :
    Calls Try.prog 7 #[.int .i64 a, .int .i64 b, .slice A l.length c] w fun e w' => e = .returned (.bool true) ∧ Below w.heap.size w w' := by
  by_cases hab : a = b
  · subst hab; exact apart_same a A l.length c w
  · have h : (a == b) = false := by simpa using hab
    rcases chk_two 1 a with ha | ha
    · rcases chk_two 1 b with hb | hb
      · exact apart_ok a b h ha hb A c l w hC
      · exact apart_bad2 a b h ha hb A l.length c w
    · exact apart_bad1 a b h ha A l.length c w
end Go.Proofs.Ytoaaekgpabnneaa.Apt
