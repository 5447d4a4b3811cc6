/- Two networks beside one another: what one does leaves the other. -/
import Derived.Test.YtmbaagaeobcmaaaRn
set_option linter.unusedVariables false
set_option linter.unusedSimpArgs false
namespace Go.Proofs.Ytmbaagaeobcmaaa.Pr
open Go.RowKit Go.Proofs.Ytmbaagaeobcmaaa.NtK Go.Proofs.Ytmbaagaeobcmaaa.NcK Go.Proofs.Ytmbaagaeobcmaaa.CsK Go.Proofs.Ytmbaagaeobcmaaa.Rn Go.Proofs.YtmbaagaeobcmaaaW.PrintWords Go.Proofs.YtmbaagaeobcmaaaW.PrintLast
/-- The blocks of the program's network. -/
def footN (g bm : Nat) (es : Array MapEntry) (q : Nat) : Prop := q = g ∨ q = bm ∨ ∃ x ∈ es.toList, x.val.ownBlock = some q
/-- The blocks of the document's. -/
def footR (g n : Nat) (lv : Value) (rb : List Nat) (hd : Nat → Nat → Value) (q : Nat) : Prop := q = g ∨ lv.ownBlock = some q ∨ q ∈ rb ∨ ∃ i j, i < n ∧ j < n ∧ (hd i j).ownBlock = some q
open Classical in
/-- What lies in some blocks; beside them, others. -/
noncomputable def snap (W : World) (F : Nat → Prop) (E : Nat → Option Obj) : Nat → Option Obj := fun q => if F q then W.heap[q]? else E q
theorem snap_some {W : World} {F : Nat → Prop} {E : Nat → Option Obj} {q : Nat} {o : Obj} : snap W F E q = some o ↔ (F q ∧ W.heap[q]? = some o) ∨ (¬ F q ∧ E q = some o) := by
  unfold snap
  by_cases h : F q
  · rw [if_pos h]; exact ⟨fun e => .inl ⟨h, e⟩, fun e => e.elim (fun e => e.2) (fun e => absurd h e.1)⟩
  · rw [if_neg h]; exact ⟨fun e => .inr ⟨h, e⟩, fun e => e.elim (fun e => absurd e.1 h) (fun e => e.2)⟩
theorem snap_congr {W W' : World} {F : Nat → Prop} {E : Nat → Option Obj} (h : ∀ q, F q → W'.heap[q]? = W.heap[q]?) : snap W' F E = snap W F E := by
  funext q
  unfold snap
  by_cases hq : F q
  · rw [if_pos hq, if_pos hq, h q hq]
  · rw [if_neg hq, if_neg hq]
theorem blk_lt' {W : World} {q : Nat} {o : Obj} (h : W.heap[q]? = some o) : q < W.heap.size := (Array.getElem?_eq_some_iff.1 h).1
/-- Both networks. -/
structure Pair (E : Nat → Option Obj) (w W : World) (gP gR n : Nat) (r : Int) (B1 B2 : Bags) : Prop where
  bl : Below w.heap.size w W
  hg : w.heap.size ≤ gP
  s0 : 1 ≤ n
  s1 : n ≤ 16
  r0 : 1 ≤ r
  r1 : r ≤ 1000
  ex : ∃ bm es ck lv rb hd, NetB (snap W (footR gR n lv rb hd) E) W w.heap.size gP bm es ck n r B1 ∧ RN (snap W (footN gP bm es) E) W w.heap.size gR n n r B2 lv rb hd
theorem keepN {K K' : Nat → Option Obj} {W W' : World} {base g bm : Nat} {es : Array MapEntry} {ck : Nat} {s r : Int} {B : Bags} (h : NetB K W base g bm es ck s r B) (hk : ∀ q, footN g bm es q → W'.heap[q]? = W.heap[q]?) (hK : ∀ q o, K' q = some o → W'.heap[q]? = some o ∧ ¬ footN g bm es q) : NetB K' W' base g bm es ck s r B :=
  ⟨(hk g (.inl rfl)).trans h.g, (hk bm (.inr (.inl rfl))).trans h.m, h.hbm, h.st, h.ks, fun x hx f t e => own_keep (h.row x hx f t e) (fun q hq => hk q (.inr (.inr ⟨x, hx, hq⟩))), h.no, h.apart, h.len, h.str, fun q o hq => by
    obtain ⟨h1, h2⟩ := hK q o hq
    exact ⟨h1, fun e => h2 (.inl e), fun e => h2 (.inr (.inl e)), fun x hx e => h2 (.inr (.inr ⟨x, hx, e⟩))⟩⟩
theorem keepR {K K' : Nat → Option Obj} {W W' : World} {base g n : Nat} {r : Int} {B : Bags} {lv : Value} {rb : List Nat} {hd : Nat → Nat → Value} (h : RN K W base g n n r B lv rb hd) (hk : ∀ q, footR g n lv rb hd q → W'.heap[q]? = W.heap[q]?) (hK : ∀ q o, K' q = some o → W'.heap[q]? = some o ∧ ¬ footR g n lv rb hd q) : RN K' W' base g n n r B lv rb hd :=
  ⟨(hk g (.inl rfl)).trans h.g, h.hg, own_keep h.L (fun q hq => hk q (.inr (.inl hq))), h.ln, fun i b hb => ⟨(h.rw i b hb).1, (hk b (.inr (.inr (.inl (List.mem_of_getElem? hb))))).trans (h.rw i b hb).2⟩, h.nd, fun i j hi hj => own_keep (h.st i j hi hj) (fun q hq => hk q (.inr (.inr (.inr ⟨i, j, hi, hj, hq⟩)))), h.ap, h.len, h.str, fun q o hq => by
    obtain ⟨h1, h2⟩ := hK q o hq
    exact ⟨h1, fun e => h2 (.inl e), fun e => h2 (.inr (.inl e)), fun e => h2 (.inr (.inr (.inl e))), fun i j hi hj e => h2 (.inr (.inr (.inr ⟨i, j, hi, hj, e⟩)))⟩⟩
theorem heldR {K : Nat → Option Obj} {W : World} {base g n : Nat} {r : Int} {B : Bags} {lv : Value} {rb : List Nat} {hd : Nat → Nat → Value} (h : RN K W base g n n r B lv rb hd) (q : Nat) (hq : footR g n lv rb hd q) : ∃ o, W.heap[q]? = some o := by
  rcases hq with rfl | hq | hq | ⟨i, j, hi, hj, hq⟩
  · exact ⟨_, h.g⟩
  · obtain ⟨cs, hc⟩ := own_typed h.L q hq; exact ⟨_, hc⟩
  · obtain ⟨i, hi⟩ := List.getElem?_of_mem hq; exact ⟨_, (h.rw i q hi).2⟩
  · obtain ⟨cs, hc⟩ := own_typed (h.st i j hi hj) q hq; exact ⟨_, hc⟩
theorem heldN {K : Nat → Option Obj} {W : World} {base g bm : Nat} {es : Array MapEntry} {ck : Nat} {s r : Int} {B : Bags} (h : NetB K W base g bm es ck s r B) (q : Nat) (hq : footN g bm es q) : ∃ o, W.heap[q]? = some o := by
  rcases hq with rfl | rfl | ⟨x, hx, hq⟩
  · exact ⟨_, h.g⟩
  · exact ⟨_, h.m⟩
  · obtain ⟨f, t, e, _, _⟩ := h.ks x hx
    obtain ⟨cs, hc⟩ := own_typed (h.row x hx f t e) q hq; exact ⟨_, hc⟩
section
variable {E : Nat → Option Obj} {w W : World} {gP gR n : Nat} {r : Int} {B1 B2 : Bags}
theorem Pair.net (h : Pair E w W gP gR n r B1 B2) : ∃ K, Net K w W gP n r B1 := by
  obtain ⟨bm, es, ck, lv, rb, hd, hN, hR⟩ := h.ex
  have := h.s0; have := h.s1
  exact ⟨_, h.bl, h.hg, by omega, by omega, h.r0, h.r1, bm, es, ck, hN⟩
/-- What is beside both is kept, and is none of theirs. -/
theorem Pair.awayN {bm ck : Nat} {es : Array MapEntry} {lv : Value} {rb : List Nat} {hd : Nat → Nat → Value} (hN : NetB (snap W (footR gR n lv rb hd) E) W w.heap.size gP bm es ck n r B1) (hR : RN (snap W (footN gP bm es) E) W w.heap.size gR n n r B2 lv rb hd) (q : Nat) (o : Obj) (hq : E q = some o) : W.heap[q]? = some o ∧ ¬ footN gP bm es q ∧ ¬ footR gR n lv rb hd q := by
  have hf : ¬ footR gR n lv rb hd q := fun hf => by
    by_cases hn : footN gP bm es q
    · obtain ⟨o2, ho2⟩ := heldN hN q hn
      obtain ⟨_, k2, k3, k4, k5⟩ := hR.fr q o2 (snap_some.2 (.inl ⟨hn, ho2⟩))
      rcases hf with e | e | e | ⟨i, j, hi, hj, e⟩
      · exact k2 e
      · exact k3 e
      · exact k4 e
      · exact k5 i j hi hj e
    · obtain ⟨_, k2, k3, k4, k5⟩ := hR.fr q o (snap_some.2 (.inr ⟨hn, hq⟩))
      rcases hf with e | e | e | ⟨i, j, hi, hj, e⟩
      · exact k2 e
      · exact k3 e
      · exact k4 e
      · exact k5 i j hi hj e
  obtain ⟨k1, k2, k3, k4⟩ := hN.fr q o (snap_some.2 (.inr ⟨hf, hq⟩))
  refine ⟨k1, ?_, hf⟩
  rintro (e | e | ⟨x, hx, e⟩)
  · exact k2 e
  · exact k3 e
  · exact k4 x hx e
theorem Pair.ext (h : Pair E w W gP gR n r B1 B2) (q : Nat) (o : Obj) (hq : E q = some o) : W.heap[q]? = some o := by
  obtain ⟨bm, es, ck, lv, rb, hd, hN, hR⟩ := h.ex
  exact (Pair.awayN hN hR q o hq).1
/-- The program's network does something. -/
theorem Pair.p_op (h : Pair E w W gP gR n r B1 B2) {f : Nat} {args : Array Value} {X : Ending} {B : Bags} (hc : ∀ K, Net K w W gP n r B1 → Calls Try.prog f args W fun e w' => e = X ∧ Net K w w' gP n r B) :
    Calls Try.prog f args W fun e w' => e = X ∧ Pair E w w' gP gR n r B B2 := by
  obtain ⟨bm, es, ck, lv, rb, hd, hN, hR⟩ := h.ex
  have h0 := h.s0; have h1 := h.s1
  refine (hc _ ⟨h.bl, h.hg, by omega, by omega, h.r0, h.r1, bm, es, ck, hN⟩).mono ?_
  rintro e w' ⟨rfl, hN'⟩
  obtain ⟨bm', es', ck', hM⟩ := hN'.ex
  have hkeep : ∀ q, footR gR n lv rb hd q → w'.heap[q]? = W.heap[q]? ∧ ¬ footN gP bm' es' q := fun q hq => by
    obtain ⟨o, ho⟩ := heldR hR q hq
    obtain ⟨k1, k2, k3, k4⟩ := hM.fr q o (snap_some.2 (.inl ⟨hq, ho⟩))
    refine ⟨k1.trans ho.symm, ?_⟩
    rintro (e | e | ⟨x, hx, e⟩)
    · exact k2 e
    · exact k3 e
    · exact k4 x hx e
  refine ⟨rfl, hN'.bl, h.hg, h0, h1, h.r0, h.r1, bm', es', ck', lv, rb, hd, ?_, keepR hR (fun q hq => (hkeep q hq).1) (fun q o hq => ?_)⟩
  rotate_left
  · rcases snap_some.1 hq with ⟨e1, e2⟩ | ⟨_, e2⟩
    · exact ⟨e2, fun hf => (hkeep q hf).2 e1⟩
    · have hw := Pair.awayN hN hR q o e2
      exact ⟨(hM.fr q o (snap_some.2 (.inr ⟨hw.2.2, e2⟩))).1, hw.2.2⟩
  rw [snap_congr (fun q hq => (hkeep q hq).1)]
  exact hM
/-- The document's network does something. -/
theorem Pair.r_op (h : Pair E w W gP gR n r B1 B2) {f : Nat} {args : Array Value} {X : Ending} {B : Bags} (hc : ∀ K, RNet K w W gR n r B2 → Calls Try.prog f args W fun e w' => e = X ∧ RNet K w w' gR n r B) :
    Calls Try.prog f args W fun e w' => e = X ∧ Pair E w w' gP gR n r B1 B := by
  obtain ⟨bm, es, ck, lv, rb, hd, hN, hR⟩ := h.ex
  have h0 := h.s0; have h1 := h.s1
  refine (hc _ ⟨h.bl, h0, h1, h.r0, h.r1, lv, rb, hd, hR⟩).mono ?_
  rintro e w' ⟨rfl, hR'⟩
  obtain ⟨lv', rb', hd', hM⟩ := hR'.ex
  have hkeep : ∀ q, footN gP bm es q → w'.heap[q]? = W.heap[q]? ∧ ¬ footR gR n lv' rb' hd' q := fun q hq => by
    obtain ⟨o, ho⟩ := heldN hN q hq
    obtain ⟨k1, k2, k3, k4, k5⟩ := hM.fr q o (snap_some.2 (.inl ⟨hq, ho⟩))
    refine ⟨k1.trans ho.symm, ?_⟩
    rintro (e | e | e | ⟨i, j, hi, hj, e⟩)
    · exact k2 e
    · exact k3 e
    · exact k4 e
    · exact k5 i j hi hj e
  refine ⟨rfl, hR'.bl, h.hg, h0, h1, h.r0, h.r1, bm, es, ck, lv', rb', hd', keepN hN (fun q hq => (hkeep q hq).1) (fun q o hq => ?_), ?_⟩
  · rcases snap_some.1 hq with ⟨e1, e2⟩ | ⟨_, e2⟩
    · exact ⟨e2, fun hf => (hkeep q hf).2 e1⟩
    · have hw := Pair.awayN hN hR q o e2
      exact ⟨(hM.fr q o (snap_some.2 (.inr ⟨hw.2.1, e2⟩))).1, hw.2.1⟩
  rw [snap_congr (fun q hq => (hkeep q hq).1)]
  exact hM
theorem Pair.below {W1 : World} (h : Pair E w W gP gR n r B1 B2) (hb : Below W.heap.size W W1) : Pair E w W1 gP gR n r B1 B2 := by
  obtain ⟨bm, es, ck, lv, rb, hd, hN, hR⟩ := h.ex
  have kN : ∀ q, footN gP bm es q → W1.heap[q]? = W.heap[q]? := fun q hq => by obtain ⟨o, ho⟩ := heldN hN q hq; exact hb.block q (Array.getElem?_eq_some_iff.1 ho).1
  have kR : ∀ q, footR gR n lv rb hd q → W1.heap[q]? = W.heap[q]? := fun q hq => by obtain ⟨o, ho⟩ := heldR hR q hq; exact hb.block q (Array.getElem?_eq_some_iff.1 ho).1
  refine ⟨below_then h.bl h.bl.size hb, h.hg, h.s0, h.s1, h.r0, h.r1, bm, es, ck, lv, rb, hd, ?_, ?_⟩
  · rw [snap_congr kR]
    exact keepN hN kN (fun q o hq => ⟨(hb.block q (blk_lt' (hN.fr q o hq).1)).trans (hN.fr q o hq).1, fun hf => by
      obtain ⟨_, k2, k3, k4⟩ := hN.fr q o hq
      rcases hf with e | e | ⟨x, hx, e⟩
      · exact k2 e
      · exact k3 e
      · exact k4 x hx e⟩)
  · rw [snap_congr kN]
    exact keepR hR kR (fun q o hq => ⟨(hb.block q (blk_lt' (hR.fr q o hq).1)).trans (hR.fr q o hq).1, fun hf => by
      obtain ⟨_, k2, k3, k4, k5⟩ := hR.fr q o hq
      rcases hf with e | e | e | ⟨i, j, hi, hj, e⟩
      · exact k2 e
      · exact k3 e
      · exact k4 e
      · exact k5 i j hi hj e⟩)
/-- A block of its own beside both. -/
def one (b : Nat) (o : Obj) : Nat → Option Obj := fun q => if q = b then some o else none
theorem Pair.box (h : Pair E w W gP gR n r B1 B2) {W1 : World} (hb : Below W.heap.size W W1) (b : Nat) (o : Obj) (hbs : W.heap.size ≤ b) (ho : W1.heap[b]? = some o) : Pair (one b o) w W1 gP gR n r B1 B2 := by
  obtain ⟨bm, es, ck, lv, rb, hd, hN, hR⟩ := h.ex
  have lN : ∀ q, footN gP bm es q → q < W.heap.size := fun q hq => by obtain ⟨o, ho⟩ := heldN hN q hq; exact blk_lt' ho
  have lR : ∀ q, footR gR n lv rb hd q → q < W.heap.size := fun q hq => by obtain ⟨o, ho⟩ := heldR hR q hq; exact blk_lt' ho
  have one_some : ∀ q o', one b o q = some o' → q = b ∧ o' = o := fun q o' e => by
    unfold one at e
    by_cases hq : q = b
    · rw [if_pos hq] at e; exact ⟨hq, (Option.some.inj e).symm⟩
    · rw [if_neg hq] at e; cases e
  refine ⟨below_then h.bl h.bl.size hb, h.hg, h.s0, h.s1, h.r0, h.r1, bm, es, ck, lv, rb, hd, keepN hN (fun q hq => hb.block q (lN q hq)) (fun q o' hq => ?_), keepR hR (fun q hq => hb.block q (lR q hq)) (fun q o' hq => ?_)⟩
  · rcases snap_some.1 hq with ⟨e1, e2⟩ | ⟨_, e2⟩
    · refine ⟨e2, fun hf => ?_⟩
      obtain ⟨o2, ho2⟩ := heldR hR q e1
      obtain ⟨_, k2, k3, k4⟩ := hN.fr q o2 (snap_some.2 (.inl ⟨e1, ho2⟩))
      rcases hf with e | e | ⟨x, hx, e⟩
      · exact k2 e
      · exact k3 e
      · exact k4 x hx e
    · obtain ⟨rfl, rfl⟩ := one_some q o' e2
      exact ⟨ho, fun hf => by have := lN q hf; omega⟩
  · rcases snap_some.1 hq with ⟨e1, e2⟩ | ⟨_, e2⟩
    · refine ⟨e2, fun hf => ?_⟩
      obtain ⟨o2, ho2⟩ := heldN hN q e1
      obtain ⟨_, k2, k3, k4, k5⟩ := hR.fr q o2 (snap_some.2 (.inl ⟨e1, ho2⟩))
      rcases hf with e | e | e | ⟨i, j, hi, hj, e⟩
      · exact k2 e
      · exact k3 e
      · exact k4 e
      · exact k5 i j hi hj e
    · obtain ⟨rfl, rfl⟩ := one_some q o' e2
      exact ⟨ho, fun hf => by have := lR q hf; omega⟩
end
end Go.Proofs.Ytmbaagaeobcmaaa.Pr
