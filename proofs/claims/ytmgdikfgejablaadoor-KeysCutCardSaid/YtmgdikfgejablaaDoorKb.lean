/- Two readers at once, beside them a row of keys that grows. -/
import Derived.Test.YtmgdikfgejablaaDoorKp
set_option linter.unusedVariables false
set_option linter.unusedSimpArgs false
namespace Go.Proofs.YtmgdikfgejablaaDoor.Kb
open Go.RowKit Go.Proofs.YtmgdikfgejablaaDoor.Ky Go.Proofs.YtmgdikfgejablaaDoor.Kd Go.Proofs.YtmgdikfgejablaaDoor.Ke Go.Proofs.YtmgdikfgejablaaDoor.Kn Go.Proofs.YtmgdikfgejablaaDoor.Ko Go.Proofs.YtmgdikfgejablaaDoor.Kl Go.Proofs.YtmgdikfgejablaaDoor.Kv Go.Proofs.YtmgdikfgejablaaDoor.P Go.Proofs.YtmgdikfgejablaaDoorW.PrintWords Go.Proofs.YtmgdikfgejablaaDoorW.PrintLast
section
variable {P : Program} {ops : Array Oper} {rest : List Oper} {o : Oper} {a : Act} {Q : Exit → Act → World → Prop}
/-- append(v, x...): both are rows of their own, of cells of any size. -/
theorem append_rows {w0 W : World} (base b2 : Nat) (hgd : o.guard = none) (s x : Operand) (t e : TypeId) (z : Value) (size bytes : Nat)
    (ho : o.op = .call { callee := .builtin .append, args := #[s, x], argTypes := #[t, t] })
    (ht : P.underlying t = some (.slice e)) (hinfo : (P.info? e).map (fun i => (i.zero, i.size, i.bytes)) = some (some z, size, bytes)) (hz : z.cells.size = size) (hs0 : 0 < size) (hb0 : 0 < bytes)
    (v : Value) (n : Nat) (xs ys : List Value) (A : Option Addr) (m c : Nat) (hs : a.eval s = v) (hx : a.eval x = .slice A m c) (h1 : ∀ u ∈ ys, u.oneCell' = true)
    (HO : W.ownsRow base e size v n xs) (HX : W.ownsRow b2 e size (.slice A m c) m ys) (HB : Below base w0 W) (hbase : base ≤ W.heap.size) (hl : (n + m) * bytes ≤ 140737488355328)
    (h : ∀ v1 w1, w1.ownsRow base e size v1 (n + m) (xs ++ ys) → Below base w0 w1 → W.grownBy w1 v.ownBlock → (v1.ownBlock = v.ownBlock ∨ ∃ b, v1.ownBlock = some b ∧ W.heap.size ≤ b) → wpList P ops Q rest (a.put o.dst v1) w1) :
    wpList P ops Q (o :: rest) a W := by
  obtain ⟨i0, hi, hzz⟩ := Option.map_eq_some_iff.1 hinfo
  simp only [Prod.mk.injEq] at hzz
  obtain ⟨hz0, hz1, hz2⟩ := hzz
  have hlen : n + m ≤ 140737488355328 := Nat.le_trans (Nat.le_mul_of_pos_right _ hb0) hl
  have hrun : ∃ v1 w1, (Builtin.append_ #[t, t] o.type #[v, .slice A m c]).run P W = .ok v1 w1 ∧ w1.ownsRow base e size v1 (n + m) (xs ++ ys) ∧ W.grownBy w1 v.ownBlock ∧ (v1.ownBlock = v.ownBlock ∨ v1.ownBlock = some W.heap.size) := by
    rcases HX.2 with ⟨e1, h0⟩ | ⟨g, cap, cur, e1, _, hg, hn, hcm, hcs, htk⟩
    · subst h0
      injection e1 with e2 _ e3
      subst e2 e3
      obtain rfl : ys = [] := List.eq_nil_of_length_eq_zero (by have := HX.1; omega)
      refine ⟨v, W, ?_, by simpa using HO, World.grownBy.refl W _, .inl rfl⟩
      rcases HO.2 with ⟨rfl, hn⟩ | ⟨g, cap, cur, rfl, _, _, hnc, _⟩
      · simp [Builtin.append_, run_underlying ht, sizeOf, typeInfo, hi, Builtin.lenOf, Builtin.firstCells]
      · simp [Builtin.append_, run_underlying ht, sizeOf, typeInfo, hi, Builtin.lenOf, Builtin.firstCells, hnc, storeCells]
    · injection e1 with e2 _ e3
      subst e2 e3
      obtain ⟨v1, w1, hr, h2, h3, _, h5⟩ := run_append_own_at (P := P) W base t o.type e i0 z size bytes ht hi hz0 hz1 hz2 hz hs0 v n xs HO ⟨g, 0, none⟩ m c ys HX.1 (fun j u hu => by
        have ej : (⟨g, 0, none⟩ : Addr).add j = ⟨g, 0 + j, none⟩ := by simp [Addr.add]; omega
        rw [ej, blk_cell hg, Nat.zero_add]
        rw [← htk, List.getElem?_take] at hu
        split at hu
        · simpa using hu
        · cases hu) h1 (by simp only [maxLen]; omega) hl hbase
      exact ⟨v1, w1, hr, h2, h3, h5⟩
  obtain ⟨v1, w1, hr, hown, hg, hat⟩ := hrun
  refine wpList_plain hgd fun K hK => ?_
  unfold Oper.wp execOp
  simp only [ho, resolve, invoke, builtin, Sem.run_bind, Sem.run_pure, Result.andThen_ok, List.map_toArray, List.map_cons, List.map_nil, hs, hx, hr]
  refine hK _ _ (h v1 w1 hown (HB.grown hg hbase (own_base HO)) hg ?_)
  rcases hat with hat | hat
  · exact .inl hat
  · exact .inr ⟨_, hat, Nat.le_refl _⟩
end
theorem flat_cells (l : List Key) : ∀ u ∈ flat l, u.oneCell' = true := fun u hu => by
  obtain ⟨k, _, hu⟩ := List.mem_flatMap.1 hu
  simp only [List.mem_cons, List.mem_nil_iff, or_false] at hu
  rcases hu with rfl | rfl <;> rfl
theorem flat_app (l m : List Key) : flat (l ++ m) = flat l ++ flat m := by simp [flat]
/-- A new reader: its box. -/
theorem New_box (w : World) : Calls Tryd.prog 10 #[] w fun e w' => e = .returned (.pointer (some ⟨w.heap.size, 0, none⟩)) ∧ Below w.heap.size w w' ∧ w'.heap[w.heap.size]? = some (.cells #[fnV 20 w.heap.size, .slice none 0 0, .slice none 0 0] 49 (0, 0)) := by
  go_enter Tryd.func10, Tryd.ntmps10
  go_wp2
  go_ret
  exact ⟨rfl, below_alloc (Below.refl _ _) _, heap_alloc_new _ _⟩
theorem Kr.fresh {w w' : World} {g : Nat} (K : Nat → Option Obj) (hb : Below w.heap.size w w') (hg : w.heap.size ≤ g) (h : w'.heap[g]? = some (.cells #[fnV 20 g, .slice none 0 0, .slice none 0 0] 49 (0, 0))) (hK : ∀ j o, K j = some o → w'.heap[j]? = some o ∧ j ≠ g) : Kr K w w' g (fnV 20 g) [] [] :=
  ⟨hb, _, _, h, hg, own_nil _ _ _ _, own_nil _ _ _ _, fun j o hj => ⟨(hK j o hj).1, (hK j o hj).2, by simp [Value.ownBlock], by simp [Value.ownBlock]⟩⟩
/-- What a reader stands on, and a row. -/
theorem Kr.saved {K : Nat → Option Obj} {w0 W : World} {g : Nat} {fn : Value} {w : List Nat} {told : List Key} {v : Value} {b n sz : Nat} {e : TypeId} {xs : List Value} (h : Kr K w0 W g fn w told) (hv : W.ownsRow b e sz v n xs) :
    ∃ KA : Nat → Option Obj, (∀ j o, KA j = some o → W.heap[j]? = some o) ∧ (∀ q, (∀ j o, K j = some o → True) → (∃ o, K q = some o) → v.ownBlock ≠ some q → KA q = none) ∧
      ∀ W2, Below w0.heap.size w0 W2 → (∀ j o, KA j = some o → W2.heap[j]? = some o) → Kr (fun _ => none) w0 W2 g fn w told ∧ W2.ownsRow b e sz v n xs := by
  obtain ⟨bv, tv, hR⟩ := h.ex
  refine ⟨fun j => if j = g ∨ bv.ownBlock = some j ∨ tv.ownBlock = some j ∨ v.ownBlock = some j then W.heap[j]? else none, fun j o hj => ?_, fun q _ hq hqv => ?_, fun W2 hb hk => ?_⟩
  · simp only at hj
    split at hj
    · exact hj
    · cases hj
  · obtain ⟨o, hq⟩ := hq
    obtain ⟨_, h1, h2, h3⟩ := hR.fr q o hq
    simp only
    rw [if_neg]
    rintro (e | e | e | e)
    · exact h1 e
    · exact h2 e
    · exact h3 e
    · exact hqv e
  · have k : ∀ j o, (j = g ∨ bv.ownBlock = some j ∨ tv.ownBlock = some j ∨ v.ownBlock = some j) → W.heap[j]? = some o → W2.heap[j]? = some o := fun j o hj ho => hk j o (by simp only; rw [if_pos hj]; exact ho)
    exact ⟨⟨hb, bv, tv, k g _ (.inl rfl) hR.hb, hR.hg, row_kept hR.br (fun j o h1 h2 => k j o (.inr (.inl h1)) h2), row_kept hR.tr (fun j o h1 h2 => k j o (.inr (.inr (.inl h1))) h2), fun j o hj => by cases hj⟩, row_kept hv (fun j o h1 h2 => k j o (.inr (.inr (.inr h1))) h2)⟩
/-- A reader, beside it a row that grows; KA is kept. -/
structure Cs (KA : Nat → Option Obj) (w wr : World) (g : Nat) (fn : Value) (wb : List Nat) (ks : List Key) (v : Value) : Prop where
  b : Kr (Kt KA v wr) w wr g fn wb []
  row : wr.ownsRow w.heap.size 50 2 v ks.length (flat ks)
  old : ∀ j o, KA j = some o → wr.heap[j]? = some o ∧ v.ownBlock ≠ some j
theorem Kt_nil (K : Nat → Option Obj) (W : World) : Kt K (.slice none 0 0) W = K := by funext j; unfold Kt; rw [if_neg (by simp [Value.ownBlock])]
theorem Cs.start {KA : Nat → Option Obj} {w wr : World} {g : Nat} {fn : Value} {wb : List Nat} (h : Kr KA w wr g fn wb []) : Cs KA w wr g fn wb [] (.slice none 0 0) :=
  ⟨by rw [Kt_nil]; exact h, own_nil _ _ _ _, fun j o hj => ⟨(h.fr j o hj).1, by simp [Value.ownBlock]⟩⟩
/-- The reader is fed; the row stays. -/
theorem Cs.fed {KA : Nat → Option Obj} {w wr w2 : World} {g : Nat} {fn fn2 : Value} {wb wb2 : List Nat} {ks : List Key} {v v2 : Value} (h : Cs KA w wr g fn wb ks v)
    (hK : Kr (Kt (Kt KA v wr) v2 w2) w w2 g fn2 wb2 []) (hf : ∀ j o, Kt KA v wr j = some o → w2.heap[j]? = some o ∧ v2.ownBlock ≠ some j) : Cs KA w w2 g fn2 wb2 ks v := by
  have hrow := row_kept h.row (fun j o h1 h2 => (hf j o (Kt_own h1 h2)).1)
  refine ⟨Kr.mono hK (fun j o hj => ?_), hrow, fun j o hj => ?_⟩
  · unfold Kt at hj
    by_cases hc : v.ownBlock = some j
    · rw [if_pos hc] at hj
      obtain ⟨cs, hcs⟩ := own_typed h.row j hc
      have := hf j _ (Kt_own hc hcs)
      rw [this.1] at hj
      rw [← Option.some.inj hj]
      exact Kt_old this.2 (Kt_own hc hcs)
    · rw [if_neg hc] at hj
      have hq := Kt_old (W := wr) hc hj
      exact Kt_old (hf j o hq).2 hq
  · obtain ⟨h1, h2⟩ := h.old j o hj
    exact ⟨(hf j o (Kt_old h2 hj)).1, h2⟩
/-- The row grows. -/
theorem Cs.push {KA : Nat → Option Obj} {w wr w2 : World} {g : Nat} {fn : Value} {wb : List Nat} {ks ks2 : List Key} {v v1 : Value} (h : Cs KA w wr g fn wb ks v) (hown : w2.ownsRow w.heap.size 50 2 v1 ks2.length (flat ks2))
    (hg : wr.grownBy w2 v.ownBlock) (hat : v1.ownBlock = v.ownBlock ∨ ∃ b, v1.ownBlock = some b ∧ wr.heap.size ≤ b) : Cs KA w w2 g fn wb ks2 v1 := by
  obtain ⟨bv, tv, hR⟩ := h.b.ex
  have hv : ∀ j, v.ownBlock = some j → j ≠ g ∧ bv.ownBlock ≠ some j ∧ tv.ownBlock ≠ some j := fun j hj => by
    obtain ⟨cs, hc⟩ := own_typed h.row j hj
    exact (hR.fr j _ (Kt_own hj hc)).2
  have keep : ∀ j o, wr.heap[j]? = some o → v.ownBlock ≠ some j → w2.heap[j]? = some o := fun j o ho hn => (hg.block j (blk_lt ho) (fun e => hn e.symm)).trans ho
  have hv1 : ∀ j o, wr.heap[j]? = some o → v.ownBlock ≠ some j → v1.ownBlock ≠ some j := fun j o ho hn => by
    rcases hat with hat | ⟨b, hb, hlt⟩
    · rw [hat]; exact hn
    · rw [hb]
      intro e
      have := blk_lt ho
      injection e with e
      omega
  have hgn : v.ownBlock ≠ some g := fun e => (hv g e).1 rfl
  have hbl : Below w.heap.size w w2 := pw_below_grown h.b.bl v.ownBlock h.b.bl.size hg (fun k hk => own_base h.row k hk)
  have hbr : w2.ownsRow w.heap.size 5 1 bv wb.length (bts wb) := row_kept hR.br (fun j o h1 h2 => keep j o h2 (fun e => (hv j e).2.1 h1))
  have htr : w2.ownsRow w.heap.size 50 2 tv ([] : List Key).length (flat []) := row_kept hR.tr (fun j o h1 h2 => keep j o h2 (fun e => (hv j e).2.2 h1))
  refine ⟨⟨hbl, bv, tv, keep g _ hR.hb hgn, hR.hg, hbr, htr, fun j o hj => ?_⟩, hown, fun j o hj => ?_⟩
  · unfold Kt at hj
    by_cases hc : v1.ownBlock = some j
    · rw [if_pos hc] at hj
      refine ⟨hj, fun e => ?_, fun e => ?_, fun e => ?_⟩
      · subst e; exact hv1 _ _ hR.hb hgn hc
      · obtain ⟨cs, hcs⟩ := own_typed hR.br j e
        exact hv1 j _ hcs (fun e2 => (hv j e2).2.1 e) hc
      · obtain ⟨cs, hcs⟩ := own_typed hR.tr j e
        exact hv1 j _ hcs (fun e2 => (hv j e2).2.2 e) hc
    · rw [if_neg hc] at hj
      obtain ⟨h1, h2⟩ := h.old j o hj
      exact ⟨keep j o h1 h2, (hR.fr j o (Kt_old h2 hj)).2⟩
  · obtain ⟨h1, h2⟩ := h.old j o hj
    exact ⟨keep j o h1 h2, hv1 j o h1 h2⟩
end Go.Proofs.YtmgdikfgejablaaDoor.Kb
