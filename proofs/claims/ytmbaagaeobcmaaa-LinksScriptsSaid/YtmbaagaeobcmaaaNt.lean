/- A network's state: the box, the map by link, a row of texts for each. -/
import Derived.Test.YtmbaagaeobcmaaaProg
import Derived.Test.YtmbaagaeobcmaaaWWords
import Derived.Test.YtmbaagaeobcmaaaWLast
import Derived.WideKeyArr
import Derived.WideKeyEntry
import Derived.Maps.Keyed
import Derived.Lib.Hide
import Derived.WalkKit
set_option linter.unusedVariables false
set_option linter.unusedSimpArgs false
namespace Go.Proofs.Ytmbaagaeobcmaaa.Nt
open Go.RowKit Go.MapKept Go.WideMaps Go.Proofs.YtmbaagaeobcmaaaW.PrintWords Go.Proofs.YtmbaagaeobcmaaaW.PrintLast
def KEY (f t : Int) : Value := .agg #[.int .i64 f, .int .i64 t]
theorem KEY_inj {f t f' t' : Int} (h : KEY f t = KEY f' t') : f = f' ∧ t = t' := by
  unfold KEY at h
  injection h with h
  have h0 : (#[Value.int .i64 f, .int .i64 t] : Array Value)[0]? = (#[Value.int .i64 f', .int .i64 t'] : Array Value)[0]? := by rw [h]
  have h1 : (#[Value.int .i64 f, .int .i64 t] : Array Value)[1]? = (#[Value.int .i64 f', .int .i64 t'] : Array Value)[1]? := by rw [h]
  simp at h0 h1
  exact ⟨h0, h1⟩
def Wf (n : Int) : Prop := (Lit.int .i64 n).wf = true
theorem law : KeyLaw Try.prog 53 := ArrKey.law (n := 2) (e := 3) ⟨Try.underlying53, by kernel_rfl, by kernel_rfl, by kernel_rfl⟩
theorem lits3 (d : Nat) (n : Int) (h : Wf n) : Try.prog.keyLits (d + 1) 3 [.int .i64 n] = some [.int .i64 n] := by
  unfold Wf at h
  unfold Program.keyLits
  simp [Try.underlying3, h]
theorem cells53 : Try.prog.cellsOf 53 = 2 := by kernel_rfl
theorem cells3 : Try.prog.cellsOf 3 = 1 := by kernel_rfl
theorem lits53 (d : Nat) (f t : Int) (hf : Wf f) (ht : Wf t) : Try.prog.keyLits (d + 2) 53 [.int .i64 f, .int .i64 t] = some [.int .i64 f, .int .i64 t] := by
  unfold Program.keyLits
  simp [Try.underlying53, cells53, cells3, List.range_succ, lits3 d f hf, lits3 d t ht]
theorem types53 : ∃ m, Try.prog.types.size = m + 1 := ⟨Try.prog.types.size - 1, by kernel_rfl⟩
theorem keyOf53 (f t : Int) (hf : Wf f) (ht : Wf t) : ∃ l, keyOf Try.prog 53 (KEY f t) = some l := by
  obtain ⟨m, hm⟩ := types53
  have h1 : Try.prog.keyType 53 = true := by kernel_rfl
  have h2 : (KEY f t).formed Try.prog 53 = true := by unfold KEY Value.formed; rw [Try.underlying53]; simp [cells53]
  have h3 : (KEY f t).cells.toList = [.int .i64 f, .int .i64 t] := rfl
  unfold keyOf
  rw [Try.underlying53]
  simp only [h1, h2, Bool.and_self, if_true, h3, hm]
  rw [lits53 m f t hf ht]
  exact ⟨_, rfl⟩
theorem zero46 (w : World) : (zeroValue 42).run Try.prog w = .ok (.slice none 0 0) w := by kernel_rfl
/-- What lies in the box g, the map bm, and the rows. -/
structure NetB (W : World) (base g bm : Nat) (es : Array MapEntry) (ck : Nat) (s r : Int) (B : Int → Int → List ByteArray) : Prop where
  g : W.heap[g]? = some (.cells #[.int .i64 s, .int .i64 r, .map (some bm)] 48 (0, 0))
  m : W.heap[bm]? = some (.map es ck)
  hbm : base ≤ bm
  st : Stamped es ck
  ks : ∀ x ∈ es.toList, ∃ f t, x.key = KEY f t ∧ Wf f ∧ Wf t
  row : ∀ x ∈ es.toList, ∀ f t, x.key = KEY f t → W.ownsRow base 9 1 x.val (B f t).length (pw_strs (B f t))
  no : ∀ f t, (∀ x ∈ es.toList, x.key ≠ KEY f t) → B f t = []
  apart : ∀ x ∈ es.toList, ∀ y ∈ es.toList, x.key ≠ y.key → x.val.ownBlock = none ∨ x.val.ownBlock ≠ y.val.ownBlock
  len : ∀ f t, ((B f t).length : Int) ≤ r
  str : ∀ f t, ∀ x ∈ B f t, x.size ≤ 5000
theorem NetB.keys {W : World} {base g bm : Nat} {es : Array MapEntry} {ck : Nat} {s r : Int} {B : Int → Int → List ByteArray} (h : NetB W base g bm es ck s r B) : ∀ x ∈ es.toList, ∃ l, keyOf Try.prog 53 x.key = some l := fun x hx => by
  obtain ⟨f, t, e, hf, ht⟩ := h.ks x hx
  rw [e]; exact keyOf53 f t hf ht
theorem NetB.look {W : World} {base g bm : Nat} {es : Array MapEntry} {ck : Nat} {s r : Int} {B : Int → Int → List ByteArray} (h : NetB W base g bm es ck s r B) (f t : Int) (hf : Wf f) (ht : Wf t) :
    ∃ v, (Instr.lookup 46 (.map (some bm)) (KEY f t) false).run Try.prog W = .ok v W ∧ W.ownsRow base 9 1 v (B f t).length (pw_strs (B f t)) := by
  obtain ⟨l, hl⟩ := keyOf53 f t hf ht
  rcases law.find W hl es.toList h.keys with ⟨h1, h2⟩ | ⟨j, e0, h1, h2, h3⟩
  · refine ⟨.slice none 0 0, by simp [Instr.lookup, run_underlying Try.underlying46, MapKept.run_getObj_map h.m, law.check W _ hl, h1, zero46, Result.andThen], ?_⟩
    rw [h.no f t h2]
    exact own_nil _ _ _ _
  · refine ⟨e0.val, by simp [Instr.lookup, run_underlying Try.underlying46, MapKept.run_getObj_map h.m, law.check W _ hl, h1, Result.andThen], ?_⟩
    exact h.row e0 (List.mem_of_getElem? h2) f t h3
/-- The box and the map are other blocks than the rows. -/
theorem NetB.row_ne {W : World} {base g bm : Nat} {es : Array MapEntry} {ck : Nat} {s r : Int} {B : Int → Int → List ByteArray} (h : NetB W base g bm es ck s r B) {v : Value} {n : Nat} {xs : List Value} (hv : W.ownsRow base 9 1 v n xs) : some g ≠ v.ownBlock ∧ some bm ≠ v.ownBlock := by
  refine ⟨own_ne hv h.g (by decide), fun e => ?_⟩
  obtain ⟨cells, hc⟩ := own_typed hv bm e.symm
  rw [h.m] at hc; cases hc
theorem NetB.g_ne {W : World} {base g bm : Nat} {es : Array MapEntry} {ck : Nat} {s r : Int} {B : Int → Int → List ByteArray} (h : NetB W base g bm es ck s r B) : g ≠ bm := fun e => by
  have := h.m; rw [← e, h.g] at this; cases this
/-- What leaves the box, the map and the rows alone keeps all. -/
theorem NetB.keep {W W1 : World} {base g bm : Nat} {es : Array MapEntry} {ck : Nat} {s r : Int} {B : Int → Int → List ByteArray} (h : NetB W base g bm es ck s r B) (hk : ∀ k, k < W.heap.size → base ≤ k → W1.heap[k]? = W.heap[k]?) (hg : base ≤ g) : NetB W1 base g bm es ck s r B :=
  ⟨(hk g (blk_lt h.g) hg).trans h.g, (hk bm (blk_lt h.m) h.hbm).trans h.m, h.hbm, h.st, h.ks, fun x hx f t e => by
    have ho := h.row x hx f t e
    refine ⟨ho.1, ?_⟩
    rcases ho.2 with q | ⟨g', cap, cur, q0, q1, q2, q3⟩
    · exact .inl q
    · exact .inr ⟨g', cap, cur, q0, q1, (hk g' (blk_lt q2) q1).trans q2, q3⟩, h.no, h.apart, h.len, h.str⟩
theorem NetB.below {W W1 : World} {base g bm : Nat} {es : Array MapEntry} {ck : Nat} {s r : Int} {B : Int → Int → List ByteArray} (h : NetB W base g bm es ck s r B) (hg : base ≤ g) (hb : Below W.heap.size W W1) : NetB W1 base g bm es ck s r B := h.keep (fun k hk _ => hb.block k hk) hg
/-- A network, for the caller. -/
structure Net (w0 W : World) (g : Nat) (s r : Int) (B : Int → Int → List ByteArray) : Prop where
  bl : Below w0.heap.size w0 W
  hg : w0.heap.size ≤ g
  s0 : 1 ≤ s
  s1 : s ≤ 16
  r0 : 1 ≤ r
  r1 : r ≤ 1000
  ex : ∃ bm es ck, NetB W w0.heap.size g bm es ck s r B
theorem Net.below {w0 W W1 : World} {g : Nat} {s r : Int} {B : Int → Int → List ByteArray} (h : Net w0 W g s r B) (hb : Below W.heap.size W W1) : Net w0 W1 g s r B := by
  obtain ⟨bm, es, ck, hN⟩ := h.ex
  exact ⟨below_then h.bl h.bl.size hb, h.hg, h.s0, h.s1, h.r0, h.r1, bm, es, ck, hN.below h.hg hb⟩
theorem Net.drew {w0 W : World} {g : Nat} {s r : Int} {B : Int → Int → List ByteArray} (h : Net w0 W g s r B) : Net w0 W.drew g s r B := h.below (below_drew (Below.refl _ _))
theorem Net.c0 {w0 W : World} {g : Nat} {s r : Int} {B : Int → Int → List ByteArray} (h : Net w0 W g s r B) : W.cell? ⟨g, 0, none⟩ = some (.int .i64 s) := by obtain ⟨_, _, _, hN⟩ := h.ex; rw [blk_cell hN.g]; rfl
theorem Net.c1 {w0 W : World} {g : Nat} {s r : Int} {B : Int → Int → List ByteArray} (h : Net w0 W g s r B) : W.cell? ⟨g, 1, none⟩ = some (.int .i64 r) := by obtain ⟨_, _, _, hN⟩ := h.ex; rw [blk_cell hN.g]; rfl
end Go.Proofs.Ytmbaagaeobcmaaa.Nt
