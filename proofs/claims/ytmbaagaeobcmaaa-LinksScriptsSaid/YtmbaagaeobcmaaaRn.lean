/- The document's network in memory: a box, a row of rows of rows of texts. -/
import Derived.Test.YtmbaagaeobcmaaaCsK
import Derived.Deep.RegionLaw
set_option linter.unusedVariables false
set_option linter.unusedSimpArgs false
namespace Go.Proofs.Ytmbaagaeobcmaaa.Rn
open Go.RowKit Go.Proofs.Ytmbaagaeobcmaaa.NtK Go.Proofs.Ytmbaagaeobcmaaa.NcK Go.Proofs.YtmbaagaeobcmaaaW.PrintWords Go.Proofs.YtmbaagaeobcmaaaW.PrintLast
def hdr (n : Nat) (h : Nat → Value) : Array Value := ((List.range n).map h).toArray
theorem hdr_get (n : Nat) (h : Nat → Value) (j : Nat) (hj : j < n) : (hdr n h)[j]? = some (h j) := by
  unfold hdr
  rw [List.getElem?_toArray, List.getElem?_map, List.getElem?_range hj]; rfl
theorem hdr_size (n : Nat) (h : Nat → Value) : (hdr n h).size = n := by unfold hdr; simp
/-- One header is another. -/
def updH (hd : Nat → Nat → Value) (i j : Nat) (v : Value) : Nat → Nat → Value := fun a c => if a = i ∧ c = j then v else hd a c
theorem updH_same (hd : Nat → Nat → Value) (i j : Nat) (v : Value) : updH hd i j v i j = v := by unfold updH; rw [if_pos ⟨rfl, rfl⟩]
theorem updH_other {hd : Nat → Nat → Value} {i j a c : Nat} {v : Value} (h : ¬(a = i ∧ c = j)) : updH hd i j v a c = hd a c := by unfold updH; rw [if_neg h]
theorem hdr_put (n : Nat) (hd : Nat → Nat → Value) (i j : Nat) (v : Value) (hj : j < n) : (hdr n (hd i)).setIfInBounds j v = hdr n (updH hd i j v i) := by
  apply Array.ext_getElem?
  intro k
  rw [Array.getElem?_setIfInBounds]
  by_cases e : j = k
  · subst e
    rw [if_pos rfl, hdr_size, if_pos hj, hdr_get n _ j hj, updH_same]
  · rw [if_neg e]
    by_cases hk : k < n
    · rw [hdr_get n _ k hk, hdr_get n _ k hk, updH_other (fun h => e h.2.symm)]
    · rw [Array.getElem?_eq_none (by rw [hdr_size]; omega), Array.getElem?_eq_none (by rw [hdr_size]; omega)]
/-- What lies in the box, m rows of n headers, and the rows of texts. -/
structure RN (Kp : Nat → Option Obj) (W : World) (base gg m n : Nat) (r : Int) (B : Int → Int → List ByteArray) (lv : Value) (rb : List Nat) (hd : Nat → Nat → Value) : Prop where
  g : W.heap[gg]? = some (.cells #[.int .i64 (n : Int), .int .i64 r, lv] 51 (0, 0))
  hg : base ≤ gg
  L : W.ownsRow base 52 1 lv m (rb.map fun b : Nat => .slice (some ⟨b, 0, none⟩) n n)
  ln : rb.length = m
  rw : ∀ i b, rb[i]? = some b → base ≤ b ∧ W.heap[b]? = some (.cells (hdr n (hd i)) 42 (0, 0))
  nd : rb.Nodup
  st : ∀ i j, i < m → j < n → W.ownsRow base 9 1 (hd i j) (B (i : Nat) (j : Nat)).length (pw_strs (B (i : Nat) (j : Nat)))
  ap : ∀ i j a c, i < m → j < n → a < m → c < n → ¬(i = a ∧ j = c) → (hd i j).ownBlock = none ∨ (hd i j).ownBlock ≠ (hd a c).ownBlock
  len : ∀ f t, ((B f t).length : Int) ≤ r
  str : ∀ f t, ∀ x ∈ B f t, x.size ≤ 5000
  fr : ∀ q o, Kp q = some o → W.heap[q]? = some o ∧ q ≠ gg ∧ lv.ownBlock ≠ some q ∧ q ∉ rb ∧ ∀ i j, i < m → j < n → (hd i j).ownBlock ≠ some q
section
variable {Kp : Nat → Option Obj} {W W1 : World} {base gg m n : Nat} {r : Int} {B : Int → Int → List ByteArray} {lv : Value} {rb : List Nat} {hd : Nat → Nat → Value}
theorem blk_ne {w : World} {j b : Nat} {t t' : TypeId} {cs cs' : Array Value} (h : w.heap[j]? = some (.cells cs t (0, 0))) (h' : w.heap[b]? = some (.cells cs' t' (0, 0))) (ht : t ≠ t') : j ≠ b := fun e => by
  rw [e, h'] at h; have h2 := Option.some.inj h; injection h2 with _ h3; exact ht h3.symm
theorem own_keep {W W1 : World} {base n size : Nat} {e : TypeId} {v : Value} {xs : List Value} (h : W.ownsRow base e size v n xs) (hk : ∀ j, v.ownBlock = some j → W1.heap[j]? = W.heap[j]?) : W1.ownsRow base e size v n xs := by
  refine ⟨h.1, ?_⟩
  rcases h.2 with q | ⟨g', cap, cur, q0, q1, q2, q3⟩
  · exact .inl q
  · exact .inr ⟨g', cap, cur, q0, q1, (hk g' (by rw [q0]; rfl)).trans q2, q3⟩
theorem RN.keep (h : RN Kp W base gg m n r B lv rb hd) (hk : ∀ q, q < W.heap.size → W1.heap[q]? = W.heap[q]?) : RN Kp W1 base gg m n r B lv rb hd :=
  ⟨(hk gg (blk_lt h.g)).trans h.g, h.hg, own_keep h.L (fun j hj => hk j (own_lt h.L j hj)), h.ln, fun i b hb => ⟨(h.rw i b hb).1, (hk b (blk_lt (h.rw i b hb).2)).trans (h.rw i b hb).2⟩, h.nd,
    fun i j hi hj => own_keep (h.st i j hi hj) (fun q hq => hk q (own_lt (h.st i j hi hj) q hq)), h.ap, h.len, h.str, fun q o hq => ⟨(hk q (blk_lt (h.fr q o hq).1)).trans (h.fr q o hq).1, (h.fr q o hq).2⟩⟩
theorem RN.c (h : RN Kp W base gg m n r B lv rb hd) : W.cell? ⟨gg, 0, none⟩ = some (.int .i64 (n : Int)) ∧ W.cell? ⟨gg, 1, none⟩ = some (.int .i64 r) ∧ W.cell? ⟨gg, 2, none⟩ = some lv ∧ ∀ i, W.frozen? ⟨gg, i, none⟩ = false :=
  ⟨by rw [blk_cell h.g]; rfl, by rw [blk_cell h.g]; rfl, by rw [blk_cell h.g]; rfl, fun i => blk_frozen h.g i⟩
/-- The way to a header. -/
theorem RN.at_ (h : RN Kp W base gg m n r B lv rb hd) (i : Nat) (hi : i < m) :
    ∃ q cap b, lv = .slice (some ⟨q, 0, none⟩) m cap ∧ rb[i]? = some b ∧ W.cell? ⟨q, i, none⟩ = some (.slice (some ⟨b, 0, none⟩) n n) ∧ W.heap[b]? = some (.cells (hdr n (hd i)) 42 (0, 0)) ∧ ∀ j, j < n → W.cell? ⟨b, j, none⟩ = some (hd i j) := by
  rcases h.L.2 with ⟨_, h0⟩ | ⟨q, cap, cur, e, _, hq, _, _, _, ht⟩
  · omega
  · have hb : i < rb.length := by rw [h.ln]; exact hi
    have hbl := (h.rw i _ (List.getElem?_eq_getElem hb)).2
    refine ⟨q, cap, rb[i], e, List.getElem?_eq_getElem hb, ?_, hbl, fun j hj => ?_⟩
    · rw [blk_cell hq]
      have hm : (rb.map fun b : Nat => Value.slice (some ⟨b, 0, none⟩) n n)[i]? = some (.slice (some ⟨rb[i], 0, none⟩) n n) := by rw [List.getElem?_map, List.getElem?_eq_getElem hb]; rfl
      rw [← ht, List.getElem?_take] at hm
      split at hm
      · simpa using hm
      · cases hm
    · rw [blk_cell hbl]; exact hdr_get n _ j hj
/-- The state behind a store of a header. -/
theorem RN.put (h : RN Kp W base gg m n r B lv rb hd) {i j b : Nat} (hi : i < m) (hj : j < n) (hb : rb[i]? = some b) {v : Value} {l : List ByteArray} (hbl : W1.heap[b]? = some (.cells (hdr n (updH hd i j v i)) 42 (0, 0)))
    (hk : ∀ q, q ≠ b → (hd i j).ownBlock ≠ some q → q < W.heap.size → W1.heap[q]? = W.heap[q]?) (hv : W1.ownsRow base 9 1 v l.length (pw_strs l))
    (hvb : v.ownBlock = (hd i j).ownBlock ∨ v.ownBlock = none ∨ ∃ q, v.ownBlock = some q ∧ W.heap.size ≤ q) (hl : (l.length : Int) ≤ r) (hs : ∀ x ∈ l, x.size ≤ 5000) : RN Kp W1 base gg m n r (upd B (i : Nat) (j : Nat) l) lv rb (updH hd i j v) := by
  have hbW := (h.rw i b hb).2
  have hij := h.st i j hi hj
  have typ : ∀ (q : Nat) (t : TypeId) (cs : Array Value), t ≠ 42 → t ≠ 9 → W.heap[q]? = some (.cells cs t (0, 0)) → W1.heap[q]? = some (.cells cs t (0, 0)) := fun q t cs h1 h2 hq => by
    refine (hk q (blk_ne hq hbW h1) (fun e => ?_) (blk_lt hq)).trans hq
    obtain ⟨cs2, hc2⟩ := own_typed hij q e
    exact blk_ne hq hc2 h2 rfl
  have hne9 : ∀ q, (hd i j).ownBlock = some q → q ≠ b := fun q e => by
    obtain ⟨cs2, hc2⟩ := own_typed hij q e
    exact blk_ne hc2 hbW (by decide)
  have oth : ∀ a c, a < m → c < n → ¬(a = i ∧ c = j) → ∀ q, (hd a c).ownBlock = some q → W1.heap[q]? = W.heap[q]? := fun a c ha hc hne q e => by
    obtain ⟨cs2, hc2⟩ := own_typed (h.st a c ha hc) q e
    refine hk q (blk_ne hc2 hbW (by decide)) (fun e2 => ?_) (blk_lt hc2)
    rcases h.ap a c i j ha hc hi hj hne with z | z
    · rw [z] at e; cases e
    · exact z (e.trans e2.symm)
  have hupd : ∀ a c, ¬(a = i ∧ c = j) → upd B (i : Nat) (j : Nat) l (a : Nat) (c : Nat) = B (a : Nat) (c : Nat) := fun a c hne => upd_other (by omega)
  refine ⟨typ gg 51 _ (by decide) (by decide) h.g, h.hg, own_keep h.L (fun q hq => ?_), h.ln, fun a c hac => ⟨(h.rw a c hac).1, ?_⟩, h.nd, fun a c ha hc => ?_, fun a c a' c' ha hc ha' hc' hne => ?_, fun f t => ?_, fun f t x hx => ?_, fun q o hq => ?_⟩
  · obtain ⟨cs2, hc2⟩ := own_typed h.L q hq
    exact (typ q 52 _ (by decide) (by decide) hc2).trans hc2.symm
  · by_cases e : a = i
    · subst e
      rw [hb] at hac
      obtain rfl := Option.some.inj hac
      exact hbl
    · have hcW := (h.rw a c hac).2
      have hcb : c ≠ b := fun e2 => by
        subst e2
        obtain ⟨a1, a2⟩ := List.getElem?_eq_some_iff.1 hac
        obtain ⟨b1, b2⟩ := List.getElem?_eq_some_iff.1 hb
        have hp := List.pairwise_iff_getElem.1 h.nd
        rcases Nat.lt_or_ge a i with q | q
        · exact hp a i a1 b1 q (a2.trans b2.symm)
        · exact hp i a b1 a1 (by omega) (b2.trans a2.symm)
      rw [hk c hcb (fun e2 => by obtain ⟨cs2, hc2⟩ := own_typed hij c e2; exact blk_ne hc2 hcW (by decide) rfl) (blk_lt hcW), hcW]
      have hh : hdr n (updH hd i j v a) = hdr n (hd a) := by
        unfold hdr
        congr 2
        funext k
        exact updH_other (fun q => e q.1)
      rw [hh]
  · by_cases e : a = i ∧ c = j
    · obtain ⟨rfl, rfl⟩ := e
      rw [updH_same, upd_same]; exact hv
    · rw [updH_other e, hupd a c e]
      exact own_keep (h.st a c ha hc) (oth a c ha hc e)
  · by_cases e : a = i ∧ c = j
    · obtain ⟨rfl, rfl⟩ := e
      have e' : ¬(a' = a ∧ c' = c) := fun q => hne ⟨q.1.symm, q.2.symm⟩
      rw [updH_same, updH_other e']
      rcases hvb with z | z | ⟨q, z, hq⟩
      · rw [z]; exact h.ap a c a' c' ha hc ha' hc' hne
      · exact .inl z
      · right
        rw [z]
        intro e2
        have := own_lt (h.st a' c' ha' hc') q e2.symm
        omega
    · rw [updH_other e]
      by_cases e' : a' = i ∧ c' = j
      · obtain ⟨rfl, rfl⟩ := e'
        rw [updH_same]
        rcases hvb with z | z | ⟨q, z, hq⟩
        · rw [z]; exact h.ap a c a' c' ha hc ha' hc' hne
        · cases hz : (hd a c).ownBlock with
          | none => exact .inl rfl
          | some q => right; rw [z]; exact fun e2 => by cases e2
        · cases hz : (hd a c).ownBlock with
          | none => exact .inl rfl
          | some p =>
            right
            rw [z]
            intro e2
            have := own_lt (h.st a c ha hc) p hz
            have := Option.some.inj e2
            omega
      · rw [updH_other e']; exact h.ap a c a' c' ha hc ha' hc' hne
  · by_cases e : f = (i : Nat) ∧ t = (j : Nat)
    · obtain ⟨rfl, rfl⟩ := e; rw [upd_same]; exact hl
    · rw [upd_other e]; exact h.len f t
  · by_cases e : f = (i : Nat) ∧ t = (j : Nat)
    · obtain ⟨rfl, rfl⟩ := e; rw [upd_same] at hx; exact hs x hx
    · rw [upd_other e] at hx; exact h.str f t x hx
  · obtain ⟨f1, f2, f3, f4, f5⟩ := h.fr q o hq
    have hqb : q ≠ b := fun e => f4 (by rw [e]; exact List.mem_of_getElem? hb)
    refine ⟨(hk q hqb (f5 i j hi hj) (blk_lt f1)).trans f1, f2, f3, f4, fun a c ha hc => ?_⟩
    by_cases e : a = i ∧ c = j
    · obtain ⟨rfl, rfl⟩ := e
      rw [updH_same]
      rcases hvb with z | z | ⟨p, z, hp⟩
      · rw [z]; exact f5 a c hi hj
      · rw [z]; exact fun e => by cases e
      · rw [z]
        intro e
        have := Option.some.inj e
        have := blk_lt f1
        omega
    · rw [updH_other e]; exact f5 a c ha hc
/-- A row more. -/
theorem RN.push (h : RN Kp W base gg m n r noBags lv rb hd) {W2 : World} {b : Nat} {lv1 : Value} (hnil : ∀ i j, hd i j = .slice none 0 0) (hb : W.heap[b]? = some (.cells (hdr n (fun _ => .slice none 0 0)) 42 (0, 0))) (hbase : base ≤ b) (hnew : b ∉ rb) (hKb : Kp b = none)
    (hown : W2.ownsRow base 52 1 lv1 (m + 1) ((rb ++ [b]).map fun b : Nat => .slice (some ⟨b, 0, none⟩) n n)) (hgr : W.grownBy W2 lv.ownBlock) (hat : lv1.ownBlock = lv.ownBlock ∨ ∃ q, lv1.ownBlock = some q ∧ W.heap.size ≤ q) :
    RN Kp (W2.setCell ⟨gg, 2, none⟩ lv1) base gg (m + 1) n r noBags lv1 (rb ++ [b]) hd := by
  have hg1 : W2.heap[gg]? = some (.cells #[.int .i64 (n : Int), .int .i64 r, lv] 51 (0, 0)) := (hgr.block gg (blk_lt h.g) (own_ne h.L h.g (by decide))).trans h.g
  have kp : ∀ (q : Nat) (t : TypeId) (cs : Array Value), t ≠ 52 → q ≠ gg → W.heap[q]? = some (.cells cs t (0, 0)) → (W2.setCell ⟨gg, 2, none⟩ lv1).heap[q]? = some (.cells cs t (0, 0)) := fun q t cs ht hq hc =>
    (Below.heap_setCell W2 ⟨gg, 2, none⟩ lv1 q hq).trans ((hgr.block q (blk_lt hc) (own_ne h.L hc (fun e => ht e.symm))).trans hc)
  refine ⟨blk_put hg1 2 lv1 rfl, h.hg, own_setCell hown (own_ne hown hg1 (by decide)) lv1, by rw [List.length_append, h.ln]; rfl, fun i c hi => ?_, ?_, fun i j _ _ => ?_, fun i j a c _ _ _ _ _ => .inl (by rw [hnil]; rfl), h.len, h.str, fun q o hq => ?_⟩
  · by_cases hi2 : i < rb.length
    · rw [List.getElem?_append_left hi2] at hi
      obtain ⟨x1, x2⟩ := h.rw i c hi
      exact ⟨x1, kp c 42 _ (by decide) (blk_ne x2 h.g (by decide)) x2⟩
    · rw [List.getElem?_append_right (by omega)] at hi
      have h0 : i - rb.length = 0 := by
        rcases Nat.eq_zero_or_pos (i - rb.length) with q | q
        · exact q
        · rw [List.getElem?_eq_none (by simp; omega)] at hi; cases hi
      rw [h0] at hi
      obtain rfl := Option.some.inj hi
      refine ⟨hbase, ?_⟩
      rw [show hd i = (fun _ => .slice none 0 0) from funext (hnil i)]
      exact kp b 42 _ (by decide) (blk_ne hb h.g (by decide)) hb
  · rw [List.nodup_append]
    exact ⟨h.nd, by simp, fun x hx y hy e => hnew (by rw [List.mem_singleton.1 hy] at e; rw [← e]; exact hx)⟩
  · rw [hnil]; exact own_nil _ _ _ _
  · obtain ⟨f1, f2, f3, f4, _⟩ := h.fr q o hq
    refine ⟨(Below.heap_setCell W2 ⟨gg, 2, none⟩ lv1 q f2).trans ((hgr.block q (blk_lt f1) (fun e => f3 e.symm)).trans f1), f2, ?_, ?_, fun i j _ _ => by rw [hnil]; exact fun e => by cases e⟩
    · rcases hat with z | ⟨p, z, hp⟩
      · rw [z]; exact f3
      · rw [z]; intro e; have := Option.some.inj e; have := blk_lt f1; omega
    · intro hm
      rcases List.mem_append.1 hm with hm | hm
      · exact f4 hm
      · rw [List.mem_singleton.1 hm] at hq; rw [hKb] at hq; cases hq
end
/-- The document's network, for the caller. -/
structure RNet (Kp : Nat → Option Obj) (w0 W : World) (g n : Nat) (r : Int) (B : Int → Int → List ByteArray) : Prop where
  bl : Below w0.heap.size w0 W
  s0 : 1 ≤ n
  s1 : n ≤ 16
  r0 : 1 ≤ r
  r1 : r ≤ 1000
  ex : ∃ lv rb hd, RN Kp W w0.heap.size g n n r B lv rb hd
theorem RNet.below {Kp : Nat → Option Obj} {w0 W W1 : World} {g n : Nat} {r : Int} {B : Int → Int → List ByteArray} (h : RNet Kp w0 W g n r B) (hb : Below W.heap.size W W1) : RNet Kp w0 W1 g n r B := by
  obtain ⟨lv, rb, hd, hN⟩ := h.ex
  exact ⟨below_then h.bl h.bl.size hb, h.s0, h.s1, h.r0, h.r1, lv, rb, hd, hN.keep (fun q hq => hb.block q hq)⟩
theorem RNet.drew {Kp : Nat → Option Obj} {w0 W : World} {g n : Nat} {r : Int} {B : Int → Int → List ByteArray} (h : RNet Kp w0 W g n r B) : RNet Kp w0 W.drew g n r B := h.below (below_drew (Below.refl _ _))
end Go.Proofs.Ytmbaagaeobcmaaa.Rn
