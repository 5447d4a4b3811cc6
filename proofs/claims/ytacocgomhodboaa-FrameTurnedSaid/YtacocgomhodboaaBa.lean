/- frame.bare: its two closures. -/
import Derived.Test.YtacocgomhodboaaPk
import Derived.Laws.EntriesVeiled
set_option linter.unusedVariables false
set_option linter.unusedSimpArgs false
namespace Go.Proofs.Ytacocgomhodboaa.Ba
open Go.RowKit Go.Proofs.Ytacocgomhodboaa.Rd Go.Proofs.Ytacocgomhodboaa.Pk Go.Proofs.YtacocgomhodboaaW.PrintWords Go.Proofs.YtacocgomhodboaaW.PrintLast
def takeV (pb : Nat) : Value := .func (.func 38) #[] #[.pointer (some ⟨pb, 0, none⟩)]
def escV (pt pn : Nat) : Value := .func (.func 39) #[] #[.pointer (some ⟨pt, 0, none⟩), .pointer (some ⟨pn, 0, none⟩)]
theorem setCell_size (W : World) (a : Addr) (u : Value) : (W.setCell a u).heap.size = W.heap.size := by simp [World.setCell]
/-- The variables that the closures share, and the row that is made. -/
structure Br (base : Nat) (w W : World) (pb pt pn q : Nat) (y : ByteArray) (v : Value) (l : List UInt8) (nx : Value) : Prop where
  m : Mk base w W q y v l
  b : W.heap[pb]? = some (.cells #[v] 39 (0, 0))
  t : W.heap[pt]? = some (.cells #[takeV pb] 60 (0, 0))
  n : W.heap[pn]? = some (.cells #[nx] 60 (0, 0))
  qb : q ≠ pb
  qt : q ≠ pt
  qn : q ≠ pn
  tn : pt ≠ pn
  lb : base ≤ pb
  ln : base ≤ pn
theorem Br.setN {base : Nat} {w W : World} {pb pt pn q : Nat} {y : ByteArray} {v : Value} {l : List UInt8} {nx : Value} (h : Br base w W pb pt pn q y v l nx) (u : Value) : Br base w (W.setCell ⟨pn, 0, none⟩ u) pb pt pn q y v l u := by
  have hne := own_ne h.m.row h.n (by decide)
  refine ⟨⟨h.m.bl.setCell h.ln u, by rw [setCell_size]; exact h.m.hb, own_setCell h.m.row hne u, h.m.ne, by rw [setCell_size]; exact h.m.lt, fun j hj => ?_⟩, ?_, ?_, blk_put h.n 0 u rfl, h.qb, h.qt, h.qn, h.tn, h.lb, h.ln⟩
  · rw [cell_far (a := ⟨q, j, none⟩) (p := ⟨pn, 0, none⟩) h.qn]; exact h.m.at_ j hj
  · exact blk_far h.b (p := ⟨pn, 0, none⟩) (fun e => by have e' : pb = pn := e; have := h.b; rw [e', h.n] at this; cases this) u
  · exact blk_far h.t (p := ⟨pn, 0, none⟩) h.tn u
theorem Br.grow {base : Nat} {w W w1 : World} {pb pt pn q : Nat} {y : ByteArray} {v v1 : Value} {l : List UInt8} {nx : Value} (h : Br base w W pb pt pn q y v l nx) {c : UInt8} (hown : w1.ownsRow base 5 1 v1 (Lib.byteCells l ++ [Value.int .u8 c.toNat]).length (Lib.byteCells l ++ [Value.int .u8 c.toNat])) (hB : Below base w w1) (hg : W.grownBy w1 v.ownBlock)
    (hat : v1.ownBlock = v.ownBlock ∨ ∃ b, v1.ownBlock = some b ∧ W.heap.size ≤ b) : w1.heap[pb]? = some (.cells #[v] 39 (0, 0)) ∧ Br base w (w1.setCell ⟨pb, 0, none⟩ v1) pb pt pn q y v1 (l ++ [c]) nx := by
  have hm := h.m.grow hown hB hg hat
  have nb := own_ne h.m.row h.b (by decide)
  have nt := own_ne h.m.row h.t (by decide)
  have nn := own_ne h.m.row h.n (by decide)
  have b1 := (hg.block pb (blk_lt h.b) nb).trans h.b
  have t1 := (hg.block pt (blk_lt h.t) nt).trans h.t
  have n1 := (hg.block pn (blk_lt h.n) nn).trans h.n
  have hne := own_ne hm.row b1 (by decide)
  refine ⟨b1, ⟨hm.bl.setCell h.lb v1, by rw [setCell_size]; exact hm.hb, own_setCell hm.row hne v1, hm.ne, by rw [setCell_size]; exact hm.lt, fun j hj => ?_⟩, blk_put b1 0 v1 rfl, ?_, ?_, h.qb, h.qt, h.qn, h.tn, h.lb, h.ln⟩
  · rw [cell_far (a := ⟨q, j, none⟩) (p := ⟨pb, 0, none⟩) h.qb]; exact hm.at_ j hj
  · exact blk_far t1 (p := ⟨pb, 0, none⟩) (fun e => by have e' : pt = pb := e; rw [e', b1] at t1; cases t1) v1
  · exact blk_far n1 (p := ⟨pb, 0, none⟩) (fun e => by have e' : pn = pb := e; rw [e', b1] at n1; cases n1) v1
set_option maxHeartbeats 1000000 in
theorem take_calls {base : Nat} {w W : World} {pb pt pn q : Nat} {y : ByteArray} {v : Value} {l : List UInt8} {nx : Value} (h : Br base w W pb pt pn q y v l nx) (hl : l.length ≤ 10000) (c : UInt8) :
    Calls Try.prog 38 #[.int .u8 c.toNat, .pointer (some ⟨pb, 0, none⟩)] W fun e w' => e = .returned (.bool true) ∧ ∃ v', Br base w w' pb pt pn q y v' (l ++ [c]) nx := by
  obtain ⟨A, cp, rfl⟩ := own_slice h.m.row
  have c0 : W.cell? ⟨pb, 0, none⟩ = some (.slice A l.length cp) := by rw [blk_cell h.b]; rfl
  have H := Lib.hid h
  clear h
  go_enter Try.func38, Try.ntmps38
  go_wp2_with (at_builtin; refine print_append base rfl _ _ 39 5 (.int .u8 0) 1 rfl Try.underlying39 Rd.info5 rfl (by decide) (.slice A l.length cp) (Lib.byteCells l) (.int .u8 c.toNat) rfl rfl rfl (by rw [Lib.byteCells_length]; exact H.out.m.row) H.out.m.bl H.out.m.hb (by rw [Lib.byteCells_length]; omega) ?_; intro v1 w2 hown hB2 hgr hat; obtain ⟨b1, hG⟩ := H.out.grow hown hB2 hgr hat; obtain ⟨A2, k2, rfl⟩ := own_slice hG.m.row; have d0 : w2.cell? ⟨pb, 0, none⟩ = some (.slice A l.length cp) := (by rw [blk_cell b1]; rfl); have f0 : w2.frozen? ⟨pb, 0, none⟩ = false := blk_frozen b1 0; have HG := Lib.hid hG; clear hown hB2 hgr hat hG b1)
  go_ret
  refine ⟨rfl, .slice A2 (l.length + 1) k2, ?_⟩
  have := HG.out
  rw [List.length_append] at this
  exact this
def okE (c : UInt8) : Bool := decide (c ^^^ 32 = 126) || decide (c ^^^ 32 = 125)
set_option maxHeartbeats 1000000 in
theorem esc_calls {base : Nat} {w W : World} {pb pt pn q : Nat} {y : ByteArray} {v : Value} {l : List UInt8} {nx : Value} (h : Br base w W pb pt pn q y v l nx) (hl : l.length ≤ 10000) (c : UInt8) :
    Calls Try.prog 39 #[.int .u8 c.toNat, .pointer (some ⟨pt, 0, none⟩), .pointer (some ⟨pn, 0, none⟩)] W fun e w' => e = .returned (.bool (okE c)) ∧ ∃ v', Br base w w' pb pt pn q y v' (l ++ [c ^^^ 32]) (takeV pb) := by
  have h1 := h.setN (takeV pb)
  have c1 : W.cell? ⟨pt, 0, none⟩ = some (takeV pb) := by rw [blk_cell h.t]; rfl
  have c2 : W.cell? ⟨pn, 0, none⟩ = some nx := by rw [blk_cell h.n]; rfl
  have f2 : W.frozen? ⟨pn, 0, none⟩ = false := blk_frozen h.n 0
  have d1 : (W.setCell ⟨pn, 0, none⟩ (takeV pb)).cell? ⟨pt, 0, none⟩ = some (takeV pb) := by rw [blk_cell h1.t]; rfl
  have ht := take_calls h1 hl (c ^^^ 32)
  have hx := bits_xor_u8 c 32
  have hx : Go.bits .xor .u8 ((c.toNat : Nat) : Int) 32 = (((c ^^^ 32).toNat : Nat) : Int) := hx
  unfold okE
  generalize c ^^^ 32 = cx at hx ht ⊢
  clear h h1
  unfold takeV at c1 c2 d1 ht ⊢
  have hb : ∀ d : UInt8, ((cx.toNat : Int) == (d.toNat : Int)) = decide (cx = d) := fun d => by
    by_cases e : cx = d
    · rw [e]; simp
    · rw [decide_eq_false e, beq_eq_false_iff_ne]
      intro e2
      exact e (UInt8.toNat_inj.1 (by omega))
  have b1 : ((cx.toNat : Int) == 126) = decide (cx = 126) := hb 126
  have b2 : ((cx.toNat : Int) == 125) = decide (cx = 125) := hb 125
  clear hb
  rcases e1 : decide (cx = 126) with _ | _
  · rw [e1] at b1
    rcases e2 : decide (cx = 125) with _ | _
    all_goals
      rw [e2] at b2
      clear e1 e2
      go_enter Try.func39, Try.ntmps39
      go_wp2_with (go_at_call 38; refine ht.mono ?_; rintro e w2 ⟨rfl, hv⟩)
      go_ret
      exact ⟨rfl, hv⟩
  · rw [e1] at b1
    clear e1 b2
    go_enter Try.func39, Try.ntmps39
    go_wp2_with (go_at_call 38; refine ht.mono ?_; rintro e w2 ⟨rfl, hv⟩)
    go_ret
    exact ⟨rfl, hv⟩
end Go.Proofs.Ytacocgomhodboaa.Ba
