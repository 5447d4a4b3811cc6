/- frame.Reader's end: the walk. -/
import Derived.Test.YtacocgomhodboaaBw
import Derived.Test.YtacocgomhodboaaLem
set_option linter.unusedVariables false
set_option linter.unusedSimpArgs false
namespace Go.Proofs.Ytacocgomhodboaa.En
open Go.RowKit Go.Proofs.Ytacocgomhodboaa.Rd Go.Proofs.Ytacocgomhodboaa.Pk Go.Proofs.Ytacocgomhodboaa.Bw Go.Proofs.Ytacocgomhodboaa.Lem Go.Proofs.Ytacocgomhodboaa.P Go.Proofs.YtacocgomhodboaaW.PrintWords Go.Proofs.YtacocgomhodboaaW.PrintLast
/-- The reader behind String, whatever its bytes' row is now. -/
structure Hf (K : Nat → Option Obj) (w0 W : World) (g : Nat) (long : Bool) (bad : Int) : Prop where
  bl : Below w0.heap.size w0 W
  hg : w0.heap.size ≤ g
  b : ∃ p v, W.heap[g]? = some (.cells #[p, v, .bool long, .int .i64 bad] 46 (0, 0))
  fr : ∀ j o, K j = some o → W.heap[j]? = some o ∧ j ≠ g
theorem Hf.below {K : Nat → Option Obj} {w0 W W1 : World} {g : Nat} {long : Bool} {bad : Int} (h : Hf K w0 W g long bad) (hb : Below W.heap.size W W1) : Hf K w0 W1 g long bad := by
  obtain ⟨p, v, h1⟩ := h.b
  exact ⟨below_then h.bl h.bl.size hb, h.hg, ⟨p, v, (hb.block g (blk_lt h1)).trans h1⟩, fun j o hj => ⟨(hb.block j (blk_lt (h.fr j o hj).1)).trans (h.fr j o hj).1, (h.fr j o hj).2⟩⟩
theorem Hf.drew {K : Nat → Option Obj} {w0 W : World} {g : Nat} {long : Bool} {bad : Int} (h : Hf K w0 W g long bad) : Hf K w0 W.drew g long bad := h.below (below_drew (Below.refl _ _))
theorem Hf.long {K : Nat → Option Obj} {w0 W : World} {g : Nat} {long : Bool} {bad : Int} (h : Hf K w0 W g long bad) : W.cell? ⟨g, 2, none⟩ = some (.bool long) := by
  obtain ⟨p, v, h1⟩ := h.b
  rw [blk_cell h1]; rfl
theorem bareF_len : ∀ (l : List UInt8) (o : Bool) (acc : List UInt8), (bareF o acc l).1.length ≤ acc.length + l.length
  | [], o, acc => by cases o <;> simp [bareF]
  | c :: l, false, acc => by
    unfold bareF
    split
    · have := bareF_len l true acc; simp only [List.length_cons]; omega
    · have := bareF_len l false (acc ++ [c]); simp only [List.length_append, List.length_cons, List.length_nil] at this ⊢; omega
  | c :: l, true, acc => by
    unfold bareF
    split
    · have := bareF_len l false (acc ++ [c ^^^ 32]); simp only [List.length_append, List.length_cons, List.length_nil] at this ⊢; omega
    · simp
/-- What a piece says. -/
def endR (l : List UInt8) (long : Bool) : ByteArray × Bool :=
  ((openS ⟨(bareF false [] l).1.toArray⟩).1, (bareF false [] l).2 && (decide ((openS ⟨(bareF false [] l).1.toArray⟩).2 = 0) && (decide ((openS ⟨(bareF false [] l).1.toArray⟩).1.size ≤ 2000) && !long)))
set_option maxHeartbeats 2000000 in
theorem end_calls {K : Nat → Option Obj} {w0 W : World} {g : Nat} {l : List UInt8} {long : Bool} {bad : Int} (h : Rd K w0 W g l long bad) (h0 : l ≠ []) (hl : l.length ≤ 5000) :
    Calls Try.prog 24 #[.pointer (some ⟨g, 0, none⟩)] W fun e w' => e = .returned (.tuple #[.string (endR l long).1, .bool (endR l long).2]) ∧ Hf K w0 w' g long bad := by
  have hS := String_calls h h0
  have hBa := fun w => bare_calls ⟨l.toArray⟩ (by show l.toArray.size ≤ 9000; simp; omega) w
  have hsz : (⟨(bareF false [] l).1.toArray⟩ : ByteArray).size ≤ 140737488351000 := by
    have := bareF_len l false []
    show (bareF false [] l).1.toArray.size ≤ _
    simp at this ⊢; omega
  have hOp := fun w => crcs_Open.calls ⟨(bareF false [] l).1.toArray⟩ (openS ⟨(bareF false [] l).1.toArray⟩).1 (openS ⟨(bareF false [] l).1.toArray⟩).2 w (Open_f _ hsz)
  unfold endR
  have hl2 : (⟨l.toArray⟩ : ByteArray).data.toList = l := by simp
  rw [hl2] at hBa
  generalize bareF false [] l = ba at hBa hOp ⊢
  obtain ⟨b1, ok⟩ := ba
  simp only at hBa hOp ⊢
  generalize openS ⟨b1.toArray⟩ = op at hOp ⊢
  obtain ⟨t, e⟩ := op
  simp only at hOp ⊢
  obtain ⟨r, hr⟩ : ∃ r, r = (ok && (decide (e = 0) && (decide (t.size ≤ 2000) && !long))) := ⟨_, rfl⟩
  rw [← hr]
  have HRR := Lib.hid hr
  clear h hsz hl2 h0 hl hr
  go_enter Try.func24, Try.ntmps24
  go_upto_region 3 with (first
    | (go_at_call 33; refine hS.mono ?_; rintro e w1 ⟨rfl, s1, s2, s3, s4⟩; have hH : Hf K w0 w1 g long bad := ⟨s1, s2, s3, s4⟩; clear s1 s2 s3 s4)
    | (go_at_call 32; refine (hBa _).mono ?_; rintro e w2 ⟨rfl, hb2⟩; have hH2 := hH.below hb2)
    | (go_at_call 34; refine (hOp _).mono ?_; rintro e w3 ⟨rfl, hb3⟩; have hH3 := hH2.below hb3))
  have HH := Lib.hid hH3.drew
  have c2 := HH.out.long
  clear hH hH2 hH3 hb2 hb3 hS hBa hOp
  cases ok with
  | false =>
    go_region
    all_goals
      go_wp2
      go_ret2
      rw [HRR.out]
      exact ⟨rfl, HH.out⟩
  | true =>
    by_cases h1 : e = 0
    · have d1 : (e == 0) = true := by simpa using h1
      have D2 := Lib.hid (decide_eq_true h1)
      clear h1
      by_cases h2 : t.size ≤ 2000
      · have d3 : decide ((t.size : Int) ≤ 2000) = true := decide_eq_true (by omega)
        have D4 := Lib.hid (decide_eq_true h2)
        clear h2
        go_region
        all_goals
          go_wp2
          go_ret2
          rw [HRR.out, D2.out, D4.out]
          exact ⟨rfl, HH.out⟩
      · have d3 : decide ((t.size : Int) ≤ 2000) = false := decide_eq_false (by omega)
        have D4 := Lib.hid (decide_eq_false h2)
        clear h2
        go_region
        all_goals
          go_wp2
          go_ret2
          rw [HRR.out, D2.out, D4.out]
          exact ⟨rfl, HH.out⟩
    · have d1 : (e == 0) = false := by simpa using h1
      have D2 := Lib.hid (decide_eq_false h1)
      clear h1
      go_region
      all_goals
        go_wp2
        go_ret2
        rw [HRR.out, D2.out]
        exact ⟨rfl, HH.out⟩
end Go.Proofs.Ytacocgomhodboaa.En
