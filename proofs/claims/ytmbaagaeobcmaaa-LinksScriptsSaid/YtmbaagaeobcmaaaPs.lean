/- Both networks made; what holds of the bags. -/
import Derived.Test.YtmbaagaeobcmaaaPr
import Derived.Test.YtmbaagaeobcmaaaRt
import Derived.Test.YtmbaagaeobcmaaaRk
set_option linter.unusedVariables false
set_option linter.unusedSimpArgs false
namespace Go.Proofs.Ytmbaagaeobcmaaa.Ps
open Go.RowKit Go.Proofs.Ytmbaagaeobcmaaa.NtK Go.Proofs.Ytmbaagaeobcmaaa.NcK Go.Proofs.Ytmbaagaeobcmaaa.SdK Go.Proofs.Ytmbaagaeobcmaaa.TnK Go.Proofs.Ytmbaagaeobcmaaa.CsK Go.Proofs.Ytmbaagaeobcmaaa.Rn Go.Proofs.Ytmbaagaeobcmaaa.Ra Go.Proofs.Ytmbaagaeobcmaaa.Rc Go.Proofs.Ytmbaagaeobcmaaa.Re Go.Proofs.Ytmbaagaeobcmaaa.Rk Go.Proofs.Ytmbaagaeobcmaaa.Rt Go.Proofs.Ytmbaagaeobcmaaa.Pr Go.Proofs.YtmbaagaeobcmaaaW.PrintWords Go.Proofs.YtmbaagaeobcmaaaW.PrintLast
theorem RN.down {Kp : Nat → Option Obj} {W : World} {base base' gg m n : Nat} {r : Int} {B : Bags} {lv : Value} {rb : List Nat} {hd : Nat → Nat → Value} (h : RN Kp W base gg m n r B lv rb hd) (hb : base' ≤ base) : RN Kp W base' gg m n r B lv rb hd :=
  ⟨h.g, Nat.le_trans hb h.hg, own_weaken h.L hb, h.ln, fun i b hi => ⟨Nat.le_trans hb (h.rw i b hi).1, (h.rw i b hi).2⟩, h.nd, fun i j hi hj => own_weaken (h.st i j hi hj) hb, h.ap, h.len, h.str, h.fr⟩
/-- The second network is made beside the first one. -/
theorem pair_new {w w1 : World} {gP n : Nat} {r : Int} (hN : Net (fun _ => none) w w1 gP n r noBags) (h1 : 1 ≤ n) (h2 : n ≤ 16) (h3 : 1 ≤ r) (h4 : r ≤ 1000) :
    Calls Try.prog 9 #[.int .i64 (n : Int), .int .i64 r] w1 fun e w2 => ∃ gR, e = .returned (.tuple #[.pointer (some ⟨gR, 0, none⟩), .int .i64 0]) ∧ Pair (fun _ => none) w w2 gP gR n r noBags noBags := by
  obtain ⟨bm, es, ck, hM⟩ := hN.ex
  refine (RNew_ok (snap w1 (footN gP bm es) (fun _ => none)) n r h1 h2 h3 h4 w1 (fun j o hj => (snap_some.1 hj).elim (fun e => e.2) (fun e => by cases e.2))).mono ?_
  rintro e w2 ⟨gR, rfl, hR⟩
  obtain ⟨lv, rb, hd, hRN⟩ := hR.ex
  have hkN : ∀ q, footN gP bm es q → w2.heap[q]? = w1.heap[q]? := fun q hq => by obtain ⟨o, ho⟩ := heldN hM q hq; exact hR.bl.block q (Array.getElem?_eq_some_iff.1 ho).1
  refine ⟨gR, rfl, below_then hN.bl hN.bl.size hR.bl, hN.hg, h1, h2, h3, h4, bm, es, ck, lv, rb, hd, keepN hM hkN (fun q o hq => ?_), ?_⟩
  · have hq2 : footR gR n lv rb hd q ∧ w2.heap[q]? = some o := (snap_some.1 hq).elim id (fun e => by cases e.2)
    refine ⟨hq2.2, fun hf => ?_⟩
    obtain ⟨o', ho'⟩ := heldN hM q hf
    obtain ⟨_, k2, k3, k4, k5⟩ := hRN.fr q o' (snap_some.2 (.inl ⟨hf, ho'⟩))
    rcases hq2.1 with e | e | e | ⟨i, j, hi, hj, e⟩
    · exact k2 e
    · exact k3 e
    · exact k4 e
    · exact k5 i j hi hj e
  · rw [snap_congr hkN]
    exact RN.down hRN hN.bl.size
/-- No link, no text. -/
def Zero (n : Int) (B : Bags) : Prop := ∀ f t, isB n f t = false → B f t = []
theorem zero_no (n : Int) : Zero n noBags := fun _ _ _ => rfl
theorem zero_upd {n : Int} {B : Bags} (h : Zero n B) (f t : Int) (l : List ByteArray) (hb : isB n f t = true) : Zero n (upd B f t l) := fun a c hac => by
  have hne : ¬(a = f ∧ c = t) := fun e => by rw [e.1, e.2, hb] at hac; cases hac
  rw [upd_other hne]; exact h a c hac
theorem zero_send {n r : Int} {B : Bags} (h : Zero n B) (f t : Int) (x : ByteArray) : Zero n (sendR n r B f t x).2 := by
  unfold sendR
  split
  · rename_i hx
    split
    · exact h
    · refine zero_upd h f t _ ?_
      unfold sendOk at hx
      cases hb : isB n f t with
      | true => rfl
      | false => rw [hb] at hx; cases hx
  · exact h
theorem zero_cast {n r : Int} {B : Bags} (h : Zero n B) (f : Int) (x : ByteArray) : ∀ k, Zero n (castR n r B f x k).2
  | 0 => h
  | k + 1 => zero_send (zero_cast h f x k) f (k : Nat) x
theorem hasB_isB {n f t i : Int} {l : Nat} (h : hasB n f t i l = true) : isB n f t = true := by
  cases hb : isB n f t with
  | true => rfl
  | false => unfold hasB at h; rw [hb] at h; cases h
theorem zero_take {n : Int} {B : Bags} (h : Zero n B) (f t i : Int) : Zero n (takeR n B f t i).2 := by
  unfold takeR
  split
  · rename_i hx; exact zero_upd h f t _ (hasB_isB hx)
  · exact h
theorem zero_double {n r : Int} {B : Bags} (h : Zero n B) (f t i : Int) : Zero n (doubleR n r B f t i).2 := by
  unfold doubleR
  split
  · split
    · exact zero_send h f t _
    · exact h
  · exact h
theorem zero_turn {n : Int} {B : Bags} (h : Zero n B) (f t i a b : Int) : Zero n (turnR n B f t i a b).2 := by
  unfold turnR
  split
  · rename_i hx
    split
    · exact zero_upd h f t _ (hasB_isB hx)
    · exact h
  · exact h
theorem len_same {n : Int} {B : Bags} (h : Zero n B) (f t : Int) : lenR n B f t = (B f t).length := by
  unfold lenR
  cases hb : isB n f t with
  | true => rw [if_pos rfl]
  | false => rw [if_neg (by decide), h f t hb]; rfl
end Go.Proofs.Ytmbaagaeobcmaaa.Ps
