/- What the frames' laws share: rows of texts that are handed in, whether they are short, whether two are the same. -/
import Derived.Test.YtacocgomhodboaaFt
import Derived.Test.YtacocgomhodboaaPx2
set_option linter.unusedVariables false
set_option linter.unusedSimpArgs false
namespace Go.Proofs.Ytacocgomhodboaa.Hs
open Go.RowKit Go.Proofs.Ytacocgomhodboaa.Rd Go.Proofs.Ytacocgomhodboaa.Pk Go.Proofs.Ytacocgomhodboaa.Fs Go.Proofs.Ytacocgomhodboaa.Lem Go.Proofs.Ytacocgomhodboaa.Gv2 Go.Proofs.Ytacocgomhodboaa.Fl Go.Proofs.Ytacocgomhodboaa.P Go.Proofs.YtacocgomhodboaaW.PrintWords Go.Proofs.YtacocgomhodboaaW.PrintLast
theorem rdOf_nat (xs : List ByteArray) (i : Nat) (h : i < xs.length) : rdOf ByteArray.empty xs (i : Int) = xs[i] := by
  unfold rdOf
  rw [Int.toNat_natCast, List.getD_eq_getElem?_getD, List.getElem?_eq_getElem h]; rfl
theorem wrap_succ (i : Nat) (h : i < 9223372036854775807) : wrap64 ((i : Int) + 1) = ((i + 1 : Nat) : Int) := by unfold wrap64; omega
theorem short_l0 (l : List ByteArray) (hl : l.length ≤ 40) : ∀ (m i : Nat), i + m = l.length → duetlaw03_short.l0 (m + 1) l (i : Int) = some ((l.drop i).all fun s => decide (s.size ≤ 3000))
  | 0, i, hi => by
    unfold duetlaw03_short.l0
    rw [if_neg (by omega), List.drop_of_length_le (by omega)]; rfl
  | m + 1, i, hi => by
    unfold duetlaw03_short.l0
    have hlt : i < l.length := by omega
    rw [if_pos (by omega), if_pos (by omega), rdOf_nat l i hlt, List.drop_eq_getElem_cons hlt, List.all_cons]
    by_cases h : l[i].size ≤ 3000
    · rw [if_neg (by omega), wrap_succ i (by omega), short_l0 l hl m (i + 1) (by omega), decide_eq_true h, Bool.true_and]
    · rw [if_pos (by omega), decide_eq_false h, Bool.false_and]
def shortB (l : List ByteArray) : Bool := decide (l.length ≤ 40) && l.all fun s => decide (s.size ≤ 3000)
theorem shortB_iff (l : List ByteArray) : shortB l = true ↔ l.length ≤ 40 ∧ ∀ s ∈ l, s.size ≤ 3000 := by
  unfold shortB
  simp
theorem short_f (l : List ByteArray) : ∃ k, duetlaw03_short.f k l = some (shortB l) := by
  unfold duetlaw03_short.f shortB
  by_cases h : l.length ≤ 40
  · refine ⟨l.length + 1, ?_⟩
    rw [if_neg (by omega), decide_eq_true h, Bool.true_and]
    exact short_l0 l h l.length 0 (by omega)
  · refine ⟨0, ?_⟩
    rw [if_pos (by omega), decide_eq_false h, Bool.false_and]
theorem short_calls (A : Option Addr) (c : Nat) (l : List ByteArray) (w : World) (hC : Kd.C Kd.string w A l.length l) (hc : l.length ≤ c) :
    Calls Try.prog 13 #[.slice A l.length c] w fun e w' => e = .returned (.bool (shortB l)) ∧ Drawn0 w w' := by
  obtain ⟨k, hk⟩ := short_f l
  exact duetlaw03_short.calls k A c l _ w hC hc hk
theorem texts_l0 (l : List ByteArray) (hl : l.length < 9223372036854775807) : ∀ (m i : Nat), i + m = l.length → duetref03_Texts.l0 (m + 1) l l (i : Int) = some true
  | 0, i, hi => by
    unfold duetref03_Texts.l0
    rw [if_neg (by omega)]
  | m + 1, i, hi => by
    unfold duetref03_Texts.l0
    rw [if_pos (by omega), if_pos (by omega), if_pos (by omega), if_pos rfl, wrap_succ i (by omega), texts_l0 l hl m (i + 1) (by omega)]
theorem texts_calls (A B : Option Addr) (c d : Nat) (l : List ByteArray) (w : World) (hC : Kd.C Kd.string w A l.length l) (hc : l.length ≤ c) (hD : Kd.C Kd.string w B l.length l) (hd : l.length ≤ d) :
    Calls Try.prog 15 #[.slice A l.length c, .slice B l.length d] w fun e w' => e = .returned (.bool true) ∧ Drawn0 w w' := by
  have hm : l.length ≤ 9223372036854775807 := hC.2.1
  by_cases h : l.length < 9223372036854775807
  · refine duetref03_Texts.calls (l.length + 1) A c l B d l true w hC hc hD hd ?_
    unfold duetref03_Texts.f
    rw [if_pos rfl]
    exact texts_l0 l h l.length 0 (by omega)
  · refine duetref03_Texts.calls (9223372036854775807 + 1) A c l B d l true w hC hc hD hd ?_
    unfold duetref03_Texts.f
    rw [if_pos rfl]
    have hg : ∀ (m i : Nat), i + m = l.length → duetref03_Texts.l0 (m + 1) l l (i : Int) = some true := by
      intro m
      induction m with
      | zero => intro i hi; unfold duetref03_Texts.l0; rw [if_neg (by omega)]
      | succ m ih =>
        intro i hi
        unfold duetref03_Texts.l0
        rw [if_pos (by omega), if_pos (by omega), if_pos (by omega), if_pos rfl, wrap_succ i (by omega), ih (i + 1) (by omega)]
    exact hg 9223372036854775807 0 (by omega)
/-- A row of one's own, read. -/
theorem own_C {w : World} {base n c : Nat} {A : Option Addr} {xs : List ByteArray} (h : w.ownsRow base 9 1 (.slice A n c) xs.length (pw_strs xs)) : n = xs.length ∧ n ≤ c ∧ Kd.C Kd.string w A xs.length xs := by
  obtain ⟨A', c', e, hle, hr⟩ := own_reads_of_le (enc := Value.string) (d := ByteArray.empty) (xs := xs) h
  injection e with e1 e2 e3
  subst e1 e2 e3
  exact ⟨rfl, hle, Kd.C_of_reads (enc := Value.string) (d := ByteArray.empty) (h1 := fun _ => rfl) hr⟩
theorem drawn_below {w w1 : World} (h : Drawn0 w w1) : Below w.heap.size w w1 := by
  obtain ⟨n, rfl⟩ := h.out
  exact pw_below_drewN (Below.refl _ _) n
theorem pack_calls (s : ByteArray) (h : s.size ≤ 2000) (w : World) : Calls Try.prog 11 #[.string s] w fun e w' => e = .returned (.tuple #[.string (packS s), .int .i64 0]) ∧ Below w.heap.size w w' :=
  frame_Pack.calls s (packS s) 0 w (by unfold frame_Pack.f; rw [if_neg (by omega)])
theorem packS_size (s : ByteArray) : (packS s).size = (tailP s).length + 1 := by
  have h := pack_list s
  have hz : (packS s).data.toList.length = (packS s).size := Array.length_toList
  rw [h] at hz
  simpa using hz.symm
theorem tailP_len (s : ByteArray) (h : s.size ≤ 2000) : 1 ≤ (tailP s).length ∧ (tailP s).length ≤ 4100 := by
  have h1 := st_len (sealS s).data.toList
  have h2 : (sealS s).data.toList.length = (sealS s).size := Array.length_toList
  have h3 := sealS_size s
  unfold tailP
  rw [List.length_append]
  simp only [List.length_cons, List.length_nil]
  omega
end Go.Proofs.Ytacocgomhodboaa.Hs
