/- The law ViewHidden: an element that is not seen changes nothing of what is said. -/
import Derived.Test.YtpclgafcldmchaaPureB
import Derived.Test.YtpclgafcldmchaaHid
set_option linter.unusedVariables false
set_option linter.unusedSimpArgs false
namespace Go.Proofs.Ytpclgafcldmchaa.Pure
open Go.RowKit Go.Proofs.Ytpclgafcldmchaa.P Go.Proofs.Ytpclgafcldmchaa.It Go.Proofs.Ytpclgafcldmchaa.Giv Go.Proofs.Ytpclgafcldmchaa.Lem Go.Proofs.YtpclgafcldmchaaW.PrintWords Go.Proofs.YtpclgafcldmchaaW.PrintLast Go.Proofs.YtpclgafcldmchaaW.PrintMore
theorem hid_seen (x : S44) (h : 1 ≤ x.f3.length) : (seenN [x]).length = 0 ∧ clips [x] = [] := by
  refine ⟨?_, ?_⟩
  · unfold seenN; rw [seenFrom, if_neg (by omega)]; rfl
  · unfold clips; rw [List.filter_cons, if_neg (by intro e; have := eq_of_beq e; omega)]; rfl
theorem hid_j0 (l : List S44) (hl : l.length ≤ 60) (a y0 y1 y2 y3 y4 : Int) (u : List Int) (c : Bool) (hc : c = false → 0 ≤ a ∧ a ≤ (l.length : Int) ∧ 1 ≤ u.length) : duetlaw12_ViewHidden.j0 200 l a c y0 y1 y2 y3 y4 u = some true := by
  rw [show (200 : Nat) = 199 + 1 from rfl, duetlaw12_ViewHidden.j0]
  cases c with
  | true => rw [if_pos rfl, live_f _ (by decide)]; rfl
  | false =>
    obtain ⟨h0, h1, h2⟩ := hc rfl
    have ht : (l.take a.toNat).length ≤ 60 := by rw [List.length_take]; omega
    have hd : (l.drop a.toNat).length ≤ 60 := by rw [List.length_drop]; omega
    obtain ⟨x, hx⟩ : ∃ x : S44, x = ⟨⟨y0, y1⟩, ⟨y2, y3⟩, y4, u⟩ := ⟨_, rfl⟩
    have e : ([] : List S44) ++ l.take a.toNat ++ [x] ++ l.drop a.toNat = l.take a.toNat ++ ([x] ++ l.drop a.toNat) := by simp
    obtain ⟨s, cl⟩ := hid_seen x (by rw [hx]; exact h2)
    have es : (seenN (l.take a.toNat ++ ([x] ++ l.drop a.toNat))).length = (seenN l).length := by
      rw [seenN_append, seenN_append, s, Nat.zero_add, ← seenN_append, List.take_append_drop]
    have ec : clips (l.take a.toNat ++ ([x] ++ l.drop a.toNat)) = clips l := by
      rw [clips_append, clips_append, cl, List.nil_append, ← clips_append, List.take_append_drop]
    have hm : (l.take a.toNat ++ ([x] ++ l.drop a.toNat)).length ≤ 1000 := by simp only [List.length_append, List.length_singleton]; omega
    rw [if_neg (by decide)]
    rw [← hx]
    simp only [Option.bind_some]
    rw [if_pos h0, if_pos h1, if_pos (by simp; omega), if_pos (by simp; omega), if_pos (by simp; omega), e, Text_f _ hm, Option.bind_some, Text_f l (by omega), Option.bind_some, ec, if_pos rfl, Seen_f _ hm, Option.bind_some, Seen_f l (by omega), Option.bind_some, seenL_len, seenL_len, es, if_pos rfl, live_f _ (by decide)]
    rfl
theorem ViewHidden (l : List S44) (a y0 y1 y2 y3 y4 : Int) (u : List Int) : duetlaw12_ViewHidden.f 200 l a y0 y1 y2 y3 y4 u = some true := by
  obtain ⟨c, hb, hl⟩ := Few_f 200 (by decide) l
  unfold duetlaw12_ViewHidden.f
  rw [hb, Option.bind_some]
  cases c with
  | false => rw [if_neg (by decide), show (200 : Nat) = 199 + 1 from rfl, duetlaw12_ViewHidden.j0, if_pos rfl, live_f _ (by decide)]; rfl
  | true =>
    have hl := hl rfl
    rw [if_pos rfl]
    by_cases h : a < 0
    · rw [if_pos h]; exact hid_j0 l hl a _ _ _ _ _ u _ (fun h => by cases h)
    · rw [if_neg h]
      by_cases h1 : a > (l.length : Int)
      · rw [if_pos h1]; exact hid_j0 l hl a _ _ _ _ _ u _ (fun h => by cases h)
      · rw [if_neg h1]
        by_cases h2 : (u.length : Int) < 1
        · rw [if_pos h2]; exact hid_j0 l hl a _ _ _ _ _ u _ (fun h => by cases h)
        · rw [if_neg h2]; exact hid_j0 l hl a _ _ _ _ _ u _ (fun _ => by omega)
/-- What is read in an elder world lies in that world's blocks. -/
theorem F_els {w : World} {A : Option Addr} {n : Nat} {xs : List S44} (h : Kd.C k44 w A n xs) : Kd.F k44 w (fun k => k < w.heap.size) A n xs := by
  intro W' hW
  have hs : w.heap.size ≤ W'.heap.size := by
    rcases Nat.eq_zero_or_pos w.heap.size with h0 | h0
    · omega
    · have := heap_lt (hW (w.heap.size - 1) (by omega) (by omega)) (by omega)
      omega
  have hB : Below w.heap.size w { W' with os := w.os, tape := w.tape, output := w.output } := ⟨rfl, rfl, rfl, hs, fun k hk => hW k hk hk⟩
  have q := Kd.C_below h hB
  exact q
theorem F_ints {w : World} {A : Option Addr} {n : Nat} {xs : List Int} (h : Kd.C (Kd.int .i64) w A n xs) : Kd.F (Kd.int .i64) w (fun k => k < w.heap.size) A n xs := by
  intro W' hW
  have hs : w.heap.size ≤ W'.heap.size := by
    rcases Nat.eq_zero_or_pos w.heap.size with h0 | h0
    · omega
    · have := heap_lt (hW (w.heap.size - 1) (by omega) (by omega)) (by omega)
      omega
  have hB : Below w.heap.size w { W' with os := w.os, tape := w.tape, output := w.output } := ⟨rfl, rfl, rfl, hs, fun k hk => hW k hk hk⟩
  have q := Kd.C_below h hB
  exact q
theorem V_els {w : World} {A : Option Addr} {c : Nat} {xs : List S44} (h : Kd.C k44 w A xs.length xs) (hl : xs.length ≤ c) (b : Nat) : Kd.V k44 44 w b (fun k => k < w.heap.size) (.slice A xs.length c) xs := Kd.V_mk hl (F_els h)
theorem V_ints {w : World} {A : Option Addr} {c : Nat} {xs : List Int} (h : Kd.C (Kd.int .i64) w A xs.length xs) (hl : xs.length ≤ c) (b : Nat) : Kd.V (Kd.int .i64) 3 w b (fun k => k < w.heap.size) (.slice A xs.length c) xs := Kd.V_mk hl (F_ints h)
end Go.Proofs.Ytpclgafcldmchaa.Pure
