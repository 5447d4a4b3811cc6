/- What the laws of keys share: Told, Same, rows of keys, short. -/
import Derived.Test.YtmgdikfgejablaaDoorKo
import Derived.Test.YtmgdikfgejablaaDoorPx2
set_option linter.unusedVariables false
set_option linter.unusedSimpArgs false
namespace Go.Proofs.YtmgdikfgejablaaDoor.Kl
open Go.RowKit Go.Proofs.YtmgdikfgejablaaDoor.Ky Go.Proofs.YtmgdikfgejablaaDoor.Kd Go.Proofs.YtmgdikfgejablaaDoor.Ke Go.Proofs.YtmgdikfgejablaaDoor.Ko Go.Proofs.YtmgdikfgejablaaDoor.P Go.Proofs.YtmgdikfgejablaaDoorW.PrintWords Go.Proofs.YtmgdikfgejablaaDoorW.PrintLast
def s50 (k : Key) : S50 := ⟨k.1, k.2⟩
def s45 (k : Key) : S45 := ⟨k.1, k.2⟩
theorem flat_at (l : List Key) : ∀ j k, l[j]? = some k → ((flat l).drop (j * 2)).take 2 = [.int .i64 k.1, .int .i64 k.2] := by
  induction l with
  | nil => intro j k h; simp at h
  | cons x l ih =>
    intro j k h
    have e : flat (x :: l) = .int .i64 x.1 :: .int .i64 x.2 :: flat l := by simp [flat]
    rw [e]
    cases j with
    | zero => simp at h; subst h; rfl
    | succ j =>
      rw [show (j + 1) * 2 = j * 2 + 1 + 1 by omega, List.drop_succ_cons, List.drop_succ_cons]
      exact ih j k (by simpa using h)
theorem reps50 (w : World) (l : List Key) : Reps (k50.K w) 2 (l.map s50) (flat l) := by
  refine ⟨by rw [flat_len, List.length_map]; omega, fun j p h => ?_⟩
  rw [List.getElem?_map] at h
  obtain ⟨k, hk, rfl⟩ := Option.map_eq_some_iff.1 h
  rw [flat_at l j k hk]
  exact k50_mk w (s50 k)
theorem reps45 (w : World) (l : List Key) : Reps (k45.K w) 2 (l.map s45) (flat l) := by
  refine ⟨by rw [flat_len, List.length_map]; omega, fun j p h => ?_⟩
  rw [List.getElem?_map] at h
  obtain ⟨k, hk, rfl⟩ := Option.map_eq_some_iff.1 h
  rw [flat_at l j k hk]
  exact k45_mk w (s45 k)
theorem own_le {w : World} {base e size n c : Nat} {A : Option Addr} {xs : List Value} (h : w.ownsRow base e size (.slice A n c) n xs) : n ≤ c := by
  rcases h.2 with ⟨e1, _⟩ | ⟨g, cap, cur, e1, _, _, hn, _⟩
  · injection e1 with _ a b; omega
  · injection e1 with _ a b; omega
theorem own_C50 {w : World} {base c : Nat} {A : Option Addr} {l : List Key} (h : w.ownsRow base 50 2 (.slice A l.length c) l.length (flat l)) : l.length ≤ c ∧ Kd.C k50 w A (l.map s50).length (l.map s50) := by
  obtain ⟨A', c', e, hr⟩ := own_reads_row h (reps50 w l) (by simp)
  injection e with e1 e2 e3
  subst e1 e3
  refine ⟨own_le h, ?_⟩
  rw [List.length_map]; exact hr
theorem own_C45 {w : World} {base c : Nat} {A : Option Addr} {l : List Key} (h : w.ownsRow base 45 2 (.slice A l.length c) l.length (flat l)) : l.length ≤ c ∧ Kd.C k45 w A (l.map s45).length (l.map s45) := by
  obtain ⟨A', c', e, hr⟩ := own_reads_row h (reps45 w l) (by simp)
  injection e with e1 e2 e3
  subst e1 e3
  refine ⟨own_le h, ?_⟩
  rw [List.length_map]; exact hr
theorem wrap_succ (i : Nat) (h : i < 9223372036854775807) : wrap64 ((i : Int) + 1) = ((i + 1 : Nat) : Int) := by unfold wrap64; omega
theorem told_l0 (l : List Key) (hl : l.length ≤ 1000000) : ∀ (m i : Nat), i + m = l.length → duetlaw17_Told.l0 (m + 1) (l.map s50) ((l.take i).map s45) (i : Int) = some (l.map s45)
  | 0, i, hi => by
    have c1 : ¬ (i : Int) < (((l.map s50).length : Nat) : Int) := by rw [List.length_map]; omega
    unfold duetlaw17_Told.l0
    rw [if_neg c1, List.take_of_length_le (by omega)]
  | m + 1, i, hi => by
    have hlt : i < l.length := by omega
    have c1 : (i : Int) < (((l.map s50).length : Nat) : Int) := by rw [List.length_map]; omega
    have c3 : ((l.take i).map s45).length < 8796093022208 := by rw [List.length_map, List.length_take]; omega
    have hr : rd_T50 (l.map s50) (i : Int) = s50 l[i] := by
      unfold rd_T50
      rw [Int.toNat_natCast, List.getD_eq_getElem?_getD, List.getElem?_map, List.getElem?_eq_getElem hlt]; rfl
    have ht : (l.take i).map s45 ++ [(⟨(s50 l[i]).f0, (s50 l[i]).f1⟩ : S45)] = (l.take (i + 1)).map s45 := by
      rw [List.take_succ_eq_append_getElem hlt, List.map_append]; rfl
    have hw := wrap_succ i (by omega)
    unfold duetlaw17_Told.l0
    rw [if_pos c1, if_pos (by omega), if_pos c3, hr, ht, hw]
    exact told_l0 l hl m (i + 1) (by omega)
theorem told_calls {W : World} {base c : Nat} {A : Option Addr} {l : List Key} (h : W.ownsRow base 50 2 (.slice A l.length c) l.length (flat l)) (hl : l.length ≤ 1000000) :
    Calls Tryd.prog 12 #[.slice A l.length c] W fun e w' => ∃ A2 c2, e = .returned (.slice A2 l.length c2) ∧ Below W.heap.size W w' ∧ l.length ≤ c2 ∧ Kd.C k45 w' A2 (l.map s45).length (l.map s45) := by
  obtain ⟨hle, hC⟩ := own_C50 h
  have hm : (l.map s50).length = l.length := by simp
  have := duetlaw17_Told.calls (l.length + 1) A c (l.map s50) (l.map s45) W hC (by rw [hm]; exact hle) (told_l0 l hl l.length 0 (by omega))
  rw [hm] at this
  refine this.mono ?_
  rintro e w' ⟨v0, rfl, hR, hB⟩
  obtain ⟨A2, c2, rfl, h1, h2⟩ := Kd.R_reads hR
  rw [List.length_map] at h1
  exact ⟨A2, c2, by rw [List.length_map], hB, h1, h2⟩
theorem same_l0 (l : List Key) (hl : l.length ≤ 1000000) : ∀ (m i : Nat), i + m = l.length → duetref17_Same.l0 (m + 1) (l.map s45) (l.map s45) (i : Int) = some true
  | 0, i, hi => by
    have c1 : ¬ (i : Int) < (((l.map s45).length : Nat) : Int) := by rw [List.length_map]; omega
    unfold duetref17_Same.l0
    rw [if_neg c1]
  | m + 1, i, hi => by
    have c1 : (i : Int) < (((l.map s45).length : Nat) : Int) := by rw [List.length_map]; omega
    have hw := wrap_succ i (by omega)
    unfold duetref17_Same.l0
    rw [if_pos c1, if_pos (by omega), if_pos c1, if_neg (by simp), hw]
    exact same_l0 l hl m (i + 1) (by omega)
theorem drawn_below {w w1 : World} (h : Drawn0 w w1) : Below w.heap.size w w1 := by
  obtain ⟨n, rfl⟩ := h.out
  exact pw_below_drewN (Below.refl _ _) n
theorem same_calls {W : World} {A B : Option Addr} {c d : Nat} {l : List Key} (hl : l.length ≤ 1000000) (h1 : Kd.C k45 W A (l.map s45).length (l.map s45)) (hc : l.length ≤ c) (h2 : Kd.C k45 W B (l.map s45).length (l.map s45)) (hd : l.length ≤ d) :
    Calls Tryd.prog 11 #[.slice A l.length c, .slice B l.length d] W fun e w' => e = .returned (.bool true) ∧ Below W.heap.size W w' := by
  have hm : (l.map s45).length = l.length := by simp
  have := duetref17_Same.calls (l.length + 1) A c (l.map s45) B d (l.map s45) true W h1 (by rw [hm]; exact hc) h2 (by rw [hm]; exact hd) (by
    unfold duetref17_Same.f
    rw [if_pos rfl]
    exact same_l0 l hl l.length 0 (by omega))
  rw [hm] at this
  refine this.mono ?_
  rintro e w' ⟨rfl, hD⟩
  exact ⟨rfl, drawn_below hD⟩
/-- A row that is written out. -/
theorem lit_C45 {W : World} {b : Nat} {l : List Key} (h : W.heap[b]? = some (.cells (flat l).toArray 45 (0, 0))) (hl : l.length ≤ 1000000) : Kd.C k45 W (some ⟨b, 0, none⟩) (l.map s45).length (l.map s45) := by
  have hr := reps45 W l
  refine ⟨rfl, by rw [List.length_map]; omega, fun _ => ⟨⟨b, 0, none⟩, rfl, fun j p hj => ⟨_, ?_, hr.2 j p hj, fun i u hu => ?_⟩⟩⟩
  · have hjl : j < l.length := by
      have := (List.getElem?_eq_some_iff.1 hj).1
      simpa using this
    have := flat_len l
    show ((flat l).drop (j * 2) |>.take 2).length = 2
    rw [List.length_take, List.length_drop]; omega
  · have e : (⟨b, 0, none⟩ : Addr).add (j * 2 + i) = ⟨b, 0 + (j * 2 + i), none⟩ := by simp [Addr.add]; intro x y; omega
    rw [show k45.sz = 2 from rfl, e, blk_cell h, Nat.zero_add]
    rw [List.getElem?_take] at hu
    split at hu
    · rw [List.getElem?_drop] at hu
      simpa using hu
    · cases hu
end Go.Proofs.YtmgdikfgejablaaDoor.Kl
