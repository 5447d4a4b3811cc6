/- ident.Order: the walk, by the sort's contract and those of the other texts. -/
import Derived.Test.YtoaaekgpabnneaaCpt
import Derived.Test.YtoaaekgpabnneaaSrt
import Derived.Test.YtoaaekgpabnneaaCmp
set_option linter.unusedVariables false
set_option linter.unusedSimpArgs false
namespace Go.Proofs.Ytoaaekgpabnneaa.Odr
open Go.Shelf Go.Lib Go.Sort Go.RowKit Go.Proofs.Ytoaaekgpabnneaa.P Go.Proofs.Ytoaaekgpabnneaa.Sta Go.Proofs.Ytoaaekgpabnneaa.Cmp Go.Proofs.Ytoaaekgpabnneaa.Cpt Go.Proofs.YtoaaekgpabnneaaW.PrintWords
instance : Inhabited S23 := ⟨z23⟩
def encI (x : S23) : List Value := [.int .i64 x.f0, .int .i64 x.f1]
def ltI (x y : S23) : Bool := decide (x.f0 < y.f0) || (x.f0 == y.f0 && decide (x.f1 < y.f1))
theorem lt_of_ord (x y : S23) : ltOf ord x y = ltI x y := by
  unfold ltOf ord or2 cmp3 ltI
  by_cases h1 : x.f0 < y.f0
  · simp [h1]
  · by_cases h2 : y.f0 < x.f0
    · have : ¬ x.f0 = y.f0 := by omega
      simp [h1, h2, this]
    · have : x.f0 = y.f0 := by omega
      simp only [h1, h2, if_false, if_true, this]
      by_cases h3 : x.f1 < y.f1
      · simp [h3]
      · by_cases h4 : y.f1 < x.f1 <;> simp [h3, h4]
theorem strict : Ord.Strict ltI where
  irr a := by simp [ltI]
  tr a b c h1 h2 := by simp [ltI] at *; omega
  tri a b h1 h2 := by
    have e : a.f0 = b.f0 ∧ a.f1 = b.f1 := by simp [ltI] at *; omega
    cases a; cases b; simp at e; simp [e]
theorem swo : SWO (ltOf ord) where
  irrefl x := by rw [lt_of_ord]; simp [ltI]
  trans x y z h1 h2 := by rw [lt_of_ord] at *; simp [ltI] at *; omega
  ntrans x y z h1 h2 := by rw [lt_of_ord] at *; simp [ltI] at *; omega
theorem flatK_flat (l : List S23) : flatK encI 2 l.toArray = (flat l).toArray := by
  refine ext_get! (by simp [flat_length]) fun t ht => ?_
  have ht' : t < l.length * 2 := by simpa using ht
  rw [get_flatK _ _ _ _ (by simpa using ht')]
  have hi : t / 2 < l.length := by omega
  have hf := flat_at l [] (t / 2) hi
  rw [List.append_nil] at hf
  have e : l.toArray[t / 2]! = l[t / 2] := by simp [hi]
  rw [e]
  have g : (flat l).toArray[t]! = ((flat l)[t]?).getD default := by simp
  rw [g]
  rcases Nat.mod_two_eq_zero_or_one t with hm | hm
  · rw [hm]
    have hj2 : t / 2 * 2 = t := by omega
    rw [hj2] at hf
    rw [hf.1]; rfl
  · rw [hm]
    have hj2 : t / 2 * 2 + 1 = t := by omega
    rw [hj2] at hf
    rw [hf.2]; rfl
theorem holdsK {w : World} {g : Nat} {l : List S23} {r : List Value} (h : Cpt.Holds w g l r) : HoldsK encI 2 w g 0 l.toArray := by
  unfold HoldsK
  rw [flatK_flat]
  intro j hj
  have hj' : j < (flat l).length := by simpa using hj
  rw [Nat.zero_add]
  refine ⟨?_, h.fr _⟩
  rw [blk_cell h]
  simp [List.getElem?_append_left hj', List.getElem?_eq_getElem hj', hj']
theorem flat_putCells (l l' : List S23) (r : List Value) (hl : l'.length = l.length) : putCells id 0 (flatK encI 2 l'.toArray) (flat l ++ r).toArray = (flat l' ++ r).toArray := by
  rw [flatK_flat]
  have a := flat_length l
  have b := flat_length l'
  apply Array.ext_getElem?
  intro k
  unfold putCells
  rw [Array.getElem?_mapIdx]
  simp only [List.getElem?_toArray, Nat.zero_le, true_and, Nat.zero_add, Nat.sub_zero, List.size_toArray, id]
  by_cases hk : k < l.length * 2
  · have h1 : k < (flat l).length := by omega
    have h2 : k < (flat l').length := by omega
    rw [List.getElem?_append_left h1, List.getElem?_append_left h2, List.getElem?_eq_getElem h1, List.getElem?_eq_getElem h2]
    simp [h2]
  · rw [List.getElem?_append_right (by omega), List.getElem?_append_right (by omega)]
    have h2 : ¬ k < (flat l').length := by omega
    rw [a, b, hl]
    cases r[k - l.length * 2]? with
    | none => rfl
    | some u => simp [h2]; intro h; omega
theorem sort_world {w : World} {g : Nat} {l l' : List S23} {r : List Value} (h : Cpt.Holds w g l r) (hl : l'.length = l.length) (n : Nat) (os : Array Obj) : Cpt.Holds (sortWorldK encI 2 w g 0 n l'.toArray os) g l' r ∧ But g w (sortWorldK encI 2 w g 0 n l'.toArray os) := by
  have hlt := h.lt
  unfold sortWorldK putRowK putRow mapBlock Sort.ahead
  refine ⟨?_, rfl, rfl, rfl, by simp [Sort.grow], fun k hk hlk => ?_⟩
  · unfold Cpt.Holds Sort.grow
    show ((w.heap.modify g _) ++ os)[g]? = _
    rw [Array.getElem?_append_left (by simpa using hlt), Array.getElem?_modify, if_pos rfl, show w.heap[g]? = _ from h]
    simp only [Option.map_some, onCells, flat_putCells l l' r hl]
  · unfold Sort.grow
    show ((w.heap.modify g _) ++ os)[k]? = _
    rw [Array.getElem?_append_left (by simpa using hlk), Array.getElem?_modify, if_neg (fun e => hk e.symm)]
theorem Sort_calls (g cap : Nat) (l : List S23) (r : List Value) (w : World) (h : Cpt.Holds w g l r) (hsz : l.length < 4611686018427387904) :
    Calls Try.prog 29 #[.slice (some ⟨g, 0, none⟩) l.length cap, .func (.func 26) #[] #[]] w fun e w' => e = .returned (.tuple #[]) ∧ Cpt.Holds w' g (Ord.sorted ltI l) r ∧ But g w w' := by
  have eg : ∀ args w, (callFunc 26 args).run Try.prog w = .ok (.enter 26 args) w := enters_of Try.func26 (by kernel_rfl) rfl
  have hcmp : CmpLays Try.prog 26 #[] encI 2 ord g 0 l.toArray.size w := fun _ _ _ _ x y => order_calls x y _
  have hcon := AnyQ.slices_SortFunc_total Try.sortId 2 Try.isAgg23 Try.sizeOf23 encI (fun _ => rfl) (fun x v hv => by simp [encI] at hv; rcases hv with rfl | rfl <;> rfl) ord swo 26 #[] g 0 cap l.toArray w eg hcmp (holdsK h) h.lt (by simpa using hsz) (fun x y h1 h2 => by rw [lt_of_ord] at h1 h2; exact strict.tri x y h1 h2)
  change Calls Try.prog 29 _ _ _ at hcon
  have hs : (l.toArray.toList.mergeSort fun x y => !(ltOf ord) y x) = Ord.sorted ltI l := by
    unfold Ord.sorted
    congr 1
    funext x y
    rw [lt_of_ord]
  rw [hs] at hcon
  refine hcon.mono ?_
  rintro e w' ⟨rfl, n, os, rfl⟩
  have hl : (Ord.sorted ltI l).length = l.length := List.length_mergeSort l
  exact ⟨rfl, sort_world h hl n os⟩
theorem compact_le (l : List S23) : (Ord.compact l).length ≤ l.length := Ord.compact_len l
set_option maxHeartbeats 1000000 in
theorem Order_calls (ad : Addr) (c : Nat) (l : List S23) (w : World) (h : Kd.C k23 w (some ad) l.length l) (hb : l.length * 16 ≤ 140737488351232) :
    Calls Try.prog 14 #[.slice (some ad) l.length c] w fun e w' => ∃ g cap r, e = .returned (.slice (some ⟨g, 0, none⟩) (Ord.orderL ltI l).length cap) ∧ Cpt.Holds w' g (Ord.orderL ltI l) r ∧ w.heap.size ≤ g ∧ (flat (Ord.orderL ltI l) ++ r).length = cap * 2 ∧ cap ≤ maxLen ∧ (Ord.orderL ltI l).length ≤ cap ∧ Below w.heap.size w w' := by
  have hm : l.length ≤ maxLen := by unfold maxLen; omega
  have hsl : (Ord.sorted ltI l).length = l.length := List.length_mergeSort l
  have hol : (Ord.orderL ltI l).length ≤ l.length := by
    have := compact_le (Ord.sorted ltI l)
    unfold Ord.orderL; omega
  have HS := Lib.hid hsl
  have HO := Lib.hid hol
  clear hsl hol
  by_cases h2 : l.length < 2
  · have hsame : Ord.orderL ltI l = Ord.sorted ltI l := by
      unfold Ord.orderL
      have := HS.out
      cases hs : Ord.sorted ltI l with
      | nil => rfl
      | cons x m =>
        rw [hs] at this
        cases m with
        | nil => rfl
        | cons y m => simp at this; omega
    have HE := Lib.hid hsame
    clear hsame
    go_enter Try.func14, Try.ntmps14
    go_wp2_with (first
      | (go_at_call 28; refine (Clone_calls ad c l _ h hb).mono ?_; rintro e w1 ⟨g, cap, r, rfl, hH1, hg, hcl, hcm, hB1⟩)
      | (go_at_call 29; with_reducible refine (Sort_calls g cap l r _ hH1 (by omega)).mono ?_; rintro e w2 ⟨rfl, hH2, hB2⟩)
      | (go_at_call 30; with_reducible refine (Compact_small _ _ _ h2 _).mono ?_; rintro e w3 ⟨rfl, rfl⟩))
    go_ret
    have hfl := flat_length l
    have hfl2 := flat_length (Ord.sorted ltI l)
    refine ⟨g, cap, r, by rw [HE.out, HS.out]; rfl, by rw [HE.out]; exact hH2, hg, ?_, hcm, ?_, But.out hB1 hg hB2⟩
    · rw [HE.out, List.length_append, hfl2, HS.out]; simpa [hfl] using hcl
    · have := HO.out
      rw [List.length_append, hfl] at hcl
      omega
  · go_enter Try.func14, Try.ntmps14
    go_wp2_with (first
      | (go_at_call 28; refine (Clone_calls ad c l _ h hb).mono ?_; rintro e w1 ⟨g, cap, r, rfl, hH1, hg, hcl, hcm, hB1⟩)
      | (go_at_call 29; with_reducible refine (Sort_calls g cap l r _ hH1 (by omega)).mono ?_; rintro e w2 ⟨rfl, hH2, hB2⟩; have hcp := Compact_calls g cap (Ord.sorted ltI l) r w2 hH2 (by rw [HS.out]; omega) (by have h5 := flat_length l; rw [List.length_append, h5] at hcl; rw [HS.out]; omega) hcm; rw [HS.out] at hcp)
      | (go_at_call 30; with_reducible refine hcp.mono ?_; rintro e w3 ⟨r', rfl, hH3, hfl3, hB3⟩))
    go_ret
    have hfl := flat_length l
    have hfl2 := flat_length (Ord.sorted ltI l)
    refine ⟨g, cap, r', rfl, hH3, hg, ?_, hcm, ?_, But.out (But.out hB1 hg hB2) hg hB3⟩
    · show (flat (Ord.compact (Ord.sorted ltI l)) ++ r').length = _
      rw [hfl3, List.length_append, hfl2, HS.out]; simpa [hfl] using hcl
    · have := HO.out
      rw [List.length_append, hfl] at hcl
      omega
end Go.Proofs.Ytoaaekgpabnneaa.Odr
