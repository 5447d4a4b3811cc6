/- So many signs 20 to 7e take as many cells, and so many of them fit; of at most 200 bytes. -/
import Derived.Test.YtmhnldlfknbocaaDoorPx3
import Derived.Test.YtmhnldlfknbocaaDoorLem
set_option linter.unusedVariables false
set_option linter.unusedSimpArgs false
namespace Go.Proofs.YtmhnldlfknbocaaDoor.Pure
open Go.RowKit Go.Proofs.YtmhnldlfknbocaaDoor.P Go.Proofs.YtmhnldlfknbocaaDoor.Lem Go.Proofs.YtmhnldlfknbocaaDoor.Giv Go.Proofs.YtmhnldlfknbocaaDoorW.PrintWords Go.Proofs.YtmhnldlfknbocaaDoorW.PrintLast Go.Proofs.YtmhnldlfknbocaaDoorW.PrintMore
theorem width_plain (n : Int) (h : 32 ≤ n ∧ n ≤ 126) : widthN n = 1 := by
  have h1 := mt (has_none n).1 (by omega)
  have h2 := mt (has_wide n).1 (by omega)
  unfold widthN
  rw [if_neg (fun x => x.elim (by omega) fun x => x.elim (by omega) h1), if_neg h2]
theorem total_plain (l : List Int) (h : ∀ x ∈ l, 32 ≤ x ∧ x ≤ 126) : totalN l = l.length := by
  induction l with
  | nil => rfl
  | cons n l ih =>
    simp only [totalN, List.length_cons]
    rw [width_plain n (h n (by simp)), ih (fun x hx => h x (by simp [hx]))]; omega
theorem fit_plain (l : List Int) (h : ∀ x ∈ l, 32 ≤ x ∧ x ≤ 126) (most : Int) (hm : 0 ≤ most) : fitN l most = min most.toNat l.length := by
  obtain ⟨f1, f2, f3⟩ := fit_fits l most hm
  have ht : ∀ j, totalN (l.take j) = (l.take j).length := fun j => total_plain _ fun x hx => h x (List.mem_of_mem_take hx)
  rw [ht, List.length_take] at f2
  rcases Nat.lt_or_ge (fitN l most) l.length with hlt | hge
  · have := f3 (fitN l most + 1) (by omega) (by omega)
    rw [ht, List.length_take] at this
    omega
  · omega
theorem CellsPlain : duetlaw20_CellsPlain.Pure := by
  intro s most hs hm
  refine ⟨1001, ?_⟩
  have dead : duetlaw20_CellsPlain.j0 1001 s most true = some true := by
    rw [duetlaw20_CellsPlain.j0, if_pos rfl, live_f 1000 (by omega), Option.bind_some]
  unfold duetlaw20_CellsPlain.f
  by_cases h : (s.size : Int) > 200
  · rw [if_pos h]; exact dead
  · rw [if_neg h]
    by_cases h2 : most < 0
    · rw [decide_eq_true h2]; exact dead
    · rw [decide_eq_false h2, duetlaw20_CellsPlain.j0, if_neg (by simp)]
      have loop : ∀ (d K i : Nat) (l : List Int), i + d = s.size → d + 400 ≤ K → l.length = i → (∀ x ∈ l, 32 ≤ x ∧ x ≤ 126) → duetlaw20_CellsPlain.l0 K s most l (i : Int) = some true := by
        intro d
        induction d with
        | zero =>
          intro K i l hi hK hl hx
          obtain ⟨K, rfl⟩ : ∃ m, K = m + 1 := ⟨K - 1, by omega⟩
          have ht := total_plain l hx
          have hf := fit_plain l hx most (by omega)
          rw [duetlaw20_CellsPlain.l0, if_neg (by omega), Fit_f l (by omega) most (by omega) K (by omega), Option.bind_some, Total_f l (by omega) K (by omega), Option.bind_some, if_pos (by omega), hf, total_plain _ (fun x h => hx x (List.mem_of_mem_take h)), if_pos (by unfold mn; simp only []; split <;> omega),
            if_pos (by rw [List.length_take]; omega), live_f K (by omega), Option.bind_some]
        | succ d ih =>
          intro K i l hi hK hl hx
          obtain ⟨K, rfl⟩ : ∃ m, K = m + 1 := ⟨K - 1, by omega⟩
          have hr := bt_range s (i : Int)
          rw [duetlaw20_CellsPlain.l0, if_pos (by omega), if_pos (by omega)]
          by_cases c1 : bt s (i : Int) < 32
          · rw [if_pos c1, live_f K (by omega), Option.bind_some]
          · rw [if_neg c1]
            by_cases c2 : bt s (i : Int) > 126
            · rw [if_pos c2, live_f K (by omega), Option.bind_some]
            · rw [if_neg c2, if_pos (by omega), show wrap64 ((i : Int) + 1) = ((i + 1 : Nat) : Int) by unfold wrap64; omega, show wrap64 (bt s (i : Int)) = bt s (i : Int) by unfold wrap64; omega]
              refine ih K (i + 1) _ (by omega) (by omega) (by simp [hl]) ?_
              intro x hx2
              rcases List.mem_append.1 hx2 with h3 | h3
              · exact hx x h3
              · rw [List.mem_singleton] at h3; omega
      exact loop s.size 1000 0 [] (by omega) (by omega) rfl (fun x h => by cases h)

end Go.Proofs.YtmhnldlfknbocaaDoor.Pure
