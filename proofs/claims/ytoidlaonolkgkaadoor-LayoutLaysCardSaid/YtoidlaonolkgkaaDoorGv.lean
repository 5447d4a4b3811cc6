/- Lay, Text, Check as contracts in the printed functions' form. -/
import Derived.Test.YtoidlaonolkgkaaDoorGk
import Derived.Test.YtoidlaonolkgkaaDoorGf
import Derived.Test.YtoidlaonolkgkaaDoorGb
set_option linter.unusedVariables false
set_option linter.unusedSimpArgs false
namespace Go.Proofs.YtoidlaonolkgkaaDoor.P
open Go.RowKit Go.Proofs.YtoidlaonolkgkaaDoor.Giv Go.Proofs.YtoidlaonolkgkaaDoor.Gr Go.Proofs.YtoidlaonolkgkaaDoor.Gl Go.Proofs.YtoidlaonolkgkaaDoor.Gn Go.Proofs.YtoidlaonolkgkaaDoor.Gy Go.Proofs.YtoidlaonolkgkaaDoor.Gz Go.Proofs.YtoidlaonolkgkaaDoor.Gb Go.Proofs.YtoidlaonolkgkaaDoorW.PrintWords Go.Proofs.YtoidlaonolkgkaaDoorW.PrintLast Go.Proofs.YtoidlaonolkgkaaDoor.P Go.Proofs.YtoidlaonolkgkaaDoor.Gc Go.Proofs.YtoidlaonolkgkaaDoor.Gd Go.Proofs.YtoidlaonolkgkaaDoor.Ge Go.Proofs.YtoidlaonolkgkaaDoor.Gf Go.Proofs.YtoidlaonolkgkaaDoor.Gk
instance (width caret : Int) (a b o : Nat) : Decidable (badArgs width caret a b o) := by unfold badArgs; infer_instance
/-- What the loops leave: the pen, and the caret's place. -/
def finL (width : Nat) (ps ls : List Int) (caret : Int) (os : List Int) : LS × (Nat × Nat) := lineL width caret os 0 (runL width st0 ps, (0, 0)) ls
def layout_Lay.f (a0 : Int) (l1 l2 : List Int) (a3 : Int) (l4 : List Int) : Option (List (List S47) × Int × Int × Int) :=
  if badArgs a0 a3 l1.length l2.length l4.length then some ([], 0, 0, 1)
  else if 200 < (finL a0.toNat l1 l2 a3 l4).1.n then some ([], 0, 0, 5)
  else some (gridL a0.toNat (finL a0.toNat l1 l2 a3 l4).1.n (finL a0.toNat l1 l2 a3 l4).1.G, ((finL a0.toNat l1 l2 a3 l4).2.1 : Int), ((finL a0.toNat l1 l2 a3 l4).2.2 : Int), 0)
theorem layout_Lay.calls (a0 : Int) (A1 : Option Addr) (c1 : Nat) (l1 : List Int) (A2 : Option Addr) (c2 : Nat) (l2 : List Int) (a3 : Int) (A4 : Option Addr) (c4 : Nat) (l4 : List Int) (r0 : List (List S47)) (r1 r2 r3 : Int) (w : World) (hL : Laid w)
    (hr1 : Kd.C (Kd.int .i64) w A1 l1.length l1) (hc1 : l1.length ≤ c1) (hr2 : Kd.C (Kd.int .i64) w A2 l2.length l2) (hc2 : l2.length ≤ c2) (hr4 : Kd.C (Kd.int .i64) w A4 l4.length l4) (hc4 : l4.length ≤ c4) (h : layout_Lay.f a0 l1 l2 a3 l4 = some (r0, r1, r2, r3)) :
    Calls Tryd.prog 10 #[.int .i64 a0, .slice A1 l1.length c1, .slice A2 l2.length c2, .int .i64 a3, .slice A4 l4.length c4] w fun e w' => ∃ v0_ : Value, e = .returned (.tuple #[.agg #[v0_, .int .i64 r1, .int .i64 r2], .int .i64 r3]) ∧ Kd.S (Kd.slice 47 k47) 45 w' w.heap.size (fun _ => True) v0_ r0 ∧ Below w.heap.size w w' := by
  unfold layout_Lay.f at h
  split at h
  · rename_i hb
    simp only [Option.some.injEq, Prod.mk.injEq] at h
    obtain ⟨rfl, rfl, rfl, rfl⟩ := h
    refine (lay_bad a0 a3 A1 A2 A4 c1 c2 c4 _ _ _ w hb).mono ?_
    rintro e w' ⟨rfl, hB⟩
    exact ⟨_, rfl, Kd.S_nil _ _ _ _ _, hB⟩
  · rename_i hb
    unfold badArgs at hb
    obtain ⟨wd, rfl⟩ : ∃ k : Nat, a0 = (k : Int) := ⟨a0.toNat, by omega⟩
    obtain ⟨ct, rfl⟩ : ∃ k : Nat, a3 = (k : Int) := ⟨a3.toNat, by omega⟩
    refine (lay_ok wd ct A1 A2 A4 c1 c2 c4 l1 l2 l4 w hL hr1 hr2 hr4 hc2 hc4 (by omega) (by omega) (by omega) (by omega) (by omega) (by omega)).mono ?_
    rintro e w' ⟨hB, hp⟩
    rw [Int.toNat_natCast] at h
    change if 200 < (finL wd l1 l2 ct l4).1.n then _ else _ at hp
    split at h
    · rename_i hn
      rw [if_pos hn] at hp
      simp only [Option.some.injEq, Prod.mk.injEq] at h
      obtain ⟨rfl, rfl, rfl, rfl⟩ := h
      exact ⟨_, hp, Kd.S_nil _ _ _ _ _, hB⟩
    · rename_i hn
      rw [if_neg hn] at hp
      simp only [Option.some.injEq, Prod.mk.injEq] at h
      obtain ⟨rfl, rfl, rfl, rfl⟩ := h
      obtain ⟨bs, v, he, hg⟩ := hp
      exact ⟨v, he, grid_S hg (by omega), hB⟩
def layout_Check.f (l0 : List (List S47)) (a1 a2 a3 : Int) : Option Int := if l0.length ≤ 1000000 ∧ ∀ r ∈ l0, r.length ≤ 1000000 then some (checkN l0 a1 a2 a3) else none
theorem layout_Check.calls (A0 : Option Addr) (c0 : Nat) (l0 : List (List S47)) (a1 a2 a3 : Int) (r : Int) (w : World) (hL : Laid w) (hr0 : Kd.C (Kd.slice 47 k47) w A0 l0.length l0) (hc0 : l0.length ≤ c0) (h : layout_Check.f l0 a1 a2 a3 = some r) :
    Calls Tryd.prog 17 #[.agg #[.slice A0 l0.length c0, .int .i64 a1, .int .i64 a2], .int .i64 a3] w fun e w' => e = .returned (.int .i64 r) ∧ Below w.heap.size w w' := by
  unfold layout_Check.f at h
  split at h
  · rename_i hb
    obtain rfl := Option.some.inj h
    exact check_calls A0 c0 l0 a1 a2 a3 w hL hr0 hb.1 hb.2
  · cases h
def layout_Text.f (l0 : List (List S47)) (a1 a2 : Int) : Option (List ByteArray) := if l0.length ≤ 1000 ∧ ∀ r ∈ l0, r.length ≤ 1000 then some (pageT l0) else none
theorem strs_R {w w' : World} {v : Value} {l : List ByteArray} (h : TS w w' v l) : Kd.R Kd.string 9 w' w.heap.size (fun _ => True) v l := by
  refine ⟨fun _ _ => trivial, _, h.row, by rw [List.length_map]; show l.length = l.length * 1; omega, fun j p hj => ?_⟩
  have hlt := (List.getElem?_eq_some_iff.1 hj).1
  show (((l.map Value.string).drop (j * 1)).take 1) = [.string p]
  rw [Nat.mul_one, List.drop_eq_getElem_cons (by rw [List.length_map]; exact hlt), List.getElem_map]
  rw [List.getElem?_eq_getElem hlt] at hj
  rw [Option.some.inj hj]; rfl
theorem layout_Text.calls (A0 : Option Addr) (c0 : Nat) (l0 : List (List S47)) (a1 a2 : Int) (r : List ByteArray) (w : World) (hr0 : Kd.C (Kd.slice 47 k47) w A0 l0.length l0) (hc0 : l0.length ≤ c0) (h : layout_Text.f l0 a1 a2 = some r) :
    Calls Tryd.prog 14 #[.agg #[.slice A0 l0.length c0, .int .i64 a1, .int .i64 a2]] w fun e w' => ∃ v0_ : Value, e = .returned v0_ ∧ Kd.R Kd.string 9 w' w.heap.size (fun _ => True) v0_ r ∧ Below w.heap.size w w' := by
  unfold layout_Text.f at h
  split at h
  · rename_i hb
    obtain rfl := Option.some.inj h
    refine (text_calls A0 c0 l0 a1 a2 w hr0 hb.1 hb.2).mono ?_
    rintro e w' ⟨v, rfl, hT⟩
    exact ⟨v, rfl, strs_R hT, hT.bel⟩
  · cases h
end Go.Proofs.YtoidlaonolkgkaaDoor.P
