/- isRow: the walk. -/
import Derived.Test.YtoidlaonolkgkaaDoorGn
import Derived.Test.YtoidlaonolkgkaaDoorPx0
set_option linter.unusedVariables false
set_option linter.unusedSimpArgs false
namespace Go.Proofs.YtoidlaonolkgkaaDoor.Gc
open Go.RowKit Go.Proofs.YtoidlaonolkgkaaDoor.Giv Go.Proofs.YtoidlaonolkgkaaDoor.Gr Go.Proofs.YtoidlaonolkgkaaDoor.Gl Go.Proofs.YtoidlaonolkgkaaDoor.Gn Go.Proofs.YtoidlaonolkgkaaDoorW.PrintWords Go.Proofs.YtoidlaonolkgkaaDoorW.PrintLast Go.Proofs.YtoidlaonolkgkaaDoor.P
/-- A cell that may not be, behind an open one (o) whose mark is pm. -/
def cellBad (o pm : Bool) (c : S47) : Bool := (o != (c.f0 == -1)) || (!o && c.f0 != 0 && widthN c.f0 == 0) || (o && c.f1 != pm)
def rowGo : Bool → Bool → List S47 → Bool
  | o, _, [] => !o
  | o, pm, c :: l => if cellBad o pm c = true then false else rowGo (widthN c.f0 == 2) c.f1 l
def rowOK (width : Int) (row : List S47) : Bool := (row.length : Int) == width && rowGo false false row
theorem rd47 (xs : List S47) (i : Nat) (h : i < xs.length) : rd_T47 xs (i : Int) = xs[i] := by unfold rd_T47; rw [Int.toNat_natCast, List.getD_eq_getElem?_getD, List.getElem?_eq_getElem h]; rfl
set_option maxHeartbeats 4000000 in
set_option maxRecDepth 100000 in
theorem row_calls (A : Option Addr) (c : Nat) (row : List S47) (width : Int) (w : World) (hL : Laid w) (hC : Kd.C k47 w A row.length row) (hl : row.length ≤ 1000000) :
    Calls Tryd.prog 36 #[.slice A row.length c, .int .i64 width] w fun e w' => e = .returned (.bool (rowOK width row)) ∧ Below w.heap.size w w' := by
  have HL := Lib.hid hL
  have HC := Lib.hid hC
  clear hL hC
  by_cases hlen : (row.length : Int) = width
  · have e0 : (((row.length : Int)) == width) = true := by simp [hlen]
    have e0' : (((row.length : Int)) != width) = false := by simp [hlen]
    have HR : Hid (rowOK width row = rowGo false false row) := Lib.hid (by unfold rowOK; rw [e0, Bool.true_and])
    clear hlen
    go_enter Tryd.func36, Tryd.ntmps36
    go_upto_region 5 with fail
    go_loopw [5, 15] (fun v5 v15 wr => ∃ (k : Nat) (o pm : Bool), v5 = .bool o ∧ v15 = .int .i64 k ∧ k ≤ row.length ∧ (o = true → 0 < k) ∧ Hid (rowGo o pm (row.drop k) = rowGo false false row ∧ (0 < k → (rd_T47 row ((k : Int) - 1)).f1 = pm)) ∧ Hid (Below w.heap.size w wr)) (fun _ v15 _ => row.length - (intOf v15).toNat)
    case atStart => exact ⟨0, false, false, rfl, rfl, Nat.zero_le _, (fun h => by cases h), Lib.hid ⟨rfl, fun h => absurd h (Nat.lt_irrefl 0)⟩, Lib.hid (Below.refl _ _)⟩
    case round =>
      obtain ⟨k, o, pm, rfl, rfl, hk, ho, HG, HB⟩ := hrel
      by_cases hlt : k < row.length
      · obtain ⟨ad, rfl, cw, cm⟩ := at_T47 (Kd.C_below HC.out HB.out) (k : Int) (by omega) (by omega)
        rw [rd47 row k hlt, Int.toNat_natCast] at cw cm
        have HT : Hid (row.drop k = row[k] :: row.drop (k + 1) ∧ rd_T47 row (k : Int) = row[k]) := Lib.hid ⟨List.drop_eq_getElem_cons hlt, rd47 row k hlt⟩
        generalize row[k] = x at cw cm HT
        obtain ⟨x0, x1⟩ := x
        dsimp only at cw cm
        have hW := fun W h => width_calls x0 W h
        have hbx := below_alloc (Below.refl wr.heap.size wr) (Obj.cells #[Value.int IntKind.i64 x0, Value.bool x1] 47)
        go_upto_region 8 with (go_at_call 38; go_loud (refine (hW _ (HL.out.below (HB.out.trans (Below.alloc (Below.refl _ _) HB.out.size _)))).mono ?_; rintro e w2 ⟨rfl, hB2⟩))
        have hbn := hB2.block wr.heap.size (by simp)
        have hbc := hbn.trans (heap_alloc_new wr (Obj.cells #[Value.int IntKind.i64 x0, Value.bool x1] 47))
        have z0 : w2.cell? ⟨wr.heap.size, 0, none⟩ = some (.int .i64 x0) := by rw [blk_cell hbc]; rfl
        have z1 : w2.cell? ⟨wr.heap.size, 1, none⟩ = some (.bool x1) := by rw [blk_cell hbc]; rfl
        clear hbn hbc
        cases o with
        | false =>
          by_cases q : x0 = -1
          · have e1 : (x0 == -1) = true := by simp [q]
            have CB : cellBad false pm ⟨x0, x1⟩ = true := by unfold cellBad; simp only [e1]; rfl
            clear q
            have HF : Hid (rowOK width row = false) := Lib.hid (by rw [HR.out, ← HG.out.1, HT.out.1, rowGo, if_pos CB]; try rfl)
            clear CB HG HT
            go_region
            all_goals
              go_wp2
              go_ret
              rw [HF.out]
              exact ⟨rfl, (below_then' HB.out (below_then' hbx (below_drew hB2)))⟩

          · have e1 : (x0 == -1) = false := by simp [q]
            by_cases q0 : x0 = 0
            · have e2 : (x0 == 0) = true := by simp [q0]
              have e2' : (x0 != 0) = false := by simp [q0]
              have CB : cellBad false pm ⟨x0, x1⟩ = false := by unfold cellBad; simp only [e1, bne, e2]; rfl
              clear q q0
              have HF : Hid (rowGo (widthN x0 == 2) x1 (row.drop (k + 1)) = rowGo false false row) := Lib.hid (by rw [← HG.out.1, HT.out.1, rowGo, if_neg (by rw [CB]; decide)])
              have HM : Hid ((rd_T47 row (((k + 1 : Nat) : Int) - 1)).f1 = x1) := Lib.hid (by rw [show ((k + 1 : Nat) : Int) - 1 = (k : Int) by omega, HT.out.2])
              clear CB HG HT
              go_region
              all_goals
                have HBn := Lib.hid (below_then' HB.out (below_then' hbx (below_drew hB2)))
                go_wp2
                go_roundw
                case rel => first | exact ⟨k + 1, widthN x0 == 2, x1, rfl, by go_num, by omega, fun _ => by omega, Lib.hid ⟨HF.out, fun _ => HM.out⟩, HBn⟩ | repeat (first | (refine And.intro ?_ rfl; exact ⟨k + 1, widthN x0 == 2, x1, rfl, by go_num, by omega, fun _ => by omega, Lib.hid ⟨HF.out, fun _ => HM.out⟩, HBn⟩) | apply Exists.intro)
                case measure => simp [intOf]; omega

            · have e2 : (x0 == 0) = false := by simp [q0]
              have e2' : (x0 != 0) = true := by simp [q0]
              by_cases q2 : widthN x0 = 0
              · have e3 : (widthN x0 == 0) = true := by simp [q2]
                have CB : cellBad false pm ⟨x0, x1⟩ = true := by unfold cellBad; simp only [e1, bne, e2, e3]; rfl
                clear q q0 q2
                have HF : Hid (rowOK width row = false) := Lib.hid (by rw [HR.out, ← HG.out.1, HT.out.1, rowGo, if_pos CB]; try rfl)
                clear CB HG HT
                go_region
                all_goals
                  go_wp2
                  go_ret
                  rw [HF.out]
                  exact ⟨rfl, (below_then' HB.out (below_then' hbx (below_drew hB2)))⟩

              · have e3 : (widthN x0 == 0) = false := by simp [q2]
                have CB : cellBad false pm ⟨x0, x1⟩ = false := by unfold cellBad; simp only [e1, bne, e2, e3]; rfl
                clear q q0 q2
                have HF : Hid (rowGo (widthN x0 == 2) x1 (row.drop (k + 1)) = rowGo false false row) := Lib.hid (by rw [← HG.out.1, HT.out.1, rowGo, if_neg (by rw [CB]; decide)])
                have HM : Hid ((rd_T47 row (((k + 1 : Nat) : Int) - 1)).f1 = x1) := Lib.hid (by rw [show ((k + 1 : Nat) : Int) - 1 = (k : Int) by omega, HT.out.2])
                clear CB HG HT
                go_region
                all_goals
                  have HBn := Lib.hid (below_then' HB.out (below_then' hbx (below_drew hB2)))
                  go_wp2
                  go_roundw
                  case rel => first | exact ⟨k + 1, widthN x0 == 2, x1, rfl, by go_num, by omega, fun _ => by omega, Lib.hid ⟨HF.out, fun _ => HM.out⟩, HBn⟩ | repeat (first | (refine And.intro ?_ rfl; exact ⟨k + 1, widthN x0 == 2, x1, rfl, by go_num, by omega, fun _ => by omega, Lib.hid ⟨HF.out, fun _ => HM.out⟩, HBn⟩) | apply Exists.intro)
                  case measure => simp [intOf]; omega

        | true =>
          by_cases q : x0 = -1
          · have e1 : (x0 == -1) = true := by simp [q]
            obtain ⟨j, hj⟩ : ∃ j, k = j + 1 := ⟨k - 1, by have := ho rfl; omega⟩
            have hkj : (k : Int) - 1 = (j : Int) := by omega
            have hkw : IntKind.i64.wrap ((j : Int)) = (j : Int) := by rw [IntKind.wrap_i64]; omega
            obtain ⟨ad2, had, _, cp⟩ := at_T47 (Kd.C_below HC.out (HB.out.trans (Below.trans (Below.alloc (Below.refl _ _) HB.out.size _) ⟨hB2.os, hB2.tape, hB2.output, hB2.size, fun i hi => hB2.block i (by simp; have := HB.out.size; omega)⟩))) (j : Int) (by omega) (by omega)
            obtain rfl := Option.some.inj had
            have hpm := HG.out.2 (by omega)
            rw [hkj] at hpm
            rw [hpm, Int.toNat_natCast] at cp
            have HJ := Lib.hid hj
            have hj0 : (0 : Int) ≤ (j : Int) := by omega
            have hj1 : (j : Int) < (row.length : Int) := by omega
            clear hj had hpm
            by_cases q2 : x1 = pm
            · have e3 : (x1 == pm) = true := by simp [q2]
              have e3' : (x1 != pm) = false := by simp [q2]
              have CB : cellBad true pm ⟨x0, x1⟩ = false := by unfold cellBad; simp only [e1, bne, e3]; rfl
              clear q q2
              have HF : Hid (rowGo (widthN x0 == 2) x1 (row.drop (k + 1)) = rowGo false false row) := Lib.hid (by rw [← HG.out.1, HT.out.1, rowGo, if_neg (by rw [CB]; decide)])
              have HM : Hid ((rd_T47 row (((k + 1 : Nat) : Int) - 1)).f1 = x1) := Lib.hid (by rw [show ((k + 1 : Nat) : Int) - 1 = (k : Int) by omega, HT.out.2])
              clear CB HG HT
              go_region
              all_goals
                have HBn := Lib.hid (below_then' HB.out (below_then' hbx (below_drew hB2)))
                go_wp2
                go_roundw
                case rel => first | exact ⟨k + 1, widthN x0 == 2, x1, rfl, by go_num, by omega, fun _ => by omega, Lib.hid ⟨HF.out, fun _ => HM.out⟩, HBn⟩ | repeat (first | (refine And.intro ?_ rfl; exact ⟨k + 1, widthN x0 == 2, x1, rfl, by go_num, by omega, fun _ => by omega, Lib.hid ⟨HF.out, fun _ => HM.out⟩, HBn⟩) | apply Exists.intro)
                case measure => simp [intOf]; omega

            · have e3 : (x1 == pm) = false := by simp [q2]
              have e3' : (x1 != pm) = true := by simp [q2]
              have CB : cellBad true pm ⟨x0, x1⟩ = true := by unfold cellBad; simp only [e1, bne, e3]; rfl
              clear q q2
              have HF : Hid (rowOK width row = false) := Lib.hid (by rw [HR.out, ← HG.out.1, HT.out.1, rowGo, if_pos CB]; try rfl)
              clear CB HG HT
              go_region
              all_goals
                go_wp2
                go_ret
                rw [HF.out]
                exact ⟨rfl, (below_then' HB.out (below_then' hbx (below_drew hB2)))⟩

          · have e1 : (x0 == -1) = false := by simp [q]
            have CB : cellBad true pm ⟨x0, x1⟩ = true := by unfold cellBad; simp only [e1]; rfl
            clear q
            have HF : Hid (rowOK width row = false) := Lib.hid (by rw [HR.out, ← HG.out.1, HT.out.1, rowGo, if_pos CB]; try rfl)
            clear CB HG HT
            go_region
            all_goals
              go_wp2
              go_ret
              rw [HF.out]
              exact ⟨rfl, (below_then' HB.out (below_then' hbx (below_drew hB2)))⟩
      · obtain rfl : k = row.length := by omega
        have hG : rowOK width row = !o := by
          rw [HR.out]
          have := HG.out.1
          rw [List.drop_length] at this
          exact this.symm
        have HG2 := Lib.hid hG
        clear hG
        go_wp2
        go_ret
        rw [HG2.out]
        exact ⟨rfl, HB.out⟩
  · have e0 : (((row.length : Int)) == width) = false := by simp [hlen]
    have e0' : (((row.length : Int)) != width) = true := by simp [hlen]
    have HR : Hid (rowOK width row = false) := Lib.hid (by unfold rowOK; rw [e0, Bool.false_and])
    clear hlen
    go_enter Tryd.func36, Tryd.ntmps36
    go_wp2
    go_ret
    rw [HR.out]
    exact ⟨rfl, Below.refl _ _⟩
end Go.Proofs.YtoidlaonolkgkaaDoor.Gc
