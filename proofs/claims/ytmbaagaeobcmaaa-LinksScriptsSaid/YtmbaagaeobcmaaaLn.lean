/- LinksNil: the walk. -/
import Derived.Test.YtmbaagaeobcmaaaLv
set_option linter.unusedVariables false
set_option linter.unusedSimpArgs false
namespace Go.Proofs.Ytmbaagaeobcmaaa.Ln
open Go.RowKit Go.Proofs.Ytmbaagaeobcmaaa.Nt Go.Proofs.Ytmbaagaeobcmaaa.Nc Go.Proofs.Ytmbaagaeobcmaaa.Sd Go.Proofs.Ytmbaagaeobcmaaa.Tk Go.Proofs.Ytmbaagaeobcmaaa.Tn Go.Proofs.Ytmbaagaeobcmaaa.Cs Go.Proofs.Ytmbaagaeobcmaaa.Lv Go.Proofs.YtmbaagaeobcmaaaW.PrintWords Go.Proofs.YtmbaagaeobcmaaaW.PrintLast
/-- A call, as the laws are handed it. -/
structure S31 where
  f0 : Int
  f1 : Int
  f2 : Int
  f3 : ByteArray
  f4 : Int
  f5 : Int
  f6 : Int
def S31.cells (x : S31) : Array Value := #[.int .i64 x.f0, .int .i64 x.f1, .int .i64 x.f2, .string x.f3, .int .i64 x.f4, .int .i64 x.f5, .int .u8 x.f6]
def k31 : Kd S31 := Kd.iso (Kd.pair (Kd.int .i64) (Kd.pair (Kd.int .i64) (Kd.pair (Kd.int .i64) (Kd.pair Kd.string (Kd.pair (Kd.int .i64) (Kd.pair (Kd.int .i64) (Kd.int .u8))))))) (fun x : S31 => (x.f0, x.f1, x.f2, x.f3, x.f4, x.f5, x.f6))
theorem k31_open {w : World} {x : S31} {cs : List Value} (h : k31.K w x cs) : cs = x.cells.toList := by
  obtain ⟨_, _, rfl, rfl, _, _, rfl, rfl, _, _, rfl, rfl, _, _, rfl, rfl, _, _, rfl, rfl, _, _, rfl, rfl, rfl⟩ := h
  exact rfl
theorem cells_below {w w1 : World} {g : Nat} {cs : Array Value} {t : TypeId} {d : Nat × Nat} (h : w.heap[g]? = some (.cells cs t d)) (hb : Below w.heap.size w w1) : w1.heap[g]? = some (.cells cs t d) := (hb.block g (blk_lt h)).trans h
set_option maxHeartbeats 1000000 in
theorem nil_law (x : S31) (w : World) : Calls Try.prog 4 #[.agg #[.int .i64 x.f0, .int .i64 x.f1, .int .i64 x.f2, .string x.f3, .int .i64 x.f4, .int .i64 x.f5, .int .u8 x.f6]] w fun e w' => e = .returned (.bool true) ∧ Below w.heap.size w w' := by
  obtain ⟨x0, x1, x2, x3, x4, x5, x6⟩ := x
  go_enter Try.func4, Try.ntmps4
  go_upto_region 1 with fail
  have hX : Hid ((w.alloc (.cells #[.int .i64 x0, .int .i64 x1, .int .i64 x2, .string x3, .int .i64 x4, .int .i64 x5, .int .u8 x6] 31)).heap[w.heap.size]? = some (.cells #[.int .i64 x0, .int .i64 x1, .int .i64 x2, .string x3, .int .i64 x4, .int .i64 x5, .int .u8 x6] 31 (0, 0))) := Lib.hid (heap_alloc_new _ _)
  have hB := Lib.hid (below_alloc (Below.refl _ w) (.cells #[.int .i64 x0, .int .i64 x1, .int .i64 x2, .string x3, .int .i64 x4, .int .i64 x5, .int .u8 x6] 31))
  generalize w.alloc (.cells #[.int .i64 x0, .int .i64 x1, .int .i64 x2, .string x3, .int .i64 x4, .int .i64 x5, .int .u8 x6] 31) = w0 at hX hB ⊢
  go_upto_region 2 with (go_at_call 8; with_reducible refine (New_bad 0 5 rfl _).mono ?_; rintro e w1 ⟨rfl, hBx⟩; replace hB := Lib.hid (below_then hB.out hB.out.size hBx); replace hX := Lib.hid (cells_below hX.out hBx); clear hBx)
  have y1 : w1.cell? ⟨w.heap.size, 1, none⟩ = some (.int .i64 x1) := by unfold World.cell?; rw [hX.out]; rfl
  have y2 : w1.cell? ⟨w.heap.size, 2, none⟩ = some (.int .i64 x2) := by unfold World.cell?; rw [hX.out]; rfl
  have y3 : w1.cell? ⟨w.heap.size, 3, none⟩ = some (.string x3) := by unfold World.cell?; rw [hX.out]; rfl
  have y4 : w1.cell? ⟨w.heap.size, 4, none⟩ = some (.int .i64 x4) := by unfold World.cell?; rw [hX.out]; rfl
  have y5 : w1.cell? ⟨w.heap.size, 5, none⟩ = some (.int .i64 x5) := by unfold World.cell?; rw [hX.out]; rfl
  have y6 : w1.cell? ⟨w.heap.size, 6, none⟩ = some (.int .u8 x6) := by unfold World.cell?; rw [hX.out]; rfl
  clear hX
  go_wp2_with (first
    | (go_at_call 11; with_reducible refine (Send_nil _ _ _ _).mono ?_; rintro e w4 ⟨rfl, hB4⟩; have z1 := pw_cell_below hB4 y1; have z2 := pw_cell_below hB4 y2; have z3 := pw_cell_below hB4 y3; have z4 := pw_cell_below hB4 y4; have z5 := pw_cell_below hB4 y5; have z6 := pw_cell_below hB4 y6)
    | (go_at_call 15; with_reducible refine (Take_nil _ _ _ _).mono ?_; rintro e w5 ⟨rfl, hw⟩; subst hw)
    | (go_at_call 13; with_reducible refine (Cast_nil _ _ _).mono ?_; rintro e w5 ⟨rfl, hw⟩; subst hw)
    | (go_at_call 17; with_reducible refine (Double_nil _ _ _ _).mono ?_; rintro e w5 ⟨rfl, hw⟩; subst hw)
    | (go_at_call 19; with_reducible refine (Turn_nil _ _ _ _ _ _).mono ?_; rintro e w5 ⟨rfl, hw⟩; subst hw)
    | (go_at_call 21; with_reducible refine (Len_nil _ _ _).mono ?_; rintro e w5 ⟨rfl, hw⟩; subst hw)
    | (go_at_call 10; with_reducible refine (live_calls _).mono ?_; rintro e w6 ⟨rfl, hB6⟩))
  go_ret
  have b4 := below_then hB.out hB.out.size hB4
  exact ⟨rfl, below_then b4 b4.size hB6⟩
end Go.Proofs.Ytmbaagaeobcmaaa.Ln
