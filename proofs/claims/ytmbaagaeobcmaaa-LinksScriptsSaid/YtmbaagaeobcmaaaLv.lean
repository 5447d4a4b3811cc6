/- live of the links' laws: the walk. -/
import Derived.Test.YtmbaagaeobcmaaaCs
set_option linter.unusedVariables false
set_option linter.unusedSimpArgs false
namespace Go.Proofs.Ytmbaagaeobcmaaa.Lv
open Go.RowKit Go.Proofs.Ytmbaagaeobcmaaa.Nt Go.Proofs.Ytmbaagaeobcmaaa.Nc Go.Proofs.Ytmbaagaeobcmaaa.Sd Go.Proofs.Ytmbaagaeobcmaaa.Cs Go.Proofs.YtmbaagaeobcmaaaW.PrintWords Go.Proofs.YtmbaagaeobcmaaaW.PrintLast
def b1 : Bags := (castR 3 2 noBags 0 ⟨#[97, 98]⟩ 3).2
def b2 : Bags := (sendR 3 2 b1 0 1 ⟨#[99]⟩).2
def b3 : Bags := (turnR 3 b2 0 1 0 1 1).2
def b4 : Bags := (takeR 3 b3 0 1 0).2
def b5 : Bags := (doubleR 3 2 b4 0 1 0).2
def b6 : Bags := (takeR 3 b5 0 2 0).2
theorem s1 {w W : World} {g : Nat} (h : Net w W g 3 2 noBags) : Calls Try.prog 13 #[.pointer (some ⟨g, 0, none⟩), .int .i64 0, .string ⟨#[97, 98]⟩] W fun e w' => e = .returned (.int .i64 2) ∧ Net w w' g 3 2 b1 := Cast_calls h 0 ⟨#[97, 98]⟩
theorem s2 {w W : World} {g : Nat} (h : Net w W g 3 2 b1) : Calls Try.prog 11 #[.pointer (some ⟨g, 0, none⟩), .int .i64 0, .int .i64 0, .string ⟨#[120]⟩] W fun e w' => e = .returned (.int .i64 1) ∧ Net w w' g 3 2 b1 := Send_calls h 0 0 ⟨#[120]⟩
theorem s3 {w W : World} {g : Nat} (h : Net w W g 3 2 b1) : Calls Try.prog 11 #[.pointer (some ⟨g, 0, none⟩), .int .i64 0, .int .i64 1, .string ⟨#[99]⟩] W fun e w' => e = .returned (.int .i64 0) ∧ Net w w' g 3 2 b2 := Send_calls h 0 1 ⟨#[99]⟩
theorem s4 {w W : World} {g : Nat} (h : Net w W g 3 2 b2) : Calls Try.prog 11 #[.pointer (some ⟨g, 0, none⟩), .int .i64 0, .int .i64 1, .string ⟨#[100]⟩] W fun e w' => e = .returned (.int .i64 5) ∧ Net w w' g 3 2 b2 := Send_calls h 0 1 ⟨#[100]⟩
theorem s5 {w W : World} {g : Nat} (h : Net w W g 3 2 b2) : Calls Try.prog 19 #[.pointer (some ⟨g, 0, none⟩), .int .i64 0, .int .i64 1, .int .i64 0, .int .i64 1, .int .u8 1] W fun e w' => e = .returned (.bool true) ∧ Net w w' g 3 2 b3 := Turn_calls h 0 1 0 1 1
theorem s6 {w W : World} {g : Nat} (h : Net w W g 3 2 b3) : Calls Try.prog 15 #[.pointer (some ⟨g, 0, none⟩), .int .i64 0, .int .i64 1, .int .i64 0] W fun e w' => e = .returned (.tuple #[.string ⟨#[97, 99]⟩, .bool true]) ∧ Net w w' g 3 2 b4 := Take_calls h 0 1 0
theorem s7 {w W : World} {g : Nat} (h : Net w W g 3 2 b4) : Calls Try.prog 17 #[.pointer (some ⟨g, 0, none⟩), .int .i64 0, .int .i64 1, .int .i64 0] W fun e w' => e = .returned (.int .i64 0) ∧ Net w w' g 3 2 b5 := Double_calls h 0 1 0
theorem s8 {w W : World} {g : Nat} (h : Net w W g 3 2 b5) : Calls Try.prog 15 #[.pointer (some ⟨g, 0, none⟩), .int .i64 0, .int .i64 2, .int .i64 0] W fun e w' => e = .returned (.tuple #[.string ⟨#[97, 98]⟩, .bool true]) ∧ Net w w' g 3 2 b6 := Take_calls h 0 2 0
theorem s9 {w W : World} {g : Nat} (h : Net w W g 3 2 b6) : Calls Try.prog 15 #[.pointer (some ⟨g, 0, none⟩), .int .i64 1, .int .i64 0, .int .i64 0] W fun e w' => e = .returned (.tuple #[.string ByteArray.empty, .bool false]) ∧ Net w w' g 3 2 b6 := Take_calls h 1 0 0
theorem s10 {w W : World} {g : Nat} (h : Net w W g 3 2 b6) : Calls Try.prog 21 #[.pointer (some ⟨g, 0, none⟩), .int .i64 0, .int .i64 1] W fun e w' => e = .returned (.int .i64 2) ∧ w' = W := Len_calls h 0 1 (wf_of (by decide) (by decide)) (wf_of (by decide) (by decide))
set_option maxHeartbeats 4000000 in
set_option maxRecDepth 100000 in
theorem live_calls (w : World) : Calls Try.prog 10 #[] w fun e w' => e = .returned (.bool true) ∧ Below w.heap.size w w' := by
  go_enter Try.func10, Try.ntmps10
  go_upto_region 3 with (first
    | (go_at_call 8; with_reducible refine (New_ok 3 2 rfl _).mono ?_; rintro e w1 ⟨g, rfl, h0⟩)
    | (go_at_call 8; with_reducible refine (New_bad 17 2 rfl _).mono ?_; rintro e w2 ⟨rfl, hB2⟩))
  have h := Lib.hid (h0.below hB2)
  clear h0 hB2
  go_upto_region 14 with (first
    | (go_at_call 13; with_reducible refine (s1 h.out).mono ?_; rintro e wx ⟨rfl, hx⟩; replace h := Lib.hid hx; clear hx)
    | (go_at_call 11; with_reducible refine (s2 h.out).mono ?_; rintro e wx ⟨rfl, hx⟩; replace h := Lib.hid hx; clear hx)
    | (go_at_call 11; with_reducible refine (s3 h.out).mono ?_; rintro e wx ⟨rfl, hx⟩; replace h := Lib.hid hx; clear hx)
    | (go_at_call 11; with_reducible refine (s4 h.out).mono ?_; rintro e wx ⟨rfl, hx⟩; replace h := Lib.hid hx; clear hx)
    | (go_at_call 19; with_reducible refine (s5 h.out).mono ?_; rintro e wx ⟨rfl, hx⟩; replace h := Lib.hid hx; clear hx)
    | (go_at_call 15; with_reducible refine (s6 h.out).mono ?_; rintro e wx ⟨rfl, hx⟩; replace h := Lib.hid hx; clear hx)
    | (go_at_call 17; with_reducible refine (s7 h.out).mono ?_; rintro e wx ⟨rfl, hx⟩; replace h := Lib.hid hx; clear hx)
    | (go_at_call 15; with_reducible refine (s8 h.out).mono ?_; rintro e wx ⟨rfl, hx⟩; replace h := Lib.hid hx; clear hx)
    | (go_at_call 15; with_reducible refine (s9 h.out).mono ?_; rintro e wx ⟨rfl, hx⟩; replace h := Lib.hid hx; clear hx))
  go_wp2_with (go_at_call 21; with_reducible refine (s10 h.out).mono ?_; rintro e wy ⟨rfl, hwy⟩; subst hwy)
  go_ret
  exact ⟨rfl, h.out.bl⟩
end Go.Proofs.Ytmbaagaeobcmaaa.Lv
