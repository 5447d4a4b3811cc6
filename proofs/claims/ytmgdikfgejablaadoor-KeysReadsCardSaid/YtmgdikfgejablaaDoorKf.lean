/- keys.Reader: first, second, other: the walks. -/
import Derived.Test.YtmgdikfgejablaaDoorKd
set_option linter.unusedVariables false
set_option linter.unusedSimpArgs false
namespace Go.Proofs.YtmgdikfgejablaaDoor.Kf
open Go.RowKit Go.Proofs.YtmgdikfgejablaaDoor.Ky Go.Proofs.YtmgdikfgejablaaDoor.Kd Go.Proofs.YtmgdikfgejablaaDoorW.PrintWords Go.Proofs.YtmgdikfgejablaaDoorW.PrintLast
/-- Which method takes the next byte. -/
def fnNo : List Nat → Nat
  | [] => 20
  | b :: r => if b = 27 then (match r with | [] => 26 | e :: _ => if e = 91 then 30 else 31) else 27
def nx (g : Nat) (w : List Nat) : Value := fnV (fnNo w) g
theorem nx_nil (g : Nat) : nx g [] = fnV 20 g := rfl
theorem nx_esc (g : Nat) : nx g [27] = fnV 26 g := rfl
theorem nx_args (g : Nat) (a : List Nat) : nx g (27 :: 91 :: a) = fnV 30 g := rfl
theorem nx_other (g : Nat) (a : List Nat) : nx g (27 :: 79 :: a) = fnV 31 g := rfl
theorem nx_more (g b : Nat) (r : List Nat) (h : b ≠ 27) : nx g (b :: r) = fnV 27 g := by unfold nx fnNo; simp only [if_neg h]
theorem eqI {c d : Nat} (h : c = d) : (((c : Nat) : Int) == ((d : Nat) : Int)) = true := by rw [h]; simp
theorem neI {c d : Nat} (h : c ≠ d) : (((c : Nat) : Int) == ((d : Nat) : Int)) = false := by simp only [beq_eq_false_iff_ne]; omega
set_option maxHeartbeats 1000000 in
set_option maxRecDepth 100000 in
theorem first_calls {K : Nat → Option Obj} {w0 W : World} {g : Nat} {fn : Value} {told : List Key} (h : Kr K w0 W g fn [] told) (hl : told.length ≤ 900000) (c : Nat) (hc : c < 256) :
    Calls Tryd.prog 20 #[.pointer (some ⟨g, 0, none⟩), .int .i64 (c : Int)] W fun e w' => e = .returned (.bool true) ∧ Kr K w0 w' g (nx g (firstM c).2) (firstM c).2 (told ++ (firstM c).1) := by
  have hT := fun k r => tell_calls h (by omega) k r
  have hW := fun n => wait_calls h (by simp) c hc (fnV n g) ⟨n, rfl⟩
  clear h
  unfold firstM
  by_cases h1 : c = 27
  · have d1 : ((c : Int) == 27) = true := eqI h1
    have hW := hW 26
    rw [if_pos h1]
    subst h1
    clear hT
    go_enter Tryd.func20, Tryd.ntmps20
    go_wp2_with (go_at_call 25; go_loud (refine hW.mono ?_; rintro e w1 ⟨rfl, hK⟩))
    go_ret
    exact ⟨rfl, by rw [List.append_nil]; exact hK⟩
  rw [if_neg h1]
  have d1 : ((c : Int) == 27) = false := neI h1
  by_cases h2 : c < 32
  · have d2 : decide ((c : Int) < 32) = true := decide_eq_true (by omega)
    have hT := hT 2 ((c : Int) + 96)
    rw [if_pos h2]
    clear hW h1 h2
    go_enter Tryd.func20, Tryd.ntmps20
    go_wp2_with (go_at_call 21; go_loud (refine hT.mono ?_; rintro e w1 ⟨rfl, hK⟩))
    go_ret
    exact ⟨rfl, hK⟩
  rw [if_neg h2]
  have d2 : decide ((c : Int) < 32) = false := decide_eq_false (by omega)
  by_cases h3 : c = 127
  · have d3 : ((c : Int) == 127) = true := eqI h3
    have hT := hT 2 104
    rw [if_pos h3]
    subst h3
    clear hW
    go_enter Tryd.func20, Tryd.ntmps20
    go_wp2_with (go_at_call 21; go_loud (refine hT.mono ?_; rintro e w1 ⟨rfl, hK⟩))
    go_ret
    exact ⟨rfl, hK⟩
  rw [if_neg h3]
  have d3 : ((c : Int) == 127) = false := neI h3
  by_cases h4 : c < 127
  · have d4 : decide ((c : Int) < 127) = true := decide_eq_true (by omega)
    have hT := hT 1 (c : Int)
    rw [if_pos h4]
    clear hW h1 h2 h3 h4
    go_enter Tryd.func20, Tryd.ntmps20
    go_wp2_with (go_at_call 21; go_loud (refine hT.mono ?_; rintro e w1 ⟨rfl, hK⟩))
    go_ret
    exact ⟨rfl, hK⟩
  rw [if_neg h4]
  have d4 : decide ((c : Int) < 127) = false := decide_eq_false (by omega)
  by_cases h5 : 194 ≤ c ∧ c ≤ 244
  · have d5 : decide ((194 : Int) ≤ (c : Int)) = true := decide_eq_true (by omega)
    have d6 : decide ((c : Int) ≤ 244) = true := decide_eq_true (by omega)
    have hW := hW 27
    have hn := nx_more g c [] h1
    rw [if_pos h5, hn, List.append_nil]
    clear hT h1 h2 h3 h4 h5 hn
    go_enter Tryd.func20, Tryd.ntmps20
    go_wp2_with (go_at_call 25; go_loud (refine hW.mono ?_; rintro e w1 ⟨rfl, hK⟩))
    go_ret
    exact ⟨rfl, hK⟩
  · rw [if_neg h5]
    have hT := hT 12 0
    by_cases h6 : 194 ≤ c
    · have d5 : decide ((194 : Int) ≤ (c : Int)) = true := decide_eq_true (by omega)
      have d6 : decide ((c : Int) ≤ 244) = false := decide_eq_false (by omega)
      clear hW h1 h2 h3 h4 h5 h6
      go_enter Tryd.func20, Tryd.ntmps20
      go_wp2_with (go_at_call 21; go_loud (refine hT.mono ?_; rintro e w1 ⟨rfl, hK⟩))
      go_ret
      exact ⟨rfl, hK⟩
    · have d5 : decide ((194 : Int) ≤ (c : Int)) = false := decide_eq_false (by omega)
      clear hW h1 h2 h3 h4 h5 h6
      go_enter Tryd.func20, Tryd.ntmps20
      go_wp2_with (go_at_call 21; go_loud (refine hT.mono ?_; rintro e w1 ⟨rfl, hK⟩))
      go_ret
      exact ⟨rfl, hK⟩
/-- Is the byte taken? Else what is told, and the byte begins a key of its own. -/
def tk : List Nat → Nat → Bool
  | [], _ => true
  | b :: r, c => if b = 27 then (match r with | [] => decide (32 ≤ c ∧ c ≤ 127) | _ :: _ => true) else decide (128 ≤ c ∧ c ≤ 191)
def kk : List Nat → Key
  | [27] => (11, 0)
  | _ => (12, 0)
def res (w : List Nat) (c : Nat) : List Key × List Nat := if tk w c = true then mach w c else ([kk w], [])
theorem res_again (w : List Nat) (c : Nat) (hw : Waits w) (h : tk w c = false) : mach w c = again (kk w) c := by
  match w, hw, h with
  | [], _, h => exact absurd h (by simp [tk])
  | b :: r, hw, h =>
    rcases hw with ⟨rfl, hw⟩ | ⟨h1, h2, h3, h4⟩
    · match r, hw, h with
      | [], _, h =>
        have h' : ¬ (32 ≤ c ∧ c ≤ 127) := by simpa [tk] using h
        rw [mach_esc]
        unfold secondM
        rw [if_neg (by omega), if_neg (by omega), if_neg h']
        rfl
      | e :: a, hw, h => exact absurd h (by simp [tk])
    · have hb : b ≠ 27 := by omega
      have h' : ¬ (128 ≤ c ∧ c ≤ 191) := by
        unfold tk at h
        simp only [if_neg hb] at h
        simpa using h
      rw [mach_more b r c hb]
      unfold moreM
      rw [if_pos (by omega)]
      have : kk (b :: r) = (12, 0) := by
        unfold kk
        split
        · rename_i heq; injection heq with e1 e2; exact absurd e1 hb
        · rfl
      rw [this]
def Post (K : Nat → Option Obj) (w0 : World) (g : Nat) (told : List Key) (w : List Nat) (c : Nat) (e : Ending) (w' : World) : Prop :=
  e = .returned (.bool (tk w c)) ∧ Kr K w0 w' g (nx g (res w c).2) (res w c).2 (told ++ (res w c).1)
set_option maxHeartbeats 1000000 in
set_option maxRecDepth 100000 in
theorem second_calls {K : Nat → Option Obj} {w0 W : World} {g : Nat} {fn : Value} {told : List Key} (h : Kr K w0 W g fn [27] told) (hl : told.length ≤ 900000) (c : Nat) (hc : c < 256) :
    Calls Tryd.prog 26 #[.pointer (some ⟨g, 0, none⟩), .int .i64 (c : Int)] W (Post K w0 g told [27] c) := by
  have hT := fun k r => tell_calls h (by omega) k r
  have hW := fun n => wait_calls h (by simp) c hc (fnV n g) ⟨n, rfl⟩
  clear h
  have htk : tk [27] c = decide (32 ≤ c ∧ c ≤ 127) := rfl
  unfold Post res
  rw [htk, mach_esc]
  unfold secondM
  clear htk
  by_cases h1 : c = 91
  · have d1 : ((c : Int) == 91) = true := eqI h1
    have hW := hW 30
    rw [if_pos h1]
    subst h1
    clear hT
    go_enter Tryd.func26, Tryd.ntmps26
    go_wp2_with (go_at_call 25; go_loud (refine hW.mono ?_; rintro e w1 ⟨rfl, hK⟩))
    go_ret
    exact ⟨rfl, hK⟩
  rw [if_neg h1]
  have d1 : ((c : Int) == 91) = false := neI h1
  by_cases h2 : c = 79
  · have d2 : ((c : Int) == 79) = true := eqI h2
    have hW := hW 31
    rw [if_pos h2]
    subst h2
    clear hT
    go_enter Tryd.func26, Tryd.ntmps26
    go_wp2_with (go_at_call 25; go_loud (refine hW.mono ?_; rintro e w1 ⟨rfl, hK⟩))
    go_ret
    exact ⟨rfl, hK⟩
  rw [if_neg h2]
  have d2 : ((c : Int) == 79) = false := neI h2
  by_cases h3 : 32 ≤ c ∧ c ≤ 127
  · have d3 : decide ((32 : Int) ≤ (c : Int)) = true := decide_eq_true (by omega)
    have d4 : decide ((c : Int) ≤ 127) = true := decide_eq_true (by omega)
    have hT := hT 3 (c : Int)
    rw [if_pos h3, decide_eq_true h3, if_pos rfl]
    clear hW h1 h2 h3
    go_enter Tryd.func26, Tryd.ntmps26
    go_wp2_with (go_at_call 21; go_loud (refine hT.mono ?_; rintro e w1 ⟨rfl, hK⟩))
    go_ret
    exact ⟨rfl, hK⟩
  · rw [decide_eq_false h3, if_neg (by decide)]
    have hT := hT 11 0
    by_cases h4 : 32 ≤ c
    · have d3 : decide ((32 : Int) ≤ (c : Int)) = true := decide_eq_true (by omega)
      have d4 : decide ((c : Int) ≤ 127) = false := decide_eq_false (by omega)
      clear hW h1 h2 h3 h4
      go_enter Tryd.func26, Tryd.ntmps26
      go_wp2_with (go_at_call 21; go_loud (refine hT.mono ?_; rintro e w1 ⟨rfl, hK⟩))
      go_ret
      exact ⟨rfl, hK⟩
    · have d3 : decide ((32 : Int) ≤ (c : Int)) = false := decide_eq_false (by omega)
      clear hW h1 h2 h3 h4
      go_enter Tryd.func26, Tryd.ntmps26
      go_wp2_with (go_at_call 21; go_loud (refine hT.mono ?_; rintro e w1 ⟨rfl, hK⟩))
      go_ret
      exact ⟨rfl, hK⟩
set_option maxHeartbeats 1000000 in
set_option maxRecDepth 100000 in
theorem other_calls {K : Nat → Option Obj} {w0 W : World} {g : Nat} {fn : Value} {told : List Key} (h : Kr K w0 W g fn [27, 79] told) (hl : told.length ≤ 900000) (c : Nat) (hc : c < 256) :
    Calls Tryd.prog 31 #[.pointer (some ⟨g, 0, none⟩), .int .i64 (c : Int)] W (Post K w0 g told [27, 79] c) := by
  have hT := fun k r => tell_calls h (by omega) k r
  clear h
  have htk : tk [27, 79] c = true := rfl
  unfold Post res
  rw [htk, if_pos rfl, mach_other]
  unfold otherM
  clear htk
  by_cases h1 : c = 72
  · have d1 : ((c : Int) == 72) = true := eqI h1
    have hT := hT 8 0
    rw [if_pos h1]
    subst h1
    go_enter Tryd.func31, Tryd.ntmps31
    go_wp2_with (go_at_call 21; go_loud (refine hT.mono ?_; rintro e w1 ⟨rfl, hK⟩))
    go_ret
    exact ⟨rfl, hK⟩
  rw [if_neg h1]
  have d1 : ((c : Int) == 72) = false := neI h1
  by_cases h2 : c = 70
  · have d2 : ((c : Int) == 70) = true := eqI h2
    have hT := hT 9 0
    rw [if_pos h2]
    subst h2
    go_enter Tryd.func31, Tryd.ntmps31
    go_wp2_with (go_at_call 21; go_loud (refine hT.mono ?_; rintro e w1 ⟨rfl, hK⟩))
    go_ret
    exact ⟨rfl, hK⟩
  rw [if_neg h2]
  have d2 : ((c : Int) == 70) = false := neI h2
  have hT := hT 12 0
  clear h1 h2
  go_enter Tryd.func31, Tryd.ntmps31
  go_wp2_with (go_at_call 21; go_loud (refine hT.mono ?_; rintro e w1 ⟨rfl, hK⟩))
  go_ret
  exact ⟨rfl, hK⟩
end Go.Proofs.YtmgdikfgejablaaDoor.Kf
