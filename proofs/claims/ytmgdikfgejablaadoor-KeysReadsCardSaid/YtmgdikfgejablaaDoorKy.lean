/- Keys of bytes: the machine, byte by byte, and the document's own parse. Plain numbers and lists. -/
import Derived.Below
set_option linter.unusedVariables false
set_option linter.unusedSimpArgs false
namespace Go.Proofs.YtmgdikfgejablaaDoor.Ky
/-- A key: its kind and its rune. -/
abbrev Key := Int × Int
/-- How many bytes a rune has, by its first one. -/
def sizeN (b : Nat) : Nat := if 240 ≤ b then 4 else if 224 ≤ b then 3 else 2
def valN : List Nat → Int
  | [] => 0
  | b :: l => l.foldl (fun (v : Int) (d : Nat) => 64 * v + (d : Int) - 128) ((b : Int) - (if 240 ≤ b then 240 else if 224 ≤ b then 224 else 192))
def leastN (b : Nat) : Int := if 240 ≤ b then 65536 else if 224 ≤ b then 2048 else 128
def runeKey (l : List Nat) : Key := if valN l < leastN (l.headD 0) ∨ 1114111 < valN l ∨ (55296 ≤ valN l ∧ valN l ≤ 57343) ∨ (128 ≤ valN l ∧ valN l ≤ 159) then (12, 0) else (1, valN l)
def endsK (s : List Nat) : Int := if s = [65] then 4 else if s = [66] then 5 else if s = [67] then 6 else if s = [68] then 7 else if s = [72] then 8 else if s = [70] then 9 else if s = [49, 126] then 8 else if s = [51, 126] then 10 else if s = [52, 126] then 9 else 12
def argB (c : Nat) : Bool := decide (c = 59) || (decide (48 ≤ c) && decide (c ≤ 57))
/-- What a byte tells, and what waits then. -/
def firstM (c : Nat) : List Key × List Nat :=
  if c = 27 then ([], [27]) else if c < 32 then ([(2, (c : Int) + 96)], []) else if c = 127 then ([(2, 104)], []) else if c < 127 then ([(1, (c : Int))], []) else if 194 ≤ c ∧ c ≤ 244 then ([], [c]) else ([(12, 0)], [])
def again (k : Key) (c : Nat) : List Key × List Nat := (k :: (firstM c).1, (firstM c).2)
def secondM (c : Nat) : List Key × List Nat := if c = 91 then ([], [27, 91]) else if c = 79 then ([], [27, 79]) else if 32 ≤ c ∧ c ≤ 127 then ([(3, (c : Int))], []) else again (11, 0) c
def argsM (a : List Nat) (c : Nat) : List Key × List Nat := if argB c = true then (if a.length = 4 then ([(12, 0)], []) else ([], 27 :: 91 :: (a ++ [c]))) else ([(endsK (a ++ [c]), 0)], [])
def otherM (c : Nat) : List Key × List Nat := if c = 72 then ([(8, 0)], []) else if c = 70 then ([(9, 0)], []) else ([(12, 0)], [])
def moreM (b : Nat) (r : List Nat) (c : Nat) : List Key × List Nat := if c < 128 ∨ 191 < c then again (12, 0) c else if r.length + 2 < sizeN b then ([], b :: (r ++ [c])) else ([runeKey (b :: (r ++ [c]))], [])
def mach : List Nat → Nat → List Key × List Nat
  | [], c => firstM c
  | b :: r, c => if b = 27 then (match r with | [] => secondM c | e :: a => if e = 91 then argsM a c else otherM c) else moreM b r c
/-- What may wait. -/
def Waits : List Nat → Prop
  | [] => True
  | b :: r => (b = 27 ∧ (match r with | [] => True | e :: a => (e = 91 ∧ a.length ≤ 4 ∧ ∀ x ∈ a, argB x = true) ∨ (e = 79 ∧ a = []))) ∨ (194 ≤ b ∧ b ≤ 244 ∧ r.length + 1 < sizeN b ∧ ∀ x ∈ r, 128 ≤ x ∧ x ≤ 191)
def run : List Nat → List Nat → List Key × List Nat
  | w, [] => ([], w)
  | w, c :: l => ((mach w c).1 ++ (run (mach w c).2 l).1, (run (mach w c).2 l).2)
theorem run_app (l m : List Nat) : ∀ w, run w (l ++ m) = ((run w l).1 ++ (run (run w l).2 m).1, (run (run w l).2 m).2) := by
  induction l with
  | nil => intro w; rfl
  | cons c l ih =>
    intro w
    show ((mach w c).1 ++ (run (mach w c).2 (l ++ m)).1, (run (mach w c).2 (l ++ m)).2) = _
    rw [ih]
    simp [run]
theorem run_snoc (l : List Nat) (c : Nat) (w : List Nat) : run w (l ++ [c]) = ((run w l).1 ++ (mach (run w l).2 c).1, (mach (run w l).2 c).2) := by
  rw [run_app]; simp [run]
theorem mach_esc (c : Nat) : mach [27] c = secondM c := rfl
theorem mach_args (a : List Nat) (c : Nat) : mach (27 :: 91 :: a) c = argsM a c := rfl
theorem mach_other (a : List Nat) (c : Nat) : mach (27 :: 79 :: a) c = otherM c := rfl
theorem mach_more (b : Nat) (r : List Nat) (c : Nat) (h : b ≠ 27) : mach (b :: r) c = moreM b r c := by unfold mach; simp only [if_neg h]
theorem sizeN_ge (b : Nat) : 2 ≤ sizeN b ∧ sizeN b ≤ 4 := by unfold sizeN; split <;> (try split) <;> omega
theorem first_waits (c : Nat) : Waits (firstM c).2 ∧ (firstM c).1.length ≤ 1 ∧ (firstM c).2.length ≤ 1 ∧ (firstM c).1.length + (firstM c).2.length = 1 := by
  have hs := (sizeN_ge c).1
  unfold firstM
  by_cases h1 : c = 27
  · rw [if_pos h1]; exact ⟨.inl ⟨rfl, trivial⟩, by simp, by simp, rfl⟩
  rw [if_neg h1]
  by_cases h2 : c < 32
  · rw [if_pos h2]; exact ⟨trivial, by simp, by simp, rfl⟩
  rw [if_neg h2]
  by_cases h3 : c = 127
  · rw [if_pos h3]; exact ⟨trivial, by simp, by simp, rfl⟩
  rw [if_neg h3]
  by_cases h4 : c < 127
  · rw [if_pos h4]; exact ⟨trivial, by simp, by simp, rfl⟩
  rw [if_neg h4]
  by_cases h5 : 194 ≤ c ∧ c ≤ 244
  · rw [if_pos h5]; exact ⟨.inr ⟨h5.1, h5.2, by simp; omega, by simp⟩, by simp, by simp, rfl⟩
  · rw [if_neg h5]; exact ⟨trivial, by simp, by simp, rfl⟩
/-- What waits then may wait; as many keys and bytes as there were bytes at most. -/
theorem mach_waits (w : List Nat) (c : Nat) (h : Waits w) : Waits (mach w c).2 ∧ (mach w c).1.length + (mach w c).2.length ≤ w.length + 1 ∧ (mach w c).1.length ≤ 2 := by
  obtain ⟨f1, f2, f3, f4⟩ := first_waits c
  have ha : ∀ k, Waits (again k c).2 ∧ (again k c).1.length + (again k c).2.length ≤ 2 ∧ (again k c).1.length ≤ 2 := fun k => ⟨f1, by show (k :: (firstM c).1).length + _ ≤ 2; rw [List.length_cons]; show (firstM c).1.length + 1 + (firstM c).2.length ≤ 2; omega, by show (k :: (firstM c).1).length ≤ 2; rw [List.length_cons]; omega⟩
  match w, h with
  | [], _ => exact ⟨f1, by show (firstM c).1.length + (firstM c).2.length ≤ 1; omega, by show (firstM c).1.length ≤ 2; omega⟩
  | b :: r, h =>
    rcases h with ⟨rfl, h⟩ | ⟨h1, h2, h3, h4⟩
    · match r, h with
      | [], _ =>
        rw [mach_esc]
        unfold secondM
        by_cases g1 : c = 91
        · rw [if_pos g1]; exact ⟨.inl ⟨rfl, .inl ⟨rfl, by simp, by simp⟩⟩, by simp, by simp⟩
        rw [if_neg g1]
        by_cases g2 : c = 79
        · rw [if_pos g2]; exact ⟨.inl ⟨rfl, .inr ⟨rfl, rfl⟩⟩, by simp, by simp⟩
        rw [if_neg g2]
        by_cases g3 : 32 ≤ c ∧ c ≤ 127
        · rw [if_pos g3]; exact ⟨trivial, by simp, by simp⟩
        · rw [if_neg g3]; exact ⟨(ha _).1, (ha _).2.1, (ha _).2.2⟩
      | e :: a, h =>
        rcases h with ⟨rfl, h1, h2⟩ | ⟨rfl, rfl⟩
        · rw [mach_args]
          unfold argsM
          by_cases g1 : argB c = true
          · rw [if_pos g1]
            by_cases g2 : a.length = 4
            · rw [if_pos g2]; exact ⟨trivial, by simp, by simp⟩
            · rw [if_neg g2]
              refine ⟨.inl ⟨rfl, .inl ⟨rfl, by rw [List.length_append]; simp; omega, fun x hx => ?_⟩⟩, by simp, by simp⟩
              rcases List.mem_append.1 hx with hx | hx
              · exact h2 x hx
              · rw [List.mem_singleton.1 hx]; exact g1
          · rw [if_neg g1]; exact ⟨trivial, by simp, by simp⟩
        · rw [mach_other]
          unfold otherM
          by_cases g1 : c = 72
          · rw [if_pos g1]; exact ⟨trivial, by simp, by simp⟩
          rw [if_neg g1]
          by_cases g2 : c = 70
          · rw [if_pos g2]; exact ⟨trivial, by simp, by simp⟩
          · rw [if_neg g2]; exact ⟨trivial, by simp, by simp⟩
    · have hb : b ≠ 27 := by omega
      rw [mach_more b r c hb]
      unfold moreM
      by_cases g1 : c < 128 ∨ 191 < c
      · rw [if_pos g1]; exact ⟨(ha _).1, Nat.le_trans (ha _).2.1 (by simp), (ha _).2.2⟩
      · rw [if_neg g1]
        by_cases g2 : r.length + 2 < sizeN b
        · rw [if_pos g2]
          refine ⟨.inr ⟨h1, h2, by rw [List.length_append]; simp; omega, fun x hx => ?_⟩, by simp, by simp⟩
          rcases List.mem_append.1 hx with hx | hx
          · exact h4 x hx
          · rw [List.mem_singleton.1 hx]; omega
        · rw [if_neg g2]; exact ⟨trivial, by simp, by simp⟩
theorem run_waits (l : List Nat) : ∀ w, Waits w → Waits (run w l).2 ∧ (run w l).1.length + (run w l).2.length ≤ w.length + l.length := by
  induction l with
  | nil => intro w h; exact ⟨h, by simp [run]⟩
  | cons c l ih =>
    intro w h
    obtain ⟨h1, h2, _⟩ := mach_waits w c h
    obtain ⟨h3, h4⟩ := ih _ h1
    refine ⟨h3, ?_⟩
    show ((mach w c).1 ++ (run (mach w c).2 l).1).length + (run (mach w c).2 l).2.length ≤ _
    rw [List.length_append, List.length_cons]; omega
theorem waits_len (w : List Nat) (h : Waits w) : w.length ≤ 6 := by
  match w, h with
  | [], _ => simp
  | b :: r, h =>
    have := (sizeN_ge b).2
    rcases h with ⟨rfl, h⟩ | ⟨_, _, h3, _⟩
    · match r, h with
      | [], _ => simp
      | e :: a, h =>
        rcases h with ⟨_, h1, _⟩ | ⟨_, rfl⟩
        · simp; omega
        · simp
    · simp; omega
end Go.Proofs.YtmgdikfgejablaaDoor.Ky
