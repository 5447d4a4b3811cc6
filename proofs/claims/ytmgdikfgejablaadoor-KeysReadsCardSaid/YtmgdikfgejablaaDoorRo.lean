/- The reference's One against the machine. Plain. -/
import Derived.Test.YtmgdikfgejablaaDoorKs
set_option linter.unusedVariables false
set_option linter.unusedSimpArgs false
namespace Go.Proofs.YtmgdikfgejablaaDoor.Ro
open Go.RowKit Go.Proofs.YtmgdikfgejablaaDoor.Ky Go.Proofs.YtmgdikfgejablaaDoor.Ke Go.Proofs.YtmgdikfgejablaaDoor.Ko Go.Proofs.YtmgdikfgejablaaDoor.P Go.Proofs.YtmgdikfgejablaaDoor.Ks Go.Proofs.YtmgdikfgejablaaDoorW.PrintWords Go.Proofs.YtmgdikfgejablaaDoorW.PrintLast Go.Proofs.YtmgdikfgejablaaDoorW.PrintMore
theorem bt_nat (s : ByteArray) (i : Nat) (h : i < s.size) : bt s (i : Int) = (((nats s).getD i 0 : Nat) : Int) := by
  have h2 : i < s.data.toList.length := by rw [Array.length_toList]; exact h
  unfold bt
  rw [dif_pos (by simpa using h)]
  unfold nats
  rw [List.getD_eq_getElem?_getD, List.getElem?_map, List.getElem?_eq_getElem h2]
  rfl
theorem bt_list {s : ByteArray} {p t : List Nat} {c : Nat} (h : nats s = p ++ c :: t) : bt s ((p.length : Nat) : Int) = (c : Int) ∧ p.length < s.size := by
  have hl : s.size = p.length + (t.length + 1) := by rw [← nats_len, h]; simp
  refine ⟨?_, by omega⟩
  rw [bt_nat _ _ (by omega), h, List.getD_eq_getElem?_getD, List.getElem?_append_right (Nat.le_refl _), Nat.sub_self]
  rfl
theorem tl (t : ByteArray) (L : List UInt8) : t.toList = L ↔ nats t = L.map UInt8.toNat := by
  rw [ByteArray.toList_eq]
  constructor
  · intro h; unfold nats; rw [h]
  · intro h
    unfold nats at h
    exact (List.map_inj_right (f := UInt8.toNat) (fun a b e => UInt8.toNat_inj.1 e)).1 h
theorem nats_extract (s : ByteArray) (i j : Nat) : nats (s.extract i j) = ((nats s).drop i).take (j - i) := by
  unfold nats
  rw [ByteArray.data_extract, Array.toList_extract, List.extract_eq_take_drop, List.map_take, List.map_drop]
/-- What a parse says, of l; what is read by now waits. -/
def Parsed (l w rest : List Nat) (r : Int × Int × Int) : Prop :=
  ∃ n : Nat, r.2.2 = (n : Int) ∧ ((n = 0 ∧ run w rest = ([], l)) ∨ (1 ≤ n ∧ n ≤ l.length ∧ run w rest = ((r.1, r.2.1) :: (run [] (l.drop n)).1, (run [] (l.drop n)).2)))
theorem run_again {w t : List Nat} {c : Nat} {k : Key} (h : mach w c = again k c) : run w (c :: t) = (k :: (run [] (c :: t)).1, (run [] (c :: t)).2) := by
  rw [run_one h]
  show ((k :: (firstM c).1) ++ (run (firstM c).2 t).1, (run (firstM c).2 t).2) = (k :: ((firstM c).1 ++ (run (firstM c).2 t).1), (run (firstM c).2 t).2)
  rw [List.cons_append]
theorem ends_ok (t : ByteArray) (m : Nat) (i j : Int) (s : ByteArray) (x : Nat) (hj : wrap64 (i + 1) = j) (h2 : 2 ≤ j) (h3 : j ≤ (s.size : Int)) (ht : s.extract 2 j.toNat = t) (hx : i = (x : Int)) :
    duetref17_row.j1 (m + 4) s i false = some (endsK (nats t), 0, j) := by
  rw [duetref17_row.j1, if_neg (by simp), hj, if_pos h2, if_pos h3, ht]
  have e1 := tl t [65]; have e2 := tl t [66]; have e3 := tl t [67]; have e4 := tl t [68]; have e5 := tl t [72]; have e6 := tl t [70]; have e7 := tl t [49, 126]; have e8 := tl t [51, 126]; have e9 := tl t [52, 126]
  have b : ∀ L : List UInt8, (t.toList == L) = decide (nats t = L.map UInt8.toNat) := fun L => by
    by_cases h : t.toList = L
    · rw [beq_iff_eq.2 h, decide_eq_true ((tl t L).1 h)]
    · rw [beq_eq_false_iff_ne.2 h, decide_eq_false (fun e => h ((tl t L).2 e))]
  simp only [List.map_cons, List.map_nil] at e1 e2 e3 e4 e5 e6 e7 e8 e9
  change _ ↔ nats t = [65] at e1; change _ ↔ nats t = [66] at e2; change _ ↔ nats t = [67] at e3; change _ ↔ nats t = [68] at e4; change _ ↔ nats t = [72] at e5; change _ ↔ nats t = [70] at e6; change _ ↔ nats t = [49, 126] at e7; change _ ↔ nats t = [51, 126] at e8; change _ ↔ nats t = [52, 126] at e9
  rw [b [72], b [49, 126]]
  change _ = some (endsK (nats t), 0, j)
  have f5 : List.map UInt8.toNat [72] = [72] := rfl
  have f6 : List.map UInt8.toNat [70] = [70] := rfl
  have f7 : List.map UInt8.toNat [49, 126] = [49, 126] := rfl
  have f9 : List.map UInt8.toNat [52, 126] = [52, 126] := rfl
  rw [f5, f7]
  unfold endsK
  by_cases h1 : nats t = [65]
  · rw [if_pos (e1.2 h1), if_pos h1]
  rw [if_neg (fun e => h1 (e1.1 e)), if_neg h1]
  by_cases h2 : nats t = [66]
  · rw [if_pos (e2.2 h2), if_pos h2]
  rw [if_neg (fun e => h2 (e2.1 e)), if_neg h2]
  by_cases h3 : nats t = [67]
  · rw [if_pos (e3.2 h3), if_pos h3]
  rw [if_neg (fun e => h3 (e3.1 e)), if_neg h3]
  by_cases h4 : nats t = [68]
  · rw [if_pos (e4.2 h4), if_pos h4]
  rw [if_neg (fun e => h4 (e4.1 e)), if_neg h4]
  by_cases h5 : nats t = [72]
  · rw [if_pos (e5.2 h5), if_pos h5, duetref17_row.j2, if_pos (decide_eq_true h5), hj]
  rw [if_neg (fun e => h5 (e5.1 e)), if_neg h5, duetref17_row.j2, hj, b [70], b [52, 126], f6, f9]
  by_cases h6 : nats t = [70]
  · rw [if_pos h6, if_neg (by rw [h6]; decide), if_pos (e6.2 h6), duetref17_row.j3, if_pos (decide_eq_true h6), hj]
  rw [if_neg h6]
  by_cases h7 : nats t = [49, 126]
  · rw [if_pos h7, if_pos (decide_eq_true h7)]
  rw [if_neg h7, if_neg (by simpa using h7), if_neg (fun e => h6 (e6.1 e)), duetref17_row.j3, hj]
  by_cases h8 : nats t = [51, 126]
  · rw [if_pos h8, if_neg (by rw [h8]; decide), if_pos (e8.2 h8)]
  rw [if_neg h8, if_neg (fun e => h8 (e8.1 e))]
  by_cases h9 : nats t = [52, 126]
  · rw [if_pos h9, if_pos (decide_eq_true h9)]
  · rw [if_neg h9, if_neg (by simpa using h9)]
theorem row_ok (s : ByteArray) : ∀ (m : Nat) (a rest : List Nat), a.length + m = 4 → nats s = 27 :: 91 :: (a ++ rest) → s.size ≤ 1000000 →
    ∃ r, duetref17_row.l0 (2 * m + 5) s ((a.length + 2 : Nat) : Int) = some r ∧ Parsed (nats s) (27 :: 91 :: a) rest r
  | m, a, [], hm, hs, hz => by
    have hl : s.size = a.length + 2 := by rw [← nats_len, hs]; simp
    rw [duetref17_row.l0, if_neg (by omega)]
    exact ⟨_, rfl, 0, rfl, .inl ⟨rfl, by rw [hs, List.append_nil]; rfl⟩⟩
  | m, a, c :: rest, hm, hs, hz => by
    have hs' : nats s = (27 :: 91 :: a) ++ c :: rest := hs
    obtain ⟨hb, hlt⟩ := bt_list hs'
    have hln : (27 :: 91 :: a).length = a.length + 2 := rfl
    rw [hln] at hb hlt
    have hw : wrap64 (((a.length + 2 : Nat) : Int) + 1) = ((a.length + 3 : Nat) : Int) := by unfold wrap64; omega
    have hll : (nats s).length = a.length + rest.length + 3 := by rw [hs]; simp; omega
    have hdr : (nats s).drop (a.length + 3) = rest := by rw [hs']; rw [show a.length + 3 = (27 :: 91 :: a).length + 1 from rfl, ← List.drop_drop, List.drop_left]; rfl
    have hbody : duetref17_row.l0 (2 * m + 5) s ((a.length + 2 : Nat) : Int) = duetref17_row.j1 (2 * m + 4) s ((a.length + 2 : Nat) : Int) (argB c) := by
      rw [duetref17_row.l0, if_pos (by omega), if_pos (by omega), hb]
      have e59 : ((c : Int) == 59) = decide (c = 59) := by
        by_cases h : c = 59
        · rw [h]; rfl
        · rw [decide_eq_false h]; exact beq_eq_false_iff_ne.2 (by omega)
      unfold argB
      rw [e59]
      by_cases h1 : (c : Int) ≥ 48
      · rw [if_pos h1]
        by_cases h2 : (c : Int) ≤ 57
        · rw [if_pos h2, decide_eq_true (show 48 ≤ c by omega), decide_eq_true (show c ≤ 57 by omega)]; simp
        · rw [if_neg h2, decide_eq_false (show ¬ c ≤ 57 by omega)]; simp
      · rw [if_neg h1, decide_eq_false (show ¬ 48 ≤ c by omega)]; simp
    rw [hbody]
    by_cases hA : argB c = true
    · rw [hA]
      by_cases h4 : a.length = 4
      · rw [duetref17_row.j1, if_pos rfl, if_pos (by omega)]
        refine ⟨_, rfl, 7, rfl, .inr ⟨by decide, by omega, ?_⟩⟩
        rw [show (7 : Nat) = a.length + 3 by omega, hdr, run_one (k := [(12, 0)]) (w2 := []) (by rw [mach_args]; unfold argsM; rw [if_pos hA, if_pos h4])]
        rfl
      · obtain ⟨m, rfl⟩ : ∃ m', m = m' + 1 := ⟨m - 1, by omega⟩
        obtain ⟨r, h1, h2⟩ := row_ok s m (a ++ [c]) rest (by simp; omega) (by rw [hs]; simp) hz
        rw [show 2 * (m + 1) + 4 = (2 * m + 5) + 1 by omega, duetref17_row.j1, if_pos rfl, if_neg (by omega), hw]
        rw [show (a ++ [c]).length + 2 = a.length + 3 by simp] at h1
        refine ⟨r, h1, ?_⟩
        obtain ⟨n, h3, h5⟩ := h2
        refine ⟨n, h3, ?_⟩
        rw [run_one (k := []) (w2 := 27 :: 91 :: (a ++ [c])) (by rw [mach_args]; unfold argsM; rw [if_pos hA, if_neg h4])]
        exact h5
    · have hf : argB c = false := by simpa using hA
      rw [hf, ends_ok (s.extract 2 (a.length + 3)) (2 * m) _ ((a.length + 3 : Nat) : Int) s (a.length + 2) hw (by omega) (by omega) (by rw [Int.toNat_natCast]) rfl]
      refine ⟨_, rfl, a.length + 3, rfl, .inr ⟨by omega, by omega, ?_⟩⟩
      have he : nats (s.extract 2 (a.length + 3)) = a ++ [c] := by
        rw [nats_extract, hs]
        show (List.drop 0 (a ++ c :: rest)).take (a.length + 3 - 2) = _
        rw [List.drop_zero, show a.length + 3 - 2 = a.length + 1 by omega, List.take_append, List.take_of_length_le (by omega), Nat.add_sub_cancel_left]
        rfl
      rw [hdr, run_one (k := [(endsK (a ++ [c]), 0)]) (w2 := []) (by rw [mach_args]; unfold argsM; rw [if_neg hA]), he]
      rfl
termination_by m a rest => m
theorem esc_ok (s : ByteArray) (rest : List Nat) (hs : nats s = 27 :: rest) (hz : s.size ≤ 1000000) :
    ∃ r, duetref17_escape.f 13 s = some r ∧ Parsed (nats s) [27] rest r := by
  have hl : s.size = rest.length + 1 := by rw [← nats_len, hs]; rfl
  unfold duetref17_escape.f
  cases rest with
  | nil =>
    rw [if_pos (by simp at hl; omega)]
    exact ⟨_, rfl, 0, rfl, .inl ⟨rfl, by rw [hs]; rfl⟩⟩
  | cons c rest =>
    rw [List.length_cons] at hl
    obtain ⟨hb, _⟩ := bt_list (s := s) (p := [27]) hs
    change bt s 1 = (c : Int) at hb
    rw [if_neg (by omega), if_pos (by omega), hb]
    have hll : (nats s).length = s.size := nats_len s
    by_cases h1 : c = 91
    · subst h1
      rw [if_pos (by omega)]
      obtain ⟨r, h1, h2⟩ := row_ok s 4 [] rest rfl hs hz
      refine ⟨_, by unfold duetref17_row.f; rw [show (2 : Int) = (([] : List Nat).length + 2 : Nat) from rfl, h1]; rfl, ?_⟩
      obtain ⟨n, h3, h5⟩ := h2
      refine ⟨n, h3, ?_⟩
      rw [run_one (k := []) (w2 := [27, 91]) (by rw [mach_esc]; unfold secondM; rw [if_pos rfl])]
      exact h5
    rw [if_neg (by omega)]
    by_cases h2 : c = 79
    · subst h2
      rw [if_pos (by omega)]
      have hm : mach [27] 79 = ([], [27, 79]) := rfl
      unfold Parsed
      rw [run_one hm]
      cases rest with
      | nil =>
        rw [if_pos (by simp at hl; omega)]
        exact ⟨_, rfl, 0, rfl, .inl ⟨rfl, by rw [hs]; rfl⟩⟩
      | cons d rest =>
        rw [List.length_cons] at hl
        obtain ⟨hd, _⟩ := bt_list (s := s) (p := [27, 79]) hs
        change bt s 2 = (d : Int) at hd
        rw [if_neg (by omega), if_pos (by omega), hd]
        have hdr : (nats s).drop 3 = rest := by rw [hs]; rfl
        have hmo : mach [27, 79] d = otherM d := rfl
        by_cases h3 : d = 72
        · rw [if_pos (by omega)]
          refine ⟨_, rfl, 3, rfl, .inr ⟨by decide, by omega, ?_⟩⟩
          rw [hdr, run_one (k := [(8, 0)]) (w2 := []) (by rw [hmo]; unfold otherM; rw [if_pos h3])]; rfl
        rw [if_neg (by omega)]
        by_cases h4 : d = 70
        · rw [if_pos (by omega)]
          refine ⟨_, rfl, 3, rfl, .inr ⟨by decide, by omega, ?_⟩⟩
          rw [hdr, run_one (k := [(9, 0)]) (w2 := []) (by rw [hmo]; unfold otherM; rw [if_neg h3, if_pos h4])]; rfl
        · rw [if_neg (by omega)]
          refine ⟨_, rfl, 3, rfl, .inr ⟨by decide, by omega, ?_⟩⟩
          rw [hdr, run_one (k := [(12, 0)]) (w2 := []) (by rw [hmo]; unfold otherM; rw [if_neg h3, if_neg h4])]; rfl
    rw [if_neg (by omega)]
    have hdr : (nats s).drop 2 = rest := by rw [hs]; rfl
    have hdr1 : (nats s).drop 1 = c :: rest := by rw [hs]; rfl
    have hend : ¬ (32 ≤ c ∧ c ≤ 127) → ∃ r, some ((11, 0, 1) : Int × Int × Int) = some r ∧ Parsed (nats s) [27] (c :: rest) r := fun h => by
      refine ⟨_, rfl, 1, rfl, .inr ⟨by decide, by omega, ?_⟩⟩
      rw [hdr1, run_again (k := (11, 0)) (by rw [mach_esc]; unfold secondM; rw [if_neg h1, if_neg h2, if_neg h])]
    by_cases h3 : (c : Int) ≥ 32
    · rw [if_pos h3]
      by_cases h4 : (c : Int) ≤ 127
      · rw [if_pos h4]
        refine ⟨_, rfl, 2, rfl, .inr ⟨by decide, by omega, ?_⟩⟩
        rw [hdr, run_one (k := [(3, (c : Int))]) (w2 := []) (by rw [mach_esc]; unfold secondM; rw [if_neg h1, if_neg h2, if_pos ⟨by omega, by omega⟩]), show wrap64 (c : Int) = (c : Int) by unfold wrap64; omega]; rfl
      · rw [if_neg h4]; exact hend (by omega)
    · rw [if_neg h3]; exact hend (by omega)
theorem val_snoc (b : Nat) (r : List Nat) (c : Nat) : valN (b :: (r ++ [c])) = 64 * valN (b :: r) + c - 128 := by
  show List.foldl _ _ (r ++ [c]) = 64 * List.foldl _ _ r + _ - 128
  rw [List.foldl_append]; rfl
theorem wrap_id (x : Int) (h1 : -9000000000000000000 ≤ x) (h2 : x ≤ 9000000000000000000) : wrap64 x = x := by unfold wrap64; omega
theorem long_end (k : Nat) (s : ByteArray) (b : Nat) (r : List Nat) (hn : r.length + 1 = sizeN b) :
    duetref17_long.l0 (k + 1) s ((sizeN b : Nat) : Int) (valN (b :: r)) (leastN b) ((sizeN b : Nat) : Int) = some ((runeKey (b :: r)).1, (runeKey (b :: r)).2, ((sizeN b : Nat) : Int)) := by
  rw [duetref17_long.l0, if_neg (by omega)]
  unfold runeKey
  generalize valN (b :: r) = v
  rw [show List.headD (b :: r) 0 = b from rfl]
  generalize leastN b = z
  by_cases h1 : v < z
  · rw [if_pos h1, if_pos (.inl h1)]
  rw [if_neg h1]
  by_cases h2 : v > 1114111
  · rw [if_pos h2, if_pos (by omega)]
  rw [if_neg h2]
  by_cases h3 : v ≥ 55296
  · rw [if_pos h3]
    by_cases h4 : v ≤ 57343
    · rw [if_pos h4, if_pos (by omega)]
    rw [if_neg h4]
    rw [if_pos (by omega), if_neg (by omega), if_neg (by omega)]
  rw [if_neg h3]
  by_cases h5 : v ≥ 128
  · rw [if_pos h5]
    by_cases h6 : v ≤ 159
    · rw [if_pos h6, if_pos (by omega)]
    · rw [if_neg h6, if_neg (by omega)]
  · rw [if_neg h5, if_neg (by omega)]
theorem wrap_val (v c : Int) (h1 : 0 ≤ v) (h2 : v ≤ 400000) (h3 : 0 ≤ c) (h4 : c ≤ 255) : wrap64 (wrap64 (wrap64 (64 * v) + c) - 128) = 64 * v + c - 128 := by
  rw [wrap_id (64 * v) (by omega) (by omega), wrap_id (64 * v + c) (by omega) (by omega), wrap_id _ (by omega) (by omega)]
theorem bnd_next (i : Nat) (v c : Int) (h : i = 0 ∨ i = 1 ∨ i = 2) (g : Nat → Int) (g1 : g 1 = 64) (g2 : g 2 = 5000) (g3 : g 3 = 400000) (g4 : g 4 = 30000000) (h1 : v ≤ g (i + 1)) (h2 : c ≤ 191) : 64 * v + c - 128 ≤ g (i + 2) ∧ v ≤ 400000 := by
  rcases h with rfl | rfl | rfl
  · rw [show 0 + 1 = 1 from rfl] at h1; rw [show 0 + 2 = 2 from rfl]; omega
  · rw [show 1 + 1 = 2 from rfl] at h1; rw [show 1 + 2 = 3 from rfl]; omega
  · rw [show 2 + 1 = 3 from rfl] at h1; rw [show 2 + 2 = 4 from rfl]; omega
def bnd (i : Nat) : Int := if i ≤ 1 then 64 else if i = 2 then 5000 else if i = 3 then 400000 else 30000000
theorem step_val (b : Nat) (r : List Nat) (c : Nat) (h1 : 128 ≤ c) (h2 : c ≤ 191) (hr : r.length = 0 ∨ r.length = 1 ∨ r.length = 2) (v0 : Hid (0 ≤ valN (b :: r))) (v1 : Hid (valN (b :: r) ≤ bnd (r.length + 1))) :
    Hid (0 ≤ valN (b :: (r ++ [c]))) ∧ Hid (valN (b :: (r ++ [c])) ≤ bnd (r.length + 2)) ∧ wrap64 (wrap64 (wrap64 (64 * valN (b :: r)) + (c : Int)) - 128) = valN (b :: (r ++ [c])) := by
  have v0 := v0.out
  have v1 := v1.out
  rw [val_snoc]
  generalize valN (b :: r) = v at *
  obtain ⟨hq1, hvb⟩ := bnd_next r.length v (c : Int) hr bnd rfl rfl rfl rfl v1 (by clear v0 v1; omega)
  clear v1
  have h3 : 0 ≤ 64 * v + (c : Int) - 128 := by clear hq1; omega
  refine ⟨Lib.hid h3, Lib.hid hq1, ?_⟩
  clear hq1
  exact wrap_val _ _ v0 hvb (by omega) (by omega)
theorem long_ok (s : ByteArray) (hz : s.size ≤ 1000000) (b : Nat) (hb1 : 194 ≤ b) (hb2 : b ≤ 244) : ∀ (m k : Nat) (r rest : List Nat), r.length + 1 + m = sizeN b → 1 ≤ m → nats s = b :: (r ++ rest) → Hid (0 ≤ valN (b :: r)) → Hid (valN (b :: r) ≤ bnd (r.length + 1)) → (∀ x ∈ nats s, x < 256) →
    ∃ q, duetref17_long.l0 (k + m + 1) s ((sizeN b : Nat) : Int) (valN (b :: r)) (leastN b) ((r.length + 1 : Nat) : Int) = some q ∧ Parsed (nats s) (b :: r) rest q
  | m, k, r, [], hm, h1, hs, v0, v1, hx => by
    have hl : s.size = r.length + 1 := by rw [← nats_len, hs]; simp
    rw [duetref17_long.l0, if_pos (by omega), if_pos (by omega)]
    exact ⟨_, rfl, 0, rfl, .inl ⟨rfl, by rw [hs, List.append_nil]; rfl⟩⟩
  | 0, k, r, c :: rest, hm, h1, hs, v0, v1, hx => by omega
  | m + 1, k, r, c :: rest, hm, h1, hs, v0, v1, hx => by
    have hs' : nats s = (b :: r) ++ c :: rest := hs
    obtain ⟨hb, hlt⟩ := bt_list hs'
    rw [show (b :: r).length = r.length + 1 from rfl] at hb hlt
    have hc : c < 256 := hx c (by rw [hs']; simp)
    have hll : (nats s).length = s.size := nats_len s
    have hdr : (nats s).drop (r.length + 1) = c :: rest := by rw [hs']; exact List.drop_left ..
    have hw : wrap64 (c : Int) = (c : Int) := by unfold wrap64; omega
    have hsz := (sizeN_ge b).2
    rw [show k + (m + 1) + 1 = (k + m + 1) + 1 by omega, duetref17_long.l0, if_pos (by omega), if_neg (by omega), if_pos (by omega), if_pos (by omega), hb, hw]
    have hmach : mach (b :: r) c = moreM b r c := mach_more _ _ _ (by omega)
    have bad : c < 128 ∨ 191 < c → ∃ q, some ((12, 0, ((r.length + 1 : Nat) : Int)) : Int × Int × Int) = some q ∧ Parsed (nats s) (b :: r) (c :: rest) q := fun h => by
      refine ⟨_, rfl, r.length + 1, rfl, .inr ⟨by omega, by omega, ?_⟩⟩
      rw [hdr, run_again (k := (12, 0)) (by rw [hmach]; unfold moreM; rw [if_pos h])]
    by_cases h3 : (c : Int) < 128
    · rw [if_pos h3]; exact bad (.inl (by omega))
    rw [if_neg h3]
    by_cases h4 : (c : Int) > 191
    · rw [if_pos h4]; exact bad (.inr (by omega))
    rw [if_neg h4]
    have hr3 : r.length = 0 ∨ r.length = 1 ∨ r.length = 2 := by omega
    obtain ⟨hv0, hv1, e1⟩ := step_val b r c (by omega) (by omega) hr3 v0 v1
    have e2 : wrap64 (((r.length + 1 : Nat) : Int) + 1) = ((r.length + 2 : Nat) : Int) := by rw [wrap_id _ (by omega) (by omega)]; omega
    clear hw
    rw [e1, e2]
    clear e1 e2
    by_cases h5 : m = 0
    · subst h5
      have hn : (r ++ [c]).length + 1 = sizeN b := by simp; omega
      have he := long_end k s b (r ++ [c]) hn
      rw [show r.length + 2 = sizeN b by omega]
      refine ⟨_, he, sizeN b, rfl, .inr ⟨by omega, by omega, ?_⟩⟩
      have hdr2 : (nats s).drop (sizeN b) = rest := by
        rw [show sizeN b = (r.length + 1) + 1 by omega, ← List.drop_drop, hdr]; rfl
      rw [hdr2, run_one (k := [runeKey (b :: (r ++ [c]))]) (w2 := []) (by rw [hmach]; unfold moreM; rw [if_neg (by omega), if_neg (by omega)])]
      rfl
    · have ih := long_ok s hz b hb1 hb2 m k (r ++ [c]) rest (by simp; omega) (by omega) (by rw [hs]; simp) hv0 (by rw [show (r ++ [c]).length + 1 = r.length + 2 by simp]; exact hv1) hx
      rw [show (r ++ [c]).length + 1 = r.length + 2 by simp] at ih
      obtain ⟨q, h6, n, h7, h8⟩ := ih
      refine ⟨q, h6, n, h7, ?_⟩
      rw [run_one (k := []) (w2 := b :: (r ++ [c])) (by rw [hmach]; unfold moreM; rw [if_neg (by omega), if_pos (by omega)])]
      exact h8
theorem nats_lt (s : ByteArray) : ∀ x ∈ nats s, x < 256 := fun x hx => by
  unfold nats at hx
  obtain ⟨c, _, rfl⟩ := List.mem_map.1 hx
  exact UInt8.toNat_lt _
theorem longf_ok (s : ByteArray) (hz : s.size ≤ 1000000) (b : Nat) (rest : List Nat) (hs : nats s = b :: rest) (hb1 : 194 ≤ b) (hb2 : b ≤ 244) : ∃ q, duetref17_long.f 13 s = some q ∧ Parsed (nats s) [b] rest q := by
  obtain ⟨hb, hlt⟩ := bt_list (s := s) (p := []) hs
  change bt s 0 = (b : Int) at hb
  have hl := sizeN_ge b
  have hw : wrap64 (b : Int) = (b : Int) := by unfold wrap64; omega
  have key : ∀ k, 12 - sizeN b = k → ∃ q, duetref17_long.l0 12 s ((sizeN b : Nat) : Int) (valN [b]) (leastN b) ((0 + 1 : Nat) : Int) = some q ∧ Parsed (nats s) [b] rest q := fun k hk => by
    have := long_ok s hz b hb1 hb2 (sizeN b - 1) k [] rest (by simp; omega) (by omega) hs (Lib.hid (by unfold valN; simp; split <;> (try split) <;> omega)) (Lib.hid (by unfold valN bnd; simp; split <;> (try split) <;> omega)) (nats_lt s)
    rw [show k + (sizeN b - 1) + 1 = 12 by omega] at this
    exact this
  obtain ⟨q, h1, h2⟩ := key _ rfl
  refine ⟨q, ?_, h2⟩
  unfold duetref17_long.f
  simp only [List.length_nil] at hlt
  rw [if_pos (by omega), hb, hw, ← h1]
  have hv : valN [b] = (b : Int) - (if 240 ≤ b then 240 else if 224 ≤ b then 224 else 192) := rfl
  rw [hv]
  unfold sizeN leastN
  by_cases h3 : 240 ≤ b
  · rw [if_pos (by omega), if_pos h3, if_pos h3, if_pos h3, duetref17_long.j0, show wrap64 ((b : Int) - 240) = (b : Int) - 240 by unfold wrap64; omega]; rfl
  rw [if_neg (by omega), if_neg h3, if_neg h3, if_neg h3]
  by_cases h4 : 224 ≤ b
  · rw [if_pos (by omega), if_pos h4, if_pos h4, if_pos h4, duetref17_long.j0, show wrap64 ((b : Int) - 224) = (b : Int) - 224 by unfold wrap64; omega]; rfl
  · rw [if_neg (by omega), if_neg h4, if_neg h4, if_neg h4, duetref17_long.j0, show wrap64 ((b : Int) - 192) = (b : Int) - 192 by unfold wrap64; omega]; rfl
theorem one_ok (s : ByteArray) (hz : s.size ≤ 1000000) (h0 : 0 < s.size) : ∃ q, duetref17_One.f 13 s = some q ∧ Parsed (nats s) [] (nats s) q := by
  obtain ⟨c, rest, hs⟩ : ∃ c rest, nats s = c :: rest := by
    cases h : nats s with
    | nil => have := nats_len s; rw [h] at this; simp at this; omega
    | cons c r => exact ⟨c, r, rfl⟩
  obtain ⟨hb, hlt⟩ := bt_list (s := s) (p := []) hs
  change bt s 0 = (c : Int) at hb
  have hc := nats_lt s c (by rw [hs]; simp)
  have hw : wrap64 (c : Int) = (c : Int) := by unfold wrap64; omega
  have hll : (nats s).length = s.size := nats_len s
  have hdr : (nats s).drop 1 = rest := by rw [hs]; rfl
  have hm : mach [] c = firstM c := rfl
  have plain : ∀ (k1 k2 : Int), firstM c = ([(k1, k2)], []) → ∃ q, some ((k1, k2, 1) : Int × Int × Int) = some q ∧ Parsed (nats s) [] (nats s) q := fun k1 k2 h => by
    refine ⟨_, rfl, 1, rfl, .inr ⟨by decide, by omega, ?_⟩⟩
    rw [hdr, hs, run_one (hm.trans h)]; rfl
  unfold duetref17_One.f
  rw [if_pos (by omega), hb, hw]
  by_cases h1 : c = 27
  · rw [if_pos (by omega)]
    subst h1
    obtain ⟨q, h1, n, h3, h4⟩ := esc_ok s rest hs hz
    refine ⟨q, by rw [h1]; rfl, n, h3, ?_⟩
    rw [show run [] (nats s) = run [27] rest by rw [hs, run_one (k := []) (w2 := [27]) rfl]; rfl]
    exact h4
  rw [if_neg (by omega)]
  by_cases h2 : c < 32
  · rw [if_pos (by omega), show wrap64 ((c : Int) + 96) = (c : Int) + 96 by unfold wrap64; omega]
    exact plain _ _ (by unfold firstM; rw [if_neg h1, if_pos h2])
  rw [if_neg (by omega)]
  by_cases h3 : c = 127
  · rw [if_pos (by omega)]
    exact plain _ _ (by unfold firstM; rw [if_neg h1, if_neg h2, if_pos h3])
  rw [if_neg (by omega)]
  by_cases h4 : c < 127
  · rw [if_pos (by omega)]
    exact plain _ _ (by unfold firstM; rw [if_neg h1, if_neg h2, if_neg h3, if_pos h4])
  rw [if_neg (by omega)]
  by_cases h5 : 194 ≤ c
  · rw [if_pos (by omega)]
    by_cases h6 : c ≤ 244
    · rw [if_pos (by omega)]
      obtain ⟨q, h7, n, h8, h9⟩ := longf_ok s hz c rest hs h5 h6
      refine ⟨q, by rw [h7]; rfl, n, h8, ?_⟩
      rw [show run [] (nats s) = run [c] rest by rw [hs, run_one (first_long c h5 h6)]; rfl]
      exact h9
    · rw [if_neg (by omega)]
      exact plain _ _ (by unfold firstM; rw [if_neg h1, if_neg h2, if_neg h3, if_neg h4, if_neg (by omega)])
  · rw [if_neg (by omega)]
    exact plain _ _ (by unfold firstM; rw [if_neg h1, if_neg h2, if_neg h3, if_neg h4, if_neg (by omega)])
end Go.Proofs.YtmgdikfgejablaaDoor.Ro
