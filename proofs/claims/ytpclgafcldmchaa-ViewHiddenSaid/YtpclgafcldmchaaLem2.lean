/- Text, the sign of a rune, and what the document's answers are. -/
import Derived.Test.YtpclgafcldmchaaLem
set_option linter.unusedVariables false
set_option linter.unusedSimpArgs false
namespace Go.Proofs.Ytpclgafcldmchaa.Lem
open Go.RowKit Go.Proofs.Ytpclgafcldmchaa.P Go.Proofs.Ytpclgafcldmchaa.It Go.Proofs.Ytpclgafcldmchaa.Giv Go.Proofs.YtpclgafcldmchaaW.PrintWords Go.Proofs.YtpclgafcldmchaaW.PrintLast Go.Proofs.YtpclgafcldmchaaW.PrintMore
def signS (n : Int) : ByteArray := Utf8.encode (clip n)
theorem ba_ext {a b : ByteArray} (h : a.data.toList = b.data.toList) : a = b := ByteArray.ext (Array.toList_inj.1 h)
theorem clip_mid (n : Int) (h : -2147483648 ≤ n) (h1 : n ≤ 2147483647) : clip n = n := by
  unfold clip; rw [if_pos (by unfold wrap32; omega)]
theorem clip_cases (n : Int) : clip n = n ∨ clip n = -1 := by
  unfold clip; split <;> simp
theorem sign_bad (n : Int) (h : n < 0 ∨ (55296 ≤ n ∧ n ≤ 57343) ∨ 1114111 < n) : signS n = ⟨#[239, 191, 189]⟩ := by
  unfold signS
  have neg : ∀ m : Int, m < 0 → Utf8.encode m = ⟨#[239, 191, 189]⟩ := by
    intro m hm
    unfold Utf8.encode
    have : Utf8.valid m = false := by
      unfold Utf8.valid
      simp
      omega
    rw [this]
    simp only [Bool.false_eq_true, if_false]
    decide +kernel
  rcases clip_cases n with e | e
  · rw [e]
    rcases Int.lt_or_le n 0 with h0 | h0
    · exact neg n h0
    · obtain ⟨m, rfl⟩ : ∃ m : Nat, n = (m : Int) := ⟨n.toNat, by omega⟩
      exact ba_ext (Go.Extern.FmtText.encBad m (by omega))
  · rw [e]; exact neg _ (by omega)
theorem wid (q : Nat) (h : q < 2000000) : wrap64 ((q : Nat) : Int) = (q : Int) := by unfold wrap64; omega
theorem tdn (m d : Nat) : Int.tdiv (m : Int) (d : Int) = ((m / d : Nat) : Int) := by rw [Int.tdiv_eq_ediv_of_nonneg (by omega)]; rfl
theorem num (n : Int) (m : Nat) (h : n = (m : Int)) : UInt8.ofNat n.toNat = UInt8.ofNat m := by rw [h]; rfl
set_option maxHeartbeats 4000000 in
theorem Sign_f (k : Nat) (hk : 1 ≤ k) (n : Int) : duetref12_Sign.f k n = some (signS n) := by
  obtain ⟨k, rfl⟩ : ∃ j, k = j + 1 := ⟨k - 1, by omega⟩
  have bad : ∀ b, b = true → (n < 0 ∨ (55296 ≤ n ∧ n ≤ 57343) ∨ 1114111 < n) → duetref12_Sign.j0 (k + 1) n b = some (signS n) := by
    rintro b rfl h
    rw [duetref12_Sign.j0, if_pos rfl, sign_bad n h]
  have good : ¬ (n < 0 ∨ (55296 ≤ n ∧ n ≤ 57343) ∨ 1114111 < n) → duetref12_Sign.j0 (k + 1) n false = some (signS n) := by
    intro h
    obtain ⟨m, rfl⟩ : ∃ m : Nat, n = (m : Int) := ⟨n.toNat, by omega⟩
    rw [duetref12_Sign.j0, if_neg (by simp)]
    unfold signS
    rw [clip_mid _ (by omega) (by omega)]
    have t64 : Int.tdiv (m : Int) 64 = ((m / 64 : Nat) : Int) := tdn m 64
    have t40 : Int.tdiv (m : Int) 4096 = ((m / 4096 : Nat) : Int) := tdn m 4096
    have t26 : Int.tdiv (m : Int) 262144 = ((m / 262144 : Nat) : Int) := tdn m 262144
    have w64 : wrap64 ((m / 64 : Nat) : Int) = ((m / 64 : Nat) : Int) := wid _ (Nat.lt_of_le_of_lt (Nat.div_le_self _ _) (by omega))
    have w40 : wrap64 ((m / 4096 : Nat) : Int) = ((m / 4096 : Nat) : Int) := wid _ (Nat.lt_of_le_of_lt (Nat.div_le_self _ _) (by omega))
    have w26 : wrap64 ((m / 262144 : Nat) : Int) = ((m / 262144 : Nat) : Int) := wid _ (Nat.lt_of_le_of_lt (Nat.div_le_self _ _) (by omega))
    have low : ∀ q : Nat, wrap64 (128 + Int.tmod (q : Int) 64) % 256 = ((128 + q % 64 : Nat) : Int) := by
      intro q
      have h1 : Int.tmod (q : Int) 64 = ((q % 64 : Nat) : Int) := by rw [Int.tmod_eq_emod_of_nonneg (by omega)]; rfl
      have h2 : q % 64 < 64 := Nat.mod_lt _ (by decide)
      rw [h1, show (128 : Int) + ((q % 64 : Nat) : Int) = ((128 + q % 64 : Nat) : Int) by omega, wid _ (by omega)]
      generalize q % 64 = z at h2 ⊢
      omega
    have top : ∀ a q : Nat, a + q < 256 → wrap64 ((a : Int) + (q : Int)) % 256 = ((a + q : Nat) : Int) := by
      intro a q h; rw [show (a : Int) + (q : Int) = ((a + q : Nat) : Int) by omega, wid _ (by omega)]; omega
    rw [t64, t40, t26, w64, w40, w26, low, low, low]
    by_cases h1 : m < 128
    · rw [if_pos (by omega)]
      refine congrArg some (ba_ext ?_)
      rw [strOfNums_data, Go.Extern.FmtText.enc1 m h1]
      simp only [List.map_cons, List.map_nil]
      rw [num _ m (by omega)]
    · rw [if_neg (by omega)]
      by_cases h2 : m < 2048
      · rw [if_pos (by omega)]
        refine congrArg some (ba_ext ?_)
        have hq : m / 64 < 32 := (Nat.div_lt_iff_lt_mul (by decide)).2 (by omega)
        have e := top 192 (m / 64) (Nat.lt_of_lt_of_le (Nat.add_lt_add_left hq 192) (by decide))
        rw [show ((192 : Nat) : Int) = 192 from rfl] at e
        rw [strOfNums_data, Go.Extern.FmtText.enc2 m h1 h2, e]
        simp only [List.map_cons, List.map_nil, Int.toNat_natCast]
      · rw [if_neg (by omega)]
        by_cases h3 : m < 65536
        · rw [if_pos (by omega)]
          refine congrArg some (ba_ext ?_)
          have hq : m / 4096 < 16 := (Nat.div_lt_iff_lt_mul (by decide)).2 (by omega)
          have e := top 224 (m / 4096) (Nat.lt_of_lt_of_le (Nat.add_lt_add_left hq 224) (by decide))
          rw [show ((224 : Nat) : Int) = 224 from rfl] at e
          rw [strOfNums_data, Go.Extern.FmtText.enc3 m h2 h3 (by omega), e]
          simp only [List.map_cons, List.map_nil, Int.toNat_natCast]
        · rw [if_neg (by omega)]
          refine congrArg some (ba_ext ?_)
          have hq : m / 262144 < 5 := (Nat.div_lt_iff_lt_mul (by decide)).2 (by omega)
          have e := top 240 (m / 262144) (Nat.lt_of_lt_of_le (Nat.add_lt_add_left hq 240) (by decide))
          rw [show ((240 : Nat) : Int) = 240 from rfl] at e
          rw [strOfNums_data, Go.Extern.FmtText.enc4 m h3 (by omega), e]
          simp only [List.map_cons, List.map_nil, Int.toNat_natCast]
  unfold duetref12_Sign.f
  by_cases h0 : n < 0
  · rw [if_pos h0]; exact bad _ rfl (.inl h0)
  · rw [if_neg h0]
    by_cases h1 : n > 1114111
    · rw [if_pos h1]; exact bad _ rfl (.inr (.inr h1))
    · rw [if_neg h1]
      by_cases h2 : n ≥ 55296
      · rw [if_pos h2]
        by_cases h3 : n ≤ 57343
        · exact bad _ (decide_eq_true h3) (.inr (.inl ⟨h2, h3⟩))
        · rw [decide_eq_false h3]; exact good (by omega)
      · rw [if_neg h2]; exact good (by omega)
theorem sign_size (n : Int) : (signS n).size ≤ 4 := by
  have := runesBytes_size_le [clip n]
  simpa [runesBytes, signS] using this
theorem foldl_app (ns : List Int) : ∀ a : ByteArray, ns.foldl (fun r n => r ++ Utf8.encode n) a = a ++ runesBytes ns := by
  induction ns with
  | nil => intro a; simp [runesBytes]
  | cons n ns ih =>
    intro a
    unfold runesBytes
    rw [List.foldl_cons, List.foldl_cons, ih, ih, ByteArray.empty_append, ByteArray.append_assoc]
theorem runes_cons (n : Int) (ns : List Int) : runesBytes (n :: ns) = Utf8.encode n ++ runesBytes ns := by
  rw [runesBytes, List.foldl_cons, foldl_app, ByteArray.empty_append]
theorem runes_append (a b : List Int) : runesBytes (a ++ b) = runesBytes a ++ runesBytes b := by
  rw [runesBytes, List.foldl_append, foldl_app]; rfl
theorem clips_append (a b : List S44) : clips (a ++ b) = clips a ++ clips b := by simp [clips]
theorem clips_seen : ∀ (l m : List S44) , clips l = (seenFrom m.length l).map fun i => clip ((m ++ l).getD i z44).f2
  | [], m => rfl
  | x :: l, m => by
    have h := clips_seen l (m ++ [x])
    rw [List.append_assoc, List.length_append] at h
    have e : clips (x :: l) = (if x.f3.length = 0 then [clip x.f2] else []) ++ clips l := by
      unfold clips; rw [List.filter_cons]
      by_cases h : x.f3.length = 0
      · rw [if_pos (by simpa using h), if_pos h]; rfl
      · rw [if_neg (by simpa using h), if_neg h]; rfl
    rw [e, h, seenFrom]
    have g : ((m ++ x :: l).getD m.length z44) = x := by
      rw [List.getD_eq_getElem?_getD, List.getElem?_append_right (Nat.le_refl _)]; simp
    split
    · rw [List.map_cons, g]; rfl
    · rfl
theorem clips_eq (l : List S44) : clips l = (seenN l).map fun i => clip (l.getD i z44).f2 := clips_seen l []
theorem rdf2 (l : List S44) (n : Nat) : (rd_T44 l (n : Int)).f2 = (l.getD n z44).f2 := by unfold rd_T44; rw [Int.toNat_natCast]
theorem refText_l0 (l : List S44) (hl : l.length ≤ 1000) : ∀ (m i k : Nat) (a : ByteArray), i + m = (seenN l).length → m + 1 < k → a.size ≤ 4 * i →
    duetref12_Text.l0 k l (seenL l) a (i : Int) = some (a ++ runesBytes (((seenN l).drop i).map fun i => clip (l.getD i z44).f2))
  | m, i, 0, _, _, hk, _ => absurd hk (Nat.not_lt_zero _)
  | 0, i, k + 1, a, hm, _, _ => by
    unfold duetref12_Text.l0; rw [if_neg (by rw [seenL_len]; omega), List.drop_of_length_le (by omega)]; simp [runesBytes]
  | m + 1, i, k + 1, a, hm, hk, ha => by
    have hn := seenN_len l
    have hi : i < (seenN l).length := by omega
    have e : rd (seenL l) (i : Int) = ((seenN l)[i] : Int) := by rw [rdI _ _ (by rw [seenL_len]; exact hi)]; simp [seenL_eq]
    have := seenN_lt l _ (List.getElem_mem hi)
    have hs := sign_size (l.getD (seenN l)[i] z44).f2
    unfold duetref12_Text.l0
    rw [if_pos (by rw [seenL_len]; omega), if_pos (by omega), e, if_pos (by omega), if_pos (by omega), rdf2, Sign_f _ (by omega), Option.bind_some, if_pos (by omega), w1 i (seenN l).length (by omega) (by omega),
      refText_l0 l hl m (i + 1) k _ (by omega) (by omega) (by rw [ByteArray.size_append]; omega), List.drop_eq_getElem_cons hi, List.map_cons, runes_cons, ByteArray.append_assoc]
    rfl
theorem refText_f (k : Nat) (l : List S44) (hl : l.length ≤ 1000) (hk : l.length + 1 < k) : duetref12_Text.f k l = some (runesBytes (clips l)) := by
  have hn := seenN_len l
  unfold duetref12_Text.f
  have := refText_l0 l hl (seenN l).length 0 k ⟨#[]⟩ (by omega) (by omega) (by decide)
  rw [refSeen_f _ l hl (by omega), Option.bind_some, show (0 : Int) = ((0 : Nat) : Int) from rfl, this, clips_eq, List.drop_zero]
  exact congrArg some ByteArray.empty_append
/-! ### The document's answers -/
def doc : List S44 := [⟨⟨1, 0⟩, ⟨0, 0⟩, 97, []⟩, ⟨⟨2, 0⟩, ⟨0, 0⟩, 98, [0]⟩, ⟨⟨3, 0⟩, ⟨0, 0⟩, 8364, []⟩]
theorem live_f (k : Nat) (hk : 70 ≤ k) : duetlaw12_live.f k = some true := by
  have e : duetlaw12_live.f k = ((view_Ref.f k doc 2).bind fun bt163 => ((view_Ref.f k doc 3).bind fun bt167 => ((view_Index.f k doc 2 0).bind fun bt171 => ((view_Index.f k doc 9 0).bind fun bt173 => ((view_Range.f k doc 0 2).bind fun bt175 => ((view_Text.f doc).bind fun t179 => (if t179.toList = ([97, 226, 130, 172] : List UInt8) then ((view_Seen.f doc).bind fun t180 => ((duetref01_Same.f k t180 (([0, 2] : List Int))).bind fun t186 => (if t186 = true then (if (bt163.1 == 3 && (bt163.2.1 == 0)) = true then (if bt163.2.2 = 0 then (if bt167.2.2 = 1 then (if bt171.1 = 1 then (if bt171.2 = 0 then (if bt173.2 = 6 then (if (bt175.1.length : Int) = 2 then (some (bt175.2 == 0)) else (some false)) else (some false)) else (some false)) else (some false)) else (some false)) else (some false)) else (some false)) else (some false)))) else (some false)))))))) := rfl
  have hd : doc.length = 3 := rfl
  rw [e, Ref_f k (by omega) doc (by decide), Option.bind_some, Ref_f k (by omega) doc (by decide), Option.bind_some, Index_f k doc (by decide) (by omega), Option.bind_some, Index_f k doc (by decide) (by omega), Option.bind_some,
    Range_f k doc (by decide) (by omega), Option.bind_some, Text_f doc (by decide), Option.bind_some, if_pos (by decide +kernel), Seen_f doc (by decide), Option.bind_some, Same_f k _ _ (by decide) (by rw [show (seenL doc).length = 2 by decide]; omega), Option.bind_some]
  decide +kernel
end Go.Proofs.Ytpclgafcldmchaa.Lem
