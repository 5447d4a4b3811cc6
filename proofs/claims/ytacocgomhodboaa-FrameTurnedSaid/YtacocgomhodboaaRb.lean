/- The reference's bare and Open, in the words of the program's own fold. Plain. -/
import Derived.Test.YtacocgomhodboaaHs
import Derived.Test.YtacocgomhodboaaPa
set_option linter.unusedVariables false
set_option linter.unusedSimpArgs false
namespace Go.Proofs.Ytacocgomhodboaa.Rb
open Go.RowKit Go.Proofs.Ytacocgomhodboaa.Pk Go.Proofs.Ytacocgomhodboaa.Ba Go.Proofs.Ytacocgomhodboaa.Bw Go.Proofs.Ytacocgomhodboaa.En Go.Proofs.Ytacocgomhodboaa.Fs Go.Proofs.Ytacocgomhodboaa.Lem Go.Proofs.Ytacocgomhodboaa.L3 Go.Proofs.Ytacocgomhodboaa.Pa Go.Proofs.Ytacocgomhodboaa.Hs Go.Proofs.Ytacocgomhodboaa.P Go.Proofs.YtacocgomhodboaaW.PrintWords Go.Proofs.YtacocgomhodboaaW.PrintLast
theorem refOpen_f (s : ByteArray) (hs : s.size ≤ 140737488351000) : duetref02_Open.f (10 * (s.size - 3) + 1) s = some (openS s) := by
  unfold duetref02_Open.f openS
  by_cases h3 : s.size < 3
  · rw [if_pos (by omega), if_pos h3]
  · have e : wrap64 ((s.size : Int) - 3) = ((s.size - 3 : Nat) : Int) := by unfold wrap64; omega
    rw [if_neg (by omega), if_neg h3, e, if_pos (by omega), if_pos (by omega), Int.toNat_natCast]
    have hb := refSeal_f (bodyOf s) (by rw [body_size]; omega)
    rw [body_size] at hb
    have hb' : duetref02_Seal.f (10 * (s.size - 3) + 1) (s.extract 0 (s.size - 3)) = some (sealS (bodyOf s)) := hb
    rw [hb', Option.bind_some]
    by_cases he : s = sealS (bodyOf s)
    · rw [if_pos (by rw [← he]), if_pos he]; rfl
    · rw [if_neg (fun x => he (by rw [toList_data, toList_data] at x; exact ByteArray.ext (Array.toList_inj.1 x.symm))), if_neg he]
theorem okE_iff (c : UInt8) : okE c = true ↔ c = 94 ∨ c = 93 := by
  unfold okE
  rw [Bool.or_eq_true, decide_eq_true_eq, decide_eq_true_eq]
  have hx : ∀ d : UInt8, c ^^^ 32 = d ↔ c = d ^^^ 32 := fun d => ⟨fun e => by rw [← e, UInt8.xor_assoc, UInt8.xor_self, UInt8.xor_zero], fun e => by rw [e, UInt8.xor_assoc, UInt8.xor_self, UInt8.xor_zero]⟩
  rw [hx, hx]
  rfl
theorem nat_iff (c d : UInt8) : ((c.toNat : Nat) : Int) = ((d.toNat : Nat) : Int) ↔ c = d := ⟨fun e => UInt8.toNat_inj.1 (by omega), fun e => by rw [e]⟩
theorem bare_l0 (s : ByteArray) (hs : s.size ≤ 9000) (K : Nat) : ∀ (m i : Nat) (acc : List UInt8), i + m = s.size → acc.length ≤ i →
    ∃ r, duetref03_bare.l0 (K + m + 1) s (ni acc) (i : Int) = some r ∧ r.2 = (bareF false acc (s.data.toList.drop i)).2 ∧ (r.2 = true → r.1 = ⟨(bareF false acc (s.data.toList.drop i)).1.toArray⟩) ∧ (r.2 = false → r.1 = ⟨#[]⟩) := by
  intro m
  induction m using Nat.strongRecOn with
  | _ m ih =>
    intro i acc hi ha
    have hsz : s.data.toList.length = s.size := Array.length_toList
    have hlen : (ni acc).length = acc.length := by simp [ni]
    have c0 : (0 : Int) ≤ (i : Int) := by omega
    have c3 : (ni acc).length < 140737488355328 := by omega
    cases m with
    | zero =>
      have hd : s.data.toList.drop i = [] := List.drop_of_length_le (by omega)
      have c1 : ¬ (i : Int) < (s.size : Int) := by omega
      unfold duetref03_bare.l0
      rw [if_neg c1, hd]
      exact ⟨_, rfl, rfl, fun _ => strOfNums_bytes acc, (fun x => by cases x)⟩
    | succ m =>
      have hl : i < s.data.toList.length := by omega
      have c1 : (i : Int) < (s.size : Int) := by omega
      have hb := bt_u8 s i hl
      have hdr := List.drop_eq_getElem_cons hl
      have hw := wrap_succ i (by omega)
      generalize s.data.toList[i] = c at hb hdr
      have e125 := nat_iff c 125
      rw [show (((125 : UInt8).toNat : Nat) : Int) = 125 from rfl] at e125
      rw [hdr]
      unfold duetref03_bare.l0
      rw [if_pos c1, if_pos c0, hb, hw]
      clear hw
      by_cases hc : c = 125
      · rw [if_pos (e125.2 hc), bareF, if_pos hc]
        by_cases h1 : i + 1 = s.size
        · have hd : s.data.toList.drop (i + 1) = [] := List.drop_of_length_le (by omega)
          have c4 : ((i + 1 : Nat) : Int) = (s.size : Int) := by omega
          rw [if_pos c4, hd]
          exact ⟨_, rfl, rfl, (fun x => by cases x), fun _ => rfl⟩
        · have hl1 : i + 1 < s.data.toList.length := by omega
          have c4 : ¬ ((i + 1 : Nat) : Int) = (s.size : Int) := by omega
          have c5 : (0 : Int) ≤ ((i + 1 : Nat) : Int) := by omega
          have c6 : ((i + 1 : Nat) : Int) < (s.size : Int) := by omega
          have hb1 := bt_u8 s (i + 1) hl1
          have hdr1 := List.drop_eq_getElem_cons hl1
          have hw2 := wrap_succ (i + 1) (by omega)
          generalize s.data.toList[i + 1] = d at hb1 hdr1
          rw [if_neg c4, if_pos c5, if_pos c6, hb1, hw2, hdr1]
          clear hw2 hb1 hdr1 hb hdr
          have e94 := nat_iff d 94
          have e93 := nat_iff d 93
          rw [show (((94 : UInt8).toNat : Nat) : Int) = 94 from rfl] at e94
          rw [show (((93 : UInt8).toNat : Nat) : Int) = 93 from rfl] at e93
          obtain ⟨m, rfl⟩ : ∃ n, m = n + 1 := ⟨m - 1, by omega⟩
          have step : ∀ v : Int, ni (acc ++ [d ^^^ 32]) = ni acc ++ [v] → ∃ r, duetref03_bare.l0 (K + (m + 1) + 1) s (ni acc ++ [v]) ((i + 1 + 1 : Nat) : Int) = some r ∧ r.2 = (bareF false (acc ++ [d ^^^ 32]) (s.data.toList.drop (i + 1 + 1))).2 ∧ (r.2 = true → r.1 = ⟨(bareF false (acc ++ [d ^^^ 32]) (s.data.toList.drop (i + 1 + 1))).1.toArray⟩) ∧ (r.2 = false → r.1 = ⟨#[]⟩) := fun v en => by
            obtain ⟨r, r1, r2⟩ := ih m (by omega) (i + 1 + 1) (acc ++ [d ^^^ 32]) (by omega) (by rw [List.length_append]; simp; omega)
            rw [en] at r1
            exact ⟨r, le_up (f := fun k => duetref03_bare.l0 k s (ni acc ++ [v]) ((i + 1 + 1 : Nat) : Int)) (fun k => (duetref03_bare.mono_l k) _ _ _) (a := K + m + 1) 1 _ r1, r2⟩
          clear ih
          by_cases g1 : d = 94
          · rw [if_pos (e94.2 g1), if_pos c3, bareF, if_pos ((okE_iff d).2 (.inl g1))]
            exact step _ (by rw [g1]; simp [ni])
          · by_cases g2 : d = 93
            · rw [if_neg (fun x => g1 (e94.1 x)), if_pos (e93.2 g2), if_pos c3, bareF, if_pos ((okE_iff d).2 (.inr g2))]
              exact step _ (by rw [g2]; simp [ni])
            · rw [if_neg (fun x => g1 (e94.1 x)), if_neg (fun x => g2 (e93.1 x)), bareF, if_neg (fun x => by rcases (okE_iff d).1 x with x | x; exact g1 x; exact g2 x)]
              exact ⟨_, rfl, rfl, (fun x => by cases x), fun _ => rfl⟩
      · rw [if_neg (fun x => hc (e125.1 x)), if_pos c3, bareF, if_neg hc]
        obtain ⟨r, r1, r2⟩ := ih m (by omega) (i + 1) (acc ++ [c]) (by omega) (by rw [List.length_append]; simp; omega)
        refine ⟨r, ?_, r2⟩
        have en : ni (acc ++ [c]) = ni acc ++ [((c.toNat : Nat) : Int)] := by simp [ni]
        rw [en] at r1
        exact r1
/-- What a piece says, by the reference: bare, then Open. -/
theorem ref_end (l : List UInt8) (hl : l.length ≤ 9000) : ∃ (t : ByteArray) (is : Bool), (∃ k, duetref03_bare.f k ⟨l.toArray⟩ = some (t, is)) ∧ (∃ k, duetref02_Open.f k t = some (openS t)) ∧
    ∀ long, (is && (decide ((openS t).2 = 0) && (decide ((openS t).1.size ≤ 2000) && !long))) = (endR l long).2 ∧ ((endR l long).2 = true → (openS t).1 = (endR l long).1) := by
  have hd : (⟨l.toArray⟩ : ByteArray).data.toList = l := by simp
  have hz : (⟨l.toArray⟩ : ByteArray).size = l.length := by show l.toArray.size = _; simp
  obtain ⟨⟨t, is⟩, r1, r2, r3, r4⟩ := bare_l0 ⟨l.toArray⟩ (by omega) 0 l.length 0 [] (by omega) (by simp)
  rw [List.drop_zero, hd] at r2 r3
  simp only at r2 r3 r4
  refine ⟨t, is, ⟨_, r1⟩, ?_, fun long => ?_⟩
  · cases is with
    | true =>
      rw [r3 rfl]
      refine ⟨_, refOpen_f _ ?_⟩
      have := bareF_len l false []
      show (bareF false [] l).1.toArray.size ≤ _
      simp at this ⊢; omega
    | false =>
      rw [r4 rfl]
      exact ⟨_, refOpen_f _ (by decide)⟩
  · unfold endR
    cases is with
    | true => rw [← r2, r3 rfl]; exact ⟨rfl, fun _ => rfl⟩
    | false => rw [← r2]; exact ⟨rfl, fun x => by simp at x⟩
end Go.Proofs.Ytacocgomhodboaa.Rb
