/- KeysReads: what its walk leans on. -/
import Derived.Test.YtmgdikfgejablaaDoorRf
set_option linter.unusedVariables false
set_option linter.unusedSimpArgs false
namespace Go.Proofs.YtmgdikfgejablaaDoor.Rg
open Go.RowKit Go.Proofs.YtmgdikfgejablaaDoor.Ky Go.Proofs.YtmgdikfgejablaaDoor.Kd Go.Proofs.YtmgdikfgejablaaDoor.Ke Go.Proofs.YtmgdikfgejablaaDoor.Kn Go.Proofs.YtmgdikfgejablaaDoor.Ko Go.Proofs.YtmgdikfgejablaaDoor.Kl Go.Proofs.YtmgdikfgejablaaDoor.Kv Go.Proofs.YtmgdikfgejablaaDoor.Rf Go.Proofs.YtmgdikfgejablaaDoor.P Go.Proofs.YtmgdikfgejablaaDoorW.PrintWords Go.Proofs.YtmgdikfgejablaaDoorW.PrintLast
theorem rdOf_nat (xs : List ByteArray) (i : Nat) (h : i < xs.length) : rdOf ByteArray.empty xs (i : Int) = xs[i] := by
  unfold rdOf
  rw [Int.toNat_natCast, List.getD_eq_getElem?_getD, List.getElem?_eq_getElem h]; rfl
theorem wrap_succ (i : Nat) (h : i < 9223372036854775807) : wrap64 ((i : Int) + 1) = ((i + 1 : Nat) : Int) := by unfold wrap64; omega
theorem short_l0 (l : List ByteArray) (hl : l.length ≤ 40) : ∀ (m i : Nat), i + m = l.length → duetlaw17_short.l0 (m + 1) l (i : Int) = some ((l.drop i).all fun s => decide (s.size ≤ 300))
  | 0, i, hi => by
    unfold duetlaw17_short.l0
    rw [if_neg (by omega), List.drop_of_length_le (by omega)]; rfl
  | m + 1, i, hi => by
    unfold duetlaw17_short.l0
    have hlt : i < l.length := by omega
    rw [if_pos (by omega), if_pos (by omega), rdOf_nat l i hlt, List.drop_eq_getElem_cons hlt, List.all_cons]
    by_cases h : l[i].size ≤ 300
    · rw [if_neg (by omega), wrap_succ i (by omega), short_l0 l hl m (i + 1) (by omega), decide_eq_true h, Bool.true_and]
    · rw [if_pos (by omega), decide_eq_false h, Bool.false_and]
def shortB (l : List ByteArray) : Bool := decide (l.length ≤ 40) && l.all fun s => decide (s.size ≤ 300)
theorem shortB_iff (l : List ByteArray) : shortB l = true ↔ l.length ≤ 40 ∧ ∀ s ∈ l, s.size ≤ 300 := by
  unfold shortB
  simp
theorem short_f (l : List ByteArray) : ∃ k, duetlaw17_short.f k l = some (shortB l) := by
  unfold duetlaw17_short.f shortB
  by_cases h : l.length ≤ 40
  · refine ⟨l.length + 1, ?_⟩
    rw [if_neg (by omega), decide_eq_true h, Bool.true_and]
    exact short_l0 l h l.length 0 (by omega)
  · refine ⟨0, ?_⟩
    rw [if_pos (by omega), decide_eq_false h, Bool.false_and]
theorem short_calls (A : Option Addr) (c : Nat) (l : List ByteArray) (w : World) (hC : Kd.C Kd.string w A l.length l) (hc : l.length ≤ c) :
    Calls Tryd.prog 8 #[.slice A l.length c] w fun e w' => e = .returned (.bool (shortB l)) ∧ Drawn0 w w' := by
  obtain ⟨k, hk⟩ := short_f l
  exact duetlaw17_short.calls k A c l _ w hC hc hk

theorem lit_Rx {W wr : World} {h n0 : Nat} {S : ByteArray} {v0 : Value} {ks0 : List Key} (H : Rx W wr h S n0 ks0 v0) (ks : List Key) (n : Nat) (hn : ks.length = n) (hn0 : n = 1) {arr : Array Value} (ha : arr = (flat ks).toArray) (b : Nat) (hbb : b = wr.heap.size) :
    Rx W (wr.alloc (.cells arr 45)) h S n ks (.slice (some ⟨b, 0, none⟩) n n) := by
  subst ha hbb
  have hb := below_alloc (Below.refl wr.heap.size wr) (.cells (flat ks).toArray 45)
  have hnew := heap_alloc_new wr (.cells (flat ks).toArray 45)
  have hl := flat_len ks
  refine ⟨(hb.block h (blk_lt H.b)).trans H.b, H.hh, ⟨by rw [hl, hn]; omega, .inr ⟨_, n, _, rfl, H.but.size, hnew, Nat.le_refl _, by rw [hn0]; decide, by rw [List.size_toArray, hl, hn]; omega, ?_⟩⟩, H.but.trans (But.of_below hb)⟩
  rw [List.take_of_length_le]
  show (flat ks).length ≤ _
  rw [hl, hn]; omega
set_option maxHeartbeats 2000000 in
set_option maxRecDepth 100000 in
theorem refFlush_calls {W : World} {h : Nat} {S : ByteArray} (hb : W.heap[h]? = some (ob S)) :
    Calls Tryd.prog 14 #[.pointer (some ⟨h, 0, none⟩)] W fun e w' => ∃ A c n, e = .returned (.slice A n c) ∧ Rx W w' h ⟨#[]⟩ n (flushK (nats S)) (.slice A n c) ∧ (flushK (nats S)).length = n := by
  have hX0 : Rx W W h S 0 [] (.slice none 0 0) := ⟨hb, blk_lt hb, own_nil _ _ _ _, But.refl _ _⟩
  obtain ⟨c0, f0⟩ := hX0.c
  have hX1 := hX0.set ⟨#[]⟩
  have HX := Lib.hid hX1
  clear hX0 hX1 hb
  by_cases h0 : S.size = 0
  · have hS : S = ⟨#[]⟩ := by
      apply ByteArray.ext; exact Array.eq_empty_of_size_eq_zero h0
    subst hS
    clear h0
    go_enter Tryd.func14, Tryd.ntmps14
    go_wp2
    go_ret
    exact ⟨none, 0, 0, rfl, HX.out, rfl⟩
  by_cases h1 : S = ⟨#[27]⟩
  · subst h1
    clear h0
    go_enter Tryd.func14, Tryd.ntmps14
    go_wp2
    go_ret
    exact ⟨_, _, 1, rfl, lit_Rx HX.out [(11, 0)] 1 rfl rfl rfl _ (setCell_size ..).symm, rfl⟩
  · have n1 : S.toList.isEmpty = false := by
      rw [ByteArray.toList_eq]
      cases e : S.data.toList with
      | nil => exact absurd (by rw [← Array.length_toList (xs := S.data), e]; rfl : S.data.size = 0) h0
      | cons _ _ => rfl
    have n2 : (S.toList == [27]) = false := beq_eq_false_iff_ne.2 (fun e => h1 (nats_inj ((Ro.tl S [27]).1 e)))
    have hF : flushK (nats S) = [(12, 0)] := by
      unfold flushK
      rw [if_neg (fun e => h0 (by rw [← nats_len, e]; rfl)), if_neg (fun e => h1 (nats_inj (by rw [e]; rfl)))]
    have HF := Lib.hid hF
    clear hF h0 h1
    go_enter Tryd.func14, Tryd.ntmps14
    go_wp2
    go_ret
    rw [HF.out]
    exact ⟨_, _, 1, rfl, lit_Rx HX.out [(12, 0)] 1 rfl rfl rfl _ (setCell_size ..).symm, rfl⟩
/-- What told's row is: a row of its own. -/
theorem inner_flat (w : World) (base : Nat) (ok : Nat → Prop) : ∀ (l : List Key) (inner : List Value), Reps (k45.M w base ok) 2 (l.map s45) inner → inner = flat l
  | [], inner, h => List.eq_nil_of_length_eq_zero (by simpa using h.1)
  | k :: l, inner, h => by
    have h0 := h.2 0 (s45 k) rfl
    have e0 := k45_openM h0
    have hl : inner.length = (l.length + 1) * 2 := by simpa using h.1
    rw [Nat.zero_mul, List.drop_zero] at e0
    have ih := inner_flat w base ok l (inner.drop 2) ⟨by rw [List.length_drop, hl, List.length_map]; omega, fun j p hp => by
      have := h.2 (j + 1) p (by simpa using hp)
      rw [List.drop_drop, show 2 + j * 2 = (j + 1) * 2 by omega]
      exact this⟩
    have e1 : inner = inner.take 2 ++ inner.drop 2 := (List.take_append_drop 2 inner).symm
    rw [e1, e0, ih]
    rfl
theorem told_own {W : World} {base c n : Nat} {A : Option Addr} {l : List Key} (hn : l.length = n) (h : W.ownsRow base 50 2 (.slice A n c) n (flat l)) (hl : n ≤ 1000000) :
    Calls Tryd.prog 12 #[.slice A n c] W fun e w' => ∃ A2 c2, e = .returned (.slice A2 n c2) ∧ Below W.heap.size W w' ∧ w'.ownsRow W.heap.size 45 2 (.slice A2 n c2) n (flat l) := by
  subst hn
  obtain ⟨hle, hC⟩ := own_C50 h
  have hm : (l.map s50).length = l.length := by simp
  have := duetlaw17_Told.calls (l.length + 1) A c (l.map s50) (l.map s45) W hC (by rw [hm]; exact hle) (told_l0 l hl l.length 0 (by omega))
  rw [hm] at this
  refine this.mono ?_
  rintro e w' ⟨v0, rfl, hR, hB⟩
  obtain ⟨inner, ho, hr⟩ := hR.2
  rw [List.length_map] at ho
  obtain ⟨A2, c2, rfl⟩ := own_slice ho
  obtain rfl := inner_flat _ _ _ l inner hr
  exact ⟨A2, c2, rfl, hB, ho⟩
def Kh (h : Nat) (o : Obj) : Nat → Option Obj := fun j => if j = h then some o else none
theorem Kh_self (h : Nat) (o : Obj) : Kh h o h = some o := if_pos rfl
theorem Kh_some {h j : Nat} {o o' : Obj} (hj : Kh h o j = some o') : j = h ∧ o' = o := by
  unfold Kh at hj
  by_cases e : j = h
  · rw [if_pos e] at hj; exact ⟨e, (Option.some.inj hj).symm⟩
  · rw [if_neg e] at hj; cases hj
/-- Both readers, alike. -/
structure Bt (w1 wr : World) (g h : Nat) (S : ByteArray) : Prop where
  rd : Kr (Kh h (ob S)) w1 wr g (Kf.nx g (nats S)) (nats S) []
  hh : w1.heap.size ≤ h
  wt : Waits (nats S)
  rn : run [] (nats S) = ([], nats S)
theorem Bt.below {w1 wr w2 : World} {g h : Nat} {S : ByteArray} (H : Bt w1 wr g h S) (hb : Below wr.heap.size wr w2) : Bt w1 w2 g h S := ⟨H.rd.below hb, H.hh, H.wt, H.rn⟩
theorem Bt.b {w1 wr : World} {g h : Nat} {S : ByteArray} (H : Bt w1 wr g h S) : wr.heap[h]? = some (ob S) := (H.rd.fr h _ (Kh_self h _)).1
theorem Bt.size {w1 wr : World} {g h : Nat} {S : ByteArray} (H : Bt w1 wr g h S) : S.size ≤ 6 := by have := waits_len _ H.wt; rw [nats_len] at this; exact this
/-- The program's reader has told; the reference's not yet. -/
structure Mid (w1 wr : World) (g h : Nat) (S : ByteArray) (ks : List Key) (w : List Nat) (t : TypeId) (v : Value) (n : Nat) : Prop where
  rd : Kr (Kh h (ob S)) w1 wr g (Kf.nx g w) w []
  hh : w1.heap.size ≤ h
  row : wr.ownsRow w1.heap.size t 2 v n (flat ks)
  ne : v.ownBlock ≠ some h
  len : ks.length = n
theorem Mid.b {w1 wr : World} {g h n : Nat} {S : ByteArray} {ks : List Key} {w : List Nat} {t : TypeId} {v : Value} (H : Mid w1 wr g h S ks w t v n) : wr.heap[h]? = some (ob S) := (H.rd.fr h _ (Kh_self h _)).1
theorem Bt.told {w1 w5 : World} {g h : Nat} {S : ByteArray} {ks : List Key} {w : List Nat} {e : Ending} (hh : w1.heap.size ≤ h) (hT : Ko.Told (Kh h (ob S)) w1 g ks w e w5) :
    ∃ A c n, e = .returned (.slice A n c) ∧ n = ks.length ∧ Mid w1 w5 g h S ks w 50 (.slice A n c) n := by
  obtain ⟨A, c, rfl, hr, hK, hf⟩ := hT
  have hk := hf h _ (Kh_self h _)
  refine ⟨A, c, _, rfl, rfl, Kr.mono hK (fun j o hj => ?_), hh, hr, hk.2, rfl⟩
  obtain ⟨rfl, rfl⟩ := Kh_some hj
  exact Kt_old hk.2 (Kh_self _ _)
theorem own_lower {W : World} {base b2 n sz : Nat} {e : TypeId} {v : Value} {xs : List Value} (h : W.ownsRow base e sz v n xs) (hb : b2 ≤ base) : W.ownsRow b2 e sz v n xs := by
  refine ⟨h.1, ?_⟩
  rcases h.2 with q | ⟨g', cap, cur, q0, q1, q2, q3⟩
  · exact .inl q
  · exact .inr ⟨g', cap, cur, q0, by omega, q2, q3⟩
theorem Mid.turn {w1 w5 w6 : World} {g h n : Nat} {S : ByteArray} {ks : List Key} {w : List Nat} {v v2 : Value} (H : Mid w1 w5 g h S ks w 50 v n) (hb : Below w5.heap.size w5 w6) (hr : w6.ownsRow w5.heap.size 45 2 v2 n (flat ks)) : Mid w1 w6 g h S ks w 45 v2 n :=
  ⟨H.rd.below hb, H.hh, own_lower hr H.rd.bl.size, fun e => by have := own_base hr _ e; have := blk_lt H.b; omega, H.len⟩
theorem Mid.ref {w1 w6 w7 : World} {g h n n3 : Nat} {S S2 : ByteArray} {ks ks3 : List Key} {w : List Nat} {v v3 : Value} (H : Mid w1 w6 g h S ks w 45 v n) (hX : Rx w6 w7 h S2 n3 ks3 v3) (hw : nats S2 = w) (wt : Waits w) (rn : run [] w = ([], w)) :
    Bt w1 w7 g h S2 ∧ w7.ownsRow w1.heap.size 45 2 v n (flat ks) := by
  subst hw
  obtain ⟨bv, tv, hR⟩ := H.rd.ex
  obtain ⟨k1, k2, k3, k4⟩ := hR.fr h _ (Kh_self h _)
  have hk : ∀ j, j < w6.heap.size → j ≠ h → w7.heap[j]? = w6.heap[j]? := fun j hj hne => hX.but.block j hne hj
  refine ⟨⟨⟨hX.but.below H.rd.bl H.hh H.rd.bl.size, bv, tv, (hk g (blk_lt hR.hb) (fun e => k2 e.symm)).trans hR.hb, hR.hg, own_keep hR.br (fun j hj => hk j (own_lt hR.br j hj) (fun e => k3 (by rw [hj, e]))), own_keep hR.tr (fun j hj => hk j (own_lt hR.tr j hj) (fun e => k4 (by rw [hj, e]))), fun j o hj => ?_⟩, H.hh, wt, rn⟩, own_keep H.row (fun j hj => hk j (own_lt H.row j hj) (fun e => H.ne (by rw [hj, e])))⟩
  obtain ⟨rfl, rfl⟩ := Kh_some hj
  exact ⟨hX.b, k2, k3, k4⟩
theorem same_own {W : World} {b1 b2 c c2 n : Nat} {A B : Option Addr} {l : List Key} (hn : l.length = n) (hl : n ≤ 1000000) (h : W.ownsRow b1 45 2 (.slice A n c) n (flat l)) (h2 : W.ownsRow b2 45 2 (.slice B n c2) n (flat l)) :
    Calls Tryd.prog 11 #[.slice A n c, .slice B n c2] W fun e w' => e = .returned (.bool true) ∧ Below W.heap.size W w' := by
  subst hn
  obtain ⟨h3, h4⟩ := own_C45 h
  obtain ⟨h5, h6⟩ := own_C45 h2
  exact same_calls hl h4 h3 h6 h5
end Go.Proofs.YtmgdikfgejablaaDoor.Rg
