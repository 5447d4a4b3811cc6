/- live of the keys' laws: the walk. -/
import Derived.Test.YtmgdikfgejablaaDoorKl
set_option linter.unusedVariables false
set_option linter.unusedSimpArgs false
namespace Go.Proofs.YtmgdikfgejablaaDoor.Kv
open Go.RowKit Go.Proofs.YtmgdikfgejablaaDoor.Ky Go.Proofs.YtmgdikfgejablaaDoor.Kd Go.Proofs.YtmgdikfgejablaaDoor.Ke Go.Proofs.YtmgdikfgejablaaDoor.Kn Go.Proofs.YtmgdikfgejablaaDoor.Ko Go.Proofs.YtmgdikfgejablaaDoor.Kl Go.Proofs.YtmgdikfgejablaaDoor.P Go.Proofs.YtmgdikfgejablaaDoorW.PrintWords Go.Proofs.YtmgdikfgejablaaDoorW.PrintLast
theorem Kt_own {K : Nat → Option Obj} {v : Value} {W : World} {j : Nat} {o : Obj} (hj : v.ownBlock = some j) (ho : W.heap[j]? = some o) : Kt K v W j = some o := by unfold Kt; rw [if_pos hj]; exact ho
theorem Kt_old {K : Nat → Option Obj} {v : Value} {W : World} {j : Nat} {o : Obj} (hj : v.ownBlock ≠ some j) (ho : K j = some o) : Kt K v W j = some o := by unfold Kt; rw [if_neg hj]; exact ho
/-- A row whose block is kept. -/
theorem row_kept {W W2 : World} {b e sz n : Nat} {v : Value} {xs : List Value} (h : W.ownsRow b e sz v n xs) (hk : ∀ j o, v.ownBlock = some j → W.heap[j]? = some o → W2.heap[j]? = some o) : W2.ownsRow b e sz v n xs :=
  own_keep h (fun j hj => by
    obtain ⟨cs, hc⟩ := own_typed h j hj
    rw [hc]; exact hk j _ hj hc)
theorem row_below {W W2 : World} {b e sz n : Nat} {v : Value} {xs : List Value} (h : W.ownsRow b e sz v n xs) (hb : Below W.heap.size W W2) : W2.ownsRow b e sz v n xs :=
  own_keep h (fun j hj => hb.block j (own_lt h j hj))
theorem same_lit {W : World} {A : Option Addr} {c n : Nat} (l : List Key) (hn : l.length = n) (hl : l.length ≤ 1000) (h : Kd.C k45 W A (l.map s45).length (l.map s45)) (hc : n ≤ c) (arr : Array Value) (ha : arr = (flat l).toArray) :
    Calls Tryd.prog 11 #[.slice A n c, .slice (some ⟨W.heap.size, 0, none⟩) n n] (W.alloc (.cells arr 45)) fun e w' => e = .returned (.bool true) ∧ Below W.heap.size W w' := by
  subst ha hn
  have hb := below_alloc (Below.refl W.heap.size W) (.cells (flat l).toArray 45)
  refine (same_calls (by omega) (Kd.C_below h hb) hc (lit_C45 (heap_alloc_new W _) (by omega)) (Nat.le_refl _)).mono ?_
  rintro e w' ⟨rfl, h2⟩
  exact ⟨rfl, below_then hb hb.size h2⟩
def ToldN (K : Nat → Option Obj) (w0 : World) (g : Nat) (keys : List Key) (n : Nat) (w : List Nat) (e : Ending) (w' : World) : Prop :=
  ∃ A c, e = .returned (.slice A n c) ∧ w'.ownsRow w0.heap.size 50 2 (.slice A n c) n (flat keys) ∧ Kr (Kt K (.slice A n c) w') w0 w' g (Kf.nx g w) w [] ∧ ∀ j o, K j = some o → w'.heap[j]? = some o ∧ (Value.slice A n c).ownBlock ≠ some j
theorem toldN {K : Nat → Option Obj} {w0 : World} {g : Nat} {keys : List Key} {n : Nat} {w : List Nat} {e : Ending} {w' : World} (hn : keys.length = n) (h : Ko.Told K w0 g keys w e w') : ToldN K w0 g keys n w e w' := by
  subst hn; exact h
theorem told_n {W : World} {base c n : Nat} {A : Option Addr} {l : List Key} (hn : l.length = n) (h : W.ownsRow base 50 2 (.slice A n c) n (flat l)) (hl : n ≤ 1000000) :
    Calls Tryd.prog 12 #[.slice A n c] W fun e w' => ∃ A2 c2, e = .returned (.slice A2 n c2) ∧ Below W.heap.size W w' ∧ n ≤ c2 ∧ Kd.C k45 w' A2 (l.map s45).length (l.map s45) := by
  subst hn; exact told_calls h hl
def l1 : List Key := [(2, 97), (1, 97)]
def l2 : List Key := [(4, 0), (1, 8364), (10, 0), (3, 102)]
def l3 : List Key := [(11, 0)]
theorem n1 : l1.length = 2 := rfl
theorem n2 : l2.length = 4 := rfl
theorem n3 : l3.length = 1 := rfl
theorem a1 : (#[.int .i64 2, .int .i64 97, .int .i64 1, .int .i64 97] : Array Value) = (flat l1).toArray := rfl
theorem a2 : (#[.int .i64 4, .int .i64 0, .int .i64 1, .int .i64 8364, .int .i64 10, .int .i64 0, .int .i64 3, .int .i64 102] : Array Value) = (flat l2).toArray := rfl
theorem a3 : (#[.int .i64 11, .int .i64 0] : Array Value) = (flat l3).toArray := rfl
theorem m1 : 1 ≤ 1000000 := by decide
theorem m2 : 2 ≤ 1000000 := by decide
theorem m4 : 4 ≤ 1000000 := by decide
theorem small {n : Nat} (h : n ≤ 5) : n ≤ 1000000 := by omega
theorem small2 {n : Nat} (h : n ≤ 5) : n ≤ 1000 := by omega
theorem le_5 (l : List Key) (h : l = l1 ∨ l = l2 ∨ l = l3) : l.length ≤ 1000 := by rcases h with rfl | rfl | rfl <;> decide
theorem run1 : run [] (nats ⟨#[1, 97, 27, 91]⟩) = (l1, [27, 91]) := by decide +kernel
theorem run2 : run [27, 91] (nats ⟨#[65, 226, 130, 172, 27, 91, 51, 126, 27, 102, 27]⟩) = (l2, [27]) := by decide +kernel
set_option maxHeartbeats 4000000 in
set_option maxRecDepth 100000 in
theorem live_calls (w : World) (hL : Laid w) : Calls Tryd.prog 9 #[] w fun e w' => e = .returned (.bool true) ∧ Below w.heap.size w w' := by
  have HL := Lib.hid hL
  clear hL
  go_enter Tryd.func9, Tryd.ntmps9
  go_upto_region 2 with (go_at_call 10; refine (New_calls (fun _ => none) _ (fun _ _ h => by cases h)).mono ?_; rintro e w1 ⟨g, rfl, hK1⟩)
  have hF1 := Feed_calls (w := []) HL.out hK1 trivial ⟨#[1, 97, 27, 91]⟩ (by decide)
  rw [run1] at hF1
  clear hK1
  replace hF1 := hF1.mono (fun e w' h => toldN (n := 2) rfl h)
  unfold ToldN at hF1
  go_upto_region 5 with (go_at_call 15; go_loud (refine hF1.mono ?_; rintro e w2 ⟨A2, c2, rfl, hr2, hK2, hf2⟩))
  have hW2 := Waits_calls hK2
  have hF2 := Feed_calls (w := [27, 91]) HL.out hK2 (.inl ⟨rfl, .inl ⟨rfl, by decide, by simp⟩⟩) ⟨#[65, 226, 130, 172, 27, 91, 51, 126, 27, 102, 27]⟩ (by decide)
  rw [run2] at hF2
  replace hF2 := hF2.mono (fun e w' h => toldN (n := 4) rfl h)
  unfold ToldN at hF2
  have HR2 := Lib.hid hr2
  clear hF1 hK2 hf2 hr2
  go_upto_region 7 with (first
    | (go_at_call 17; go_loud (refine hW2.mono ?_; rintro e w9 ⟨rfl, hw9⟩; subst hw9))
    | (go_at_call 15; go_loud (refine hF2.mono ?_; rintro e w3 ⟨A3, c3, rfl, hr3, hK3, hf3⟩)))
  have hr23 := row_kept HR2.out (fun j o h1 h2 => (hf3 j o (Kt_own h1 h2)).1)
  have hF3 := Flush_calls hK3
  rw [show flushK [27] = l3 from rfl] at hF3
  replace hF3 := hF3.mono (fun e w' h => toldN (n := 1) rfl h)
  unfold ToldN at hF3
  have HR3 := Lib.hid hr3
  have HR23 := Lib.hid hr23
  have HF3 := Lib.hid hf3
  clear hF2 hK3 hf3 hr3 hr23 hW2
  go_upto_region 8 with (go_at_call 13; go_loud (refine hF3.mono ?_; rintro e w4 ⟨A4, c4, rfl, hr4, hK4, hf4⟩))
  have HA := Lib.hid (row_kept HR23.out (fun j o h1 h2 => (hf4 j o (by
    obtain ⟨cs, hc⟩ := own_typed HR2.out j h1
    have h3 := HF3.out j _ (Kt_own h1 hc)
    rw [h3.1] at h2
    exact Kt_old h3.2 (by rw [← Option.some.inj h2]; exact Kt_own h1 hc))).1))
  have HBr := Lib.hid (row_kept HR3.out (fun j o h1 h2 => (hf4 j o (Kt_own h1 h2)).1))
  have HCr := Lib.hid hr4
  have HK4 := Lib.hid hK4
  clear hF3 hr4 hK4 hf4 HR2 HR3 HR23 HF3
  go_wp2_with (first
    | (go_at_call 12; (with_reducible refine (told_n (l := l1) n1 HA.out m2).mono ?_; rintro e w5 ⟨A5, c5, rfl, hB5, hc5, hC5⟩))
    | (go_at_call 11; (with_reducible refine (same_lit l1 n1 (le_5 l1 (.inl rfl)) hC5 hc5 _ a1).mono ?_; rintro e w6 ⟨rfl, hB6⟩; have HB6 := Lib.hid (below_then hB5 hB5.size hB6); clear hB5 hC5 hB6))
    | (go_at_call 12; (with_reducible refine (told_n (l := l2) n2 (row_below HBr.out HB6.out) m4).mono ?_; rintro e w7 ⟨A7, c7, rfl, hB7, hc7, hC7⟩))
    | (go_at_call 11; (with_reducible refine (same_lit l2 n2 (le_5 l2 (.inr (.inl rfl))) hC7 hc7 _ a2).mono ?_; rintro e w8 ⟨rfl, hB8⟩; have HB8 := Lib.hid (below_then HB6.out HB6.out.size (below_then hB7 hB7.size hB8)); clear hB7 hC7 hB8))
    | (go_at_call 12; (with_reducible refine (told_n (l := l3) n3 (row_below HCr.out HB8.out) m1).mono ?_; rintro e w10 ⟨A10, c10, rfl, hB10, hc10, hC10⟩))
    | (go_at_call 11; (with_reducible refine (same_lit l3 n3 (le_5 l3 (.inr (.inr rfl))) hC10 hc10 _ a3).mono ?_; rintro e w11 ⟨rfl, hB11⟩; have HB11 := Lib.hid (below_then HB8.out HB8.out.size (below_then hB10 hB10.size hB11)); clear hB10 hC10 hB11))
    | (go_at_call 17; refine (Waits_calls (HK4.out.below HB11.out)).mono ?_; rintro e w12 ⟨rfl, hw12⟩; subst hw12))
  go_ret
  exact ⟨rfl, (HK4.out.below HB11.out).bl⟩
end Go.Proofs.YtmgdikfgejablaaDoor.Kv
