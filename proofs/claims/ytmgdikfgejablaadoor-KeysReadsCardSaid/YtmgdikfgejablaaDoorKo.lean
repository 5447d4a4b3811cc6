/- keys.Reader: take, Waits, Flush, Feed: the walks. -/
import Derived.Test.YtmgdikfgejablaaDoorKn
import Derived.Lib.ConvBytes
set_option linter.unusedVariables false
set_option linter.unusedSimpArgs false
namespace Go.Proofs.YtmgdikfgejablaaDoor.Ko
open Go.RowKit Go.Proofs.YtmgdikfgejablaaDoor.Ky Go.Proofs.YtmgdikfgejablaaDoor.Kd Go.Proofs.YtmgdikfgejablaaDoor.Kf Go.Proofs.YtmgdikfgejablaaDoor.Ke Go.Proofs.YtmgdikfgejablaaDoor.Kg Go.Proofs.YtmgdikfgejablaaDoor.Kn Go.Proofs.YtmgdikfgejablaaDoorW.PrintWords Go.Proofs.YtmgdikfgejablaaDoorW.PrintLast
/-- What is kept besides: a row's own block. -/
def Kt (K : Nat → Option Obj) (v : Value) (W : World) : Nat → Option Obj := fun j => if v.ownBlock = some j then W.heap[j]? else K j
theorem take_calls {K : Nat → Option Obj} {w0 W : World} {g : Nat} {fn : Value} {w : List Nat} {told : List Key} (h : Kr K w0 W g fn w told) :
    Calls Tryd.prog 22 #[.pointer (some ⟨g, 0, none⟩)] W fun e w' => ∃ A c, e = .returned (.slice A told.length c) ∧ w'.ownsRow w0.heap.size 50 2 (.slice A told.length c) told.length (flat told) ∧ Kr (Kt K (.slice A told.length c) w') w0 w' g fn w [] ∧ ∀ j o, K j = some o → w'.heap[j]? = some o ∧ (Value.slice A told.length c).ownBlock ≠ some j := by
  obtain ⟨bv, tv, hR⟩ := h.ex
  obtain ⟨A, c, rfl⟩ := own_slice hR.tr
  obtain ⟨_, _, c2, _, _, f2⟩ := hR.c
  have HR := Lib.hid hR
  have HB := Lib.hid h.bl
  clear h hR
  go_enter Tryd.func22, Tryd.ntmps22
  go_wp2
  go_ret
  have hne := own_ne HR.out.tr HR.out.hb (by decide)
  have hs := HR.out.set_ (told' := []) 2 (.slice none 0 0) rfl HR.out.br (own_nil _ _ _ _) (fun j o hj => ⟨(HR.out.fr j o hj).2.2.1, by simp [Value.ownBlock]⟩)
  have hrow := own_setCell HR.out.tr (p := ⟨g, 2, none⟩) hne (.slice none 0 0)
  refine ⟨A, c, rfl, hrow, ⟨HB.out.setCell HR.out.hg _, bv, .slice none 0 0, hs.hb, hs.hg, hs.br, hs.tr, fun j o hj => ?_⟩, fun j o hj => ⟨(hs.fr j o hj).1, (HR.out.fr j o hj).2.2.2⟩⟩
  unfold Kt at hj
  by_cases e : (Value.slice A told.length c).ownBlock = some j
  · rw [if_pos e] at hj
    obtain ⟨cs, hc⟩ := own_typed hrow j e
    refine ⟨hj, fun e2 => ?_, fun e2 => ?_, by simp [Value.ownBlock]⟩
    · rw [e2, hs.hb] at hc; cases hc
    · obtain ⟨cs2, hc2⟩ := own_typed hs.br j e2
      rw [hc] at hc2; cases hc2
  · rw [if_neg e] at hj
    exact hs.fr j o hj
theorem Waits_calls {K : Nat → Option Obj} {w0 W : World} {g : Nat} {fn : Value} {w : List Nat} {told : List Key} (h : Kr K w0 W g fn w told) :
    Calls Tryd.prog 17 #[.pointer (some ⟨g, 0, none⟩)] W fun e w' => e = .returned (.int .i64 (w.length : Nat)) ∧ w' = W := by
  obtain ⟨bv, tv, hR⟩ := h.ex
  obtain ⟨A, c, rfl⟩ := own_slice hR.br
  obtain ⟨_, c1, _⟩ := hR.c
  clear h hR
  go_enter Tryd.func17, Tryd.ntmps17
  go_wp2
  go_ret
  exact ⟨rfl, rfl⟩
theorem Waits_nil (W : World) : Calls Tryd.prog 17 #[.pointer none] W fun e w' => e = .returned (.int .i64 0) ∧ w' = W := by
  go_enter Tryd.func17, Tryd.ntmps17
  go_wp2
  go_ret
  exact ⟨rfl, rfl⟩
theorem Feed_nil (y : ByteArray) (W : World) : Calls Tryd.prog 15 #[.pointer none, .string y] W fun e w' => e = .returned (.slice none 0 0) ∧ w' = W := by
  go_enter Tryd.func15, Tryd.ntmps15
  go_wp2
  go_ret
  exact ⟨rfl, rfl⟩
theorem Flush_nil (W : World) : Calls Tryd.prog 13 #[.pointer none] W fun e w' => e = .returned (.slice none 0 0) ∧ w' = W := by
  go_enter Tryd.func13, Tryd.ntmps13
  go_wp2
  go_ret
  exact ⟨rfl, rfl⟩
/-- What a Flush tells. -/
def flushK (w : List Nat) : List Key := if w = [] then [] else if w = [27] then [(11, 0)] else [(12, 0)]
/-- What is told, and the reader behind. -/
def Told (K : Nat → Option Obj) (w0 : World) (g : Nat) (keys : List Key) (w : List Nat) (e : Ending) (w' : World) : Prop :=
  ∃ A c, e = .returned (.slice A keys.length c) ∧ w'.ownsRow w0.heap.size 50 2 (.slice A keys.length c) keys.length (flat keys) ∧ Kr (Kt K (.slice A keys.length c) w') w0 w' g (nx g w) w [] ∧ ∀ j o, K j = some o → w'.heap[j]? = some o ∧ (Value.slice A keys.length c).ownBlock ≠ some j
set_option maxHeartbeats 2000000 in
set_option maxRecDepth 100000 in
theorem Flush_calls {K : Nat → Option Obj} {w0 W : World} {g : Nat} {w : List Nat} (h : Kr K w0 W g (nx g w) w []) :
    Calls Tryd.prog 13 #[.pointer (some ⟨g, 0, none⟩)] W (Told K w0 g (flushK w) []) := by
  unfold flushK
  obtain ⟨bv, tv, hR⟩ := h.ex
  obtain ⟨A, c, rfl⟩ := own_slice hR.br
  obtain ⟨_, c1, _⟩ := hR.c
  cases w with
  | nil =>
    rw [if_pos rfl]
    have HK := Lib.hid h
    clear h hR
    replace c1 : W.cell? ⟨g, 1, none⟩ = some (.slice A 0 c) := c1
    unfold Told
    go_enter Tryd.func13, Tryd.ntmps13
    go_wp2
    go_ret
    refine ⟨none, 0, rfl, own_nil _ _ _ _, Kr.mono HK.out (fun j o hj => ?_), fun j o hj => ⟨(Kr.fr HK.out j o hj).1, by simp [Value.ownBlock]⟩⟩
    unfold Kt at hj
    rw [if_neg (by simp [Value.ownBlock])] at hj
    exact hj
  | cons b r =>
    rw [if_neg (by simp)]
    have hbr := hR.br
    rw [bts_nums] at hbr
    obtain ⟨A', c', e, hI⟩ := own_reads hbr
    injection e with e1 e2 e3
    subst e1 e3
    obtain ⟨ad, rfl, c0⟩ := hI.at_ 0 (by omega) (by simp)
    replace c0 : W.cell? ad = some (.int .u8 (b : Int)) := by
      rw [show ((0 : Int).toNat) = 0 from rfl] at c0
      have e : ad.add 0 = ad := by cases ad with | mk x y z => cases z <;> rfl
      rw [e] at c0
      simpa [rd] using c0
    replace c1 : W.cell? ⟨g, 1, none⟩ = some (.slice (some ad) (r.length + 1) c) := c1
    have hT := fun k => tell_calls h (by simp) k 0
    clear h hR hbr hI
    unfold Told
    by_cases h27 : b :: r = [27]
    · injection h27 with h1 h2
      subst h1 h2
      rw [if_pos rfl]
      have hT := hT 11
      replace c1 : W.cell? ⟨g, 1, none⟩ = some (.slice (some ad) 1 c) := c1
      go_enter Tryd.func13, Tryd.ntmps13
      go_wp2_with (first
        | (go_at_call 21; go_loud (refine hT.mono ?_; rintro e w1 ⟨rfl, hK1⟩))
        | (go_at_call 22; go_loud (refine (take_calls hK1).mono ?_; rintro e w2 ⟨A2, k2, rfl, hr2, hK2, hf2⟩)))
      go_ret
      exact ⟨A2, k2, rfl, hr2, hK2, hf2⟩
    · rw [if_neg h27]
      have hT := hT 12
      by_cases hr : r.length = 0
      · have hb : b ≠ 27 := fun e => h27 (by rw [e, List.length_eq_zero_iff.1 hr])
        obtain rfl := List.length_eq_zero_iff.1 hr
        have d1 : ((b : Int) == 27) = false := neI hb
        replace c1 : W.cell? ⟨g, 1, none⟩ = some (.slice (some ad) 1 c) := c1
        clear h27 hr hb
        go_enter Tryd.func13, Tryd.ntmps13
        go_wp2_with (first
          | (go_at_call 21; go_loud (refine hT.mono ?_; rintro e w1 ⟨rfl, hK1⟩))
          | (go_at_call 22; go_loud (refine (take_calls hK1).mono ?_; rintro e w2 ⟨A2, k2, rfl, hr2, hK2, hf2⟩)))
        go_ret
        exact ⟨A2, k2, rfl, hr2, hK2, hf2⟩
      · have d1 : ((r.length : Int) + 1 == 1) = false := by simp only [beq_eq_false_iff_ne]; omega
        have d2 : ((r.length : Int) + 1 == 0) = false := by simp only [beq_eq_false_iff_ne]; omega
        clear h27 hr
        go_enter Tryd.func13, Tryd.ntmps13
        go_wp2_with (first
          | (go_at_call 21; go_loud (refine hT.mono ?_; rintro e w1 ⟨rfl, hK1⟩))
          | (go_at_call 22; go_loud (refine (take_calls hK1).mono ?_; rintro e w2 ⟨A2, k2, rfl, hr2, hK2, hf2⟩)))
        go_ret
        exact ⟨A2, k2, rfl, hr2, hK2, hf2⟩
/-- The bytes that are read are kept, too. -/
def Kq (K : Nat → Option Obj) (q : Nat) (o : Obj) : Nat → Option Obj := fun j => if j = q then some o else K j
theorem entry {K : Nat → Option Obj} {w0 W : World} {g : Nat} {fn : Value} {w : List Nat} {told : List Key} (h : Kr K w0 W g fn w told) (y : ByteArray) :
    ∃ o, Kr (Kq K W.heap.size o) w0 (Lib.bytesWorld W 5 y) g fn w told ∧ (∀ W2 : World, W2.heap[W.heap.size]? = some o → ∀ j, j < y.size → W2.cell? ⟨W.heap.size, j, none⟩ = some (.int .u8 (y.data.toList.getD j 0).toNat)) := by
  have hb := bytes_below (Below.refl W.heap.size W) (Nat.le_refl _) 5 y
  have hn := Lib.bytesWorld_at_new W 5 y
  have hk := h.below hb
  obtain ⟨bv, tv, hR⟩ := h.ex
  have hg := blk_lt hR.hb
  refine ⟨.cells (Lib.bytesCells W 5 y) 5 ((Lib.bytesCells W 5 y).size, (Lib.bytesCells W 5 y).size + 1), ⟨hk.bl, bv, tv, (hb.block g hg).trans hR.hb, hR.hg, own_keep hR.br (fun j hj => hb.block j (own_lt hR.br j hj)), own_keep hR.tr (fun j hj => hb.block j (own_lt hR.tr j hj)), fun j o hj => ?_⟩, fun W2 h2 j hj => ?_⟩
  · unfold Kq at hj
    by_cases hc : j = W.heap.size
    · rw [if_pos hc] at hj
      rw [← Option.some.inj hj, hc]
      exact ⟨hn, by omega, fun e => by have := own_lt hR.br _ e; omega, fun e => by have := own_lt hR.tr _ e; omega⟩
    · rw [if_neg hc] at hj
      obtain ⟨a, b, d⟩ := hR.fr j o hj
      exact ⟨(hb.block j (blk_lt a)).trans a, b, d⟩
  · have := Lib.bytesWorld_cell W 5 y j hj
    rw [← World.cell?_of_block (a := ⟨W.heap.size, j, none⟩) (h2.trans hn.symm)] at this
    exact this
theorem shape (w : List Nat) (h : Waits w) : w = [] ∨ w = [27] ∨ (∃ a, w = 27 :: 91 :: a ∧ a.length ≤ 4 ∧ ∀ x ∈ a, x < 256) ∨ w = [27, 79] ∨ (∃ b r, w = b :: r ∧ 194 ≤ b ∧ b ≤ 244 ∧ r.length + 1 < sizeN b ∧ ∀ x ∈ r, 128 ≤ x ∧ x ≤ 191) := by
  match w, h with
  | [], _ => exact .inl rfl
  | b :: r, h =>
    rcases h with ⟨rfl, h⟩ | ⟨h1, h2, h3, h4⟩
    · match r, h with
      | [], _ => exact .inr (.inl rfl)
      | e :: a, h =>
        rcases h with ⟨rfl, h1, h2⟩ | ⟨rfl, rfl⟩
        · refine .inr (.inr (.inl ⟨a, rfl, h1, fun x hx => ?_⟩))
          have := h2 x hx
          unfold argB at this
          simp at this
          omega
        · exact .inr (.inr (.inr (.inl rfl)))
    · exact .inr (.inr (.inr (.inr ⟨b, r, rfl, h1, h2, h3, h4⟩)))
/-- The method that takes the next byte, in one contract. -/
theorem next_calls {K : Nat → Option Obj} {w0 W : World} {g : Nat} {w : List Nat} {told : List Key} (hL : Laid w0) (hw : Waits w) (h : Kr K w0 W g (nx g w) w told) (hl : told.length ≤ 900000) (c : Nat) (hc : c < 256) :
    ∃ n, nx g w = fnV n g ∧ (n = 20 ∨ n = 26 ∨ n = 30 ∨ n = 31 ∨ n = 27) ∧ (tk w c = false → n = 26 ∨ n = 27) ∧ Calls Tryd.prog n #[.pointer (some ⟨g, 0, none⟩), .int .i64 (c : Int)] W (Post K w0 g told w c) := by
  rcases shape w hw with rfl | rfl | ⟨a, rfl, h1, h2⟩ | rfl | ⟨b, r, rfl, h1, h2, h3, h4⟩
  · exact ⟨20, rfl, .inl rfl, (fun x => absurd x (by simp [tk])), (first_calls h hl c hc).mono fun e w' hp => hp⟩
  · exact ⟨26, rfl, .inr (.inl rfl), (fun _ => .inl rfl), second_calls h hl c hc⟩
  · exact ⟨30, rfl, .inr (.inr (.inl rfl)), (fun x => absurd x (by simp [tk])), args_calls h hl h1 h2 c hc⟩
  · exact ⟨31, rfl, .inr (.inr (.inr (.inl rfl))), (fun x => absurd x (by simp [tk])), other_calls h hl c hc⟩
  · exact ⟨27, nx_more g b r (by omega), .inr (.inr (.inr (.inr rfl))), (fun _ => .inr rfl), more_calls hL h hl h1 h2 h3 h4 c hc⟩
theorem nats_len (y : ByteArray) : (nats y).length = y.size := by simp [nats]
set_option maxHeartbeats 4000000 in
set_option maxRecDepth 100000 in
theorem Feed_calls {K : Nat → Option Obj} {w0 W : World} {g : Nat} {w : List Nat} (hL : Laid w0) (h : Kr K w0 W g (nx g w) w []) (hw : Waits w) (y : ByteArray) (hy : y.size ≤ 100000) :
    Calls Tryd.prog 15 #[.pointer (some ⟨g, 0, none⟩), .string y] W (Told K w0 g (run w (nats y)).1 (run w (nats y)).2) := by
  obtain ⟨o, hK, hcells⟩ := entry h y
  have kc := print_bytes (P := Tryd.prog) 9 47 5 Tryd.underlying9 Tryd.underlying47 Tryd.underlying5 y W
  have HK := Lib.hid hK
  have HC := Lib.hid hcells
  have HL := Lib.hid hL
  have HW := Lib.hid hw
  have hwl := waits_len w hw
  have HR0 : Hid (run w ((nats y).take 0) = ([], w)) := Lib.hid rfl
  have HYS := Lib.hid hy
  have HQ : Hid (∀ j o2, K j = some o2 → j ≠ W.heap.size) := Lib.hid (fun j o2 hj => by have := blk_lt (Kr.fr h j o2 hj).1; omega)
  clear h hK hcells hL hw
  unfold Told
  go_enter Tryd.func15, Tryd.ntmps15
  go_wp2
  clear kc
  generalize grownCap W y.size 0 5 = gc at *
  generalize Lib.bytesWorld W 5 y = w1 at HK ⊢
  generalize W.heap.size = q at *
  go_loopw [12] (fun v12 wr => ∃ (k : Nat) (wt : List Nat) (told : List Key), v12 = .int .i64 k ∧ k ≤ y.size ∧ Hid (run w ((nats y).take k) = (told, wt)) ∧ Hid (Waits wt) ∧ told.length + wt.length ≤ w.length + k ∧ Hid (Kr (Kq K q o) w0 wr g (nx g wt) wt told)) (fun v12 _ => y.size - (intOf v12).toNat)
  case atStart => exact ⟨0, w, [], rfl, Nat.zero_le _, HR0, HW, by simp, HK⟩
  case round =>
    clear HR0 HK HW
    obtain ⟨k, wt, told, rfl, hk, HR, HW, htl, HK⟩ := hrel
    by_cases hlt : k < y.size
    · have hkl : k < y.data.toList.length := by rw [Array.length_toList]; exact hlt
      obtain ⟨c8, hc8⟩ : ∃ c8, c8 = y.data.toList[k] := ⟨_, rfl⟩
      obtain ⟨c, hcn⟩ : ∃ c : Nat, c = c8.toNat := ⟨_, rfl⟩
      have hc : c < 256 := by rw [hcn]; exact c8.toNat_lt
      have hkn : k < (nats y).length := by rw [nats_len]; exact hlt
      have hck : c = (nats y)[k] := by rw [hcn, hc8]; simp [nats]
      have c0 := HC.out wr (Kr.fr HK.out q o (if_pos rfl)).1 k hlt
      rw [List.getD_eq_getElem?_getD, List.getElem?_eq_getElem hkl, Option.getD_some, ← hc8, ← hcn] at c0
      have HRN : Hid (run w ((nats y).take (k + 1)) = (told ++ (mach wt c).1, (mach wt c).2)) := Lib.hid (by rw [List.take_succ_eq_append_getElem hkn, run_snoc, HR.out, hck])
      have HMW := Lib.hid (mach_waits wt c HW.out)
      have hlen : (told ++ (mach wt c).1).length + (mach wt c).2.length ≤ w.length + (k + 1) := by
        rw [List.length_append]
        have := HMW.out.2.1
        omega
      have HLN := Lib.hid hlen
      have hys2 := HYS.out
      obtain ⟨n, hn, hns, hnf, hC⟩ := next_calls HL.out HW.out HK.out (by omega) c hc
      obtain ⟨bv, tv, hRd⟩ := HK.out.ex
      obtain ⟨f0, _⟩ := hRd.c
      rw [hn] at f0
      have hcm : (c : Int) % 18446744073709551616 = c := by omega
      clear hcn hc8 hkn hck hkl hRd hlen HR
      unfold Post at hC
      have HRA := Lib.hid (res_again wt c HW.out)
      unfold fnV at f0
      cases htk : tk wt c with
      | true =>
        have hres : res wt c = mach wt c := by unfold res; rw [if_pos htk]
        rw [htk, hres] at hC
        clear htk hres HRA hnf
        rcases hns with rfl | rfl | rfl | rfl | rfl
        all_goals
          go_wp2_with (first
            | (go_at_call 20; refine hC.mono ?_; rintro e w2 ⟨rfl, hK2⟩)
            | (go_at_call 26; refine hC.mono ?_; rintro e w2 ⟨rfl, hK2⟩)
            | (go_at_call 30; refine hC.mono ?_; rintro e w2 ⟨rfl, hK2⟩)
            | (go_at_call 31; refine hC.mono ?_; rintro e w2 ⟨rfl, hK2⟩)
            | (go_at_call 27; refine hC.mono ?_; rintro e w2 ⟨rfl, hK2⟩))
          go_roundw
          case rel => exact ⟨k + 1, (mach wt c).2, told ++ (mach wt c).1, by go_num, by omega, HRN, Lib.hid HMW.out.1, HLN.out, Lib.hid hK2⟩
          case measure => simp [intOf]; omega
      | false =>
        have hres : res wt c = ([kk wt], []) := by unfold res; rw [htk]; rfl
        rw [htk, hres] at hC
        have hag := HRA.out htk
        have hnf := hnf htk
        rw [hag] at HRN HMW HLN
        clear htk hres HRA hag
        generalize kk wt = k0 at *
        have htl2 : (told ++ [k0]).length ≤ 900000 := by rw [List.length_append]; simp; omega
        have HT2 := Lib.hid htl2
        clear htl2 hns
        rcases hnf with rfl | rfl
        all_goals
          go_wp2_with (first
            | (go_at_call 26; go_loud (refine hC.mono ?_; rintro e w2 ⟨rfl, hK2⟩; obtain ⟨bv2, tv2, hR2⟩ := hK2.ex; have f2 : w2.cell? ⟨g, 0, none⟩ = some (.func (.func 20) #[.pointer (some ⟨g, 0, none⟩)] #[]) := hR2.c.1; have hF := first_calls hK2 HT2.out c hc; clear hR2 hK2))
            | (go_at_call 27; go_loud (refine hC.mono ?_; rintro e w2 ⟨rfl, hK2⟩; obtain ⟨bv2, tv2, hR2⟩ := hK2.ex; have f2 : w2.cell? ⟨g, 0, none⟩ = some (.func (.func 20) #[.pointer (some ⟨g, 0, none⟩)] #[]) := hR2.c.1; have hF := first_calls hK2 HT2.out c hc; clear hR2 hK2))
            | (go_at_call 20; go_loud (refine hF.mono ?_; rintro e w3 ⟨rfl, hK3⟩)))
          go_roundw
          case rel => exact ⟨k + 1, (firstM c).2, told ++ (k0 :: (firstM c).1), by go_num, by omega, HRN, Lib.hid HMW.out.1, HLN.out, Lib.hid (by rw [List.append_assoc] at hK3; exact hK3)⟩
          case measure => simp [intOf]; omega
    · obtain rfl : k = y.size := by omega
      have HF : Hid (run w (nats y) = (told, wt)) := Lib.hid (by have := HR.out; rw [List.take_of_length_le (by rw [nats_len]; exact Nat.le_refl _)] at this; exact this)
      have hT := take_calls HK.out
      go_wp2_with (go_at_call 22; go_loud (refine hT.mono ?_; rintro e w2 ⟨A2, k2, rfl, hr2, hK2, hf2⟩))
      go_ret
      rw [HF.out]
      refine ⟨A2, k2, rfl, hr2, Kr.mono hK2 (fun j o2 hj => ?_), fun j o2 hj => hf2 j o2 (by unfold Kq; rw [if_neg (HQ.out j o2 hj)]; exact hj)⟩
      unfold Kt at hj ⊢
      by_cases e : (Value.slice A2 told.length k2).ownBlock = some j
      · rw [if_pos e] at hj ⊢; exact hj
      · rw [if_neg e] at hj ⊢
        unfold Kq
        rw [if_neg (HQ.out j o2 hj)]
        exact hj
end Go.Proofs.YtmgdikfgejablaaDoor.Ko
