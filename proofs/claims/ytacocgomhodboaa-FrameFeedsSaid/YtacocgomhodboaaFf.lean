/- FrameFeeds: the walk. -/
import Derived.Test.YtacocgomhodboaaCt
set_option linter.unusedVariables false
set_option linter.unusedSimpArgs false
namespace Go.Proofs.Ytacocgomhodboaa.Ff
open Go.RowKit Go.Proofs.Ytacocgomhodboaa.Rd Go.Proofs.Ytacocgomhodboaa.Pk Go.Proofs.Ytacocgomhodboaa.En Go.Proofs.Ytacocgomhodboaa.Fs Go.Proofs.Ytacocgomhodboaa.Fd Go.Proofs.Ytacocgomhodboaa.Gv2 Go.Proofs.Ytacocgomhodboaa.Fl Go.Proofs.Ytacocgomhodboaa.Hs Go.Proofs.Ytacocgomhodboaa.Rf Go.Proofs.Ytacocgomhodboaa.Ct Go.Proofs.YtacocgomhodboaaW.PrintWords Go.Proofs.YtacocgomhodboaaW.PrintLast
def ob (l : List UInt8) (long : Bool) (bad : Int) : Obj := .cells #[.string ⟨l.toArray⟩, .bool long, .int .i64 bad] 33 (0, 0)
def Kh (h : Nat) (o : Obj) : Nat → Option Obj := fun j => if j = h then some o else none
theorem Kh_self (h : Nat) (o : Obj) : Kh h o h = some o := if_pos rfl
theorem Kh_some {h j : Nat} {o o' : Obj} (hj : Kh h o j = some o') : j = h ∧ o' = o := by
  unfold Kh at hj
  by_cases e : j = h
  · rw [if_pos e] at hj; exact ⟨e, (Option.some.inj hj).symm⟩
  · rw [if_neg e] at hj; cases hj
/-- Both readers, alike. -/
structure Bt (w1 wr : World) (g h : Nat) (l : List UInt8) (long : Bool) (bad : Int) : Prop where
  rd : Rd (Kh h (ob l long bad)) w1 wr g l long bad
  hh : w1.heap.size ≤ h
theorem Bt.below {w1 wr w2 : World} {g h : Nat} {l : List UInt8} {long : Bool} {bad : Int} (H : Bt w1 wr g h l long bad) (hb : Below wr.heap.size wr w2) : Bt w1 w2 g h l long bad := ⟨Lq.Rd.below H.rd hb, H.hh⟩
theorem Bt.b {w1 wr : World} {g h : Nat} {l : List UInt8} {long : Bool} {bad : Int} (H : Bt w1 wr g h l long bad) : wr.heap[h]? = some (ob l long bad) := (Fs.Rd.fr H.rd h _ (Kh_self h _)).1
/-- The program's reader is fed; the reference's not yet. -/
structure Mid (w1 W w4 : World) (g h : Nat) (l : List UInt8) (long : Bool) (bad : Int) (s : FS) (v : Value) : Prop where
  rd : Rd (Kh h (ob l long bad)) w1 w4 g s.l s.long s.bad
  hh : w1.heap.size ≤ h
  row : w4.ownsRow W.heap.size 9 1 v s.out.length (pw_strs s.out)
theorem Mid.b {w1 W w4 : World} {g h : Nat} {l : List UInt8} {long : Bool} {bad : Int} {s : FS} {v : Value} (H : Mid w1 W w4 g h l long bad s v) : w4.heap[h]? = some (ob l long bad) := (Fs.Rd.fr H.rd h _ (Kh_self h _)).1
theorem Bt.fed {w1 W w4 : World} {g h q : Nat} {l : List UInt8} {long : Bool} {bad : Int} {s : FS} {v : Value} {y : ByteArray} (H : Bt w1 W g h l long bad) (hR : Rd (Kx (Kh h (ob l long bad)) q v w4) w1 w4 g s.l s.long s.bad) (hS : Side (Kh h (ob l long bad)) W w4 q y v s.out) : Mid w1 W w4 g h l long bad s v := by
  have hlt := blk_lt H.b
  have h1 := hS.q0
  refine ⟨Fs.Rd.mono hR (fun j o hj => ?_), H.hh, hS.row⟩
  obtain ⟨rfl, rfl⟩ := Kh_some hj
  unfold Kx
  rw [if_neg, hj]
  rintro (e | e)
  · omega
  · have := own_base hS.row _ e; omega
theorem Mid.fed {w1 W w4 w5 : World} {g h : Nat} {l : List UInt8} {long : Bool} {bad : Int} {s : FS} {v v2 : Value} (H : Mid w1 W w4 g h l long bad s v) (hX : Rx w4 w5 h s v2) : Bt w1 w5 g h s.l s.long s.bad ∧ w5.ownsRow W.heap.size 9 1 v s.out.length (pw_strs s.out) := by
  obtain ⟨p, u, hR⟩ := H.rd.ex
  obtain ⟨k1, k2, k3⟩ := hR.fr h _ (Kh_self h _)
  have hk : ∀ j, j < w4.heap.size → j ≠ h → w5.heap[j]? = w4.heap[j]? := fun j hj hne => hX.but.block j hne hj
  refine ⟨⟨⟨hX.but.below H.rd.bl H.hh H.rd.bl.size, p, u, hR.hp, (hk g (blk_lt hR.hb) (fun e => k2 e.symm)).trans hR.hb, hR.hg, own_keep hR.row (fun j hj => hk j (own_lt hR.row j hj) (fun e => k3 (by rw [hj, e]))), fun j o hj => ?_⟩, H.hh⟩, own_keep H.row (fun j hj => hk j (own_lt H.row j hj) (fun e => own_ne H.row H.b (by decide) (by rw [hj, e])))⟩
  obtain ⟨rfl, rfl⟩ := Kh_some hj
  exact ⟨hX.b, k2, k3⟩
set_option maxHeartbeats 8000000 in
set_option maxRecDepth 100000 in
theorem feeds_ok (A : Option Addr) (c : Nat) (xs : List ByteArray) (w : World) (hC : Kd.C Kd.string w A xs.length xs) (hc : xs.length ≤ c) (hs : shortB xs = true) :
    Calls Try.prog 4 #[.slice A xs.length c] w fun e w' => e = .returned (.bool true) ∧ Below w.heap.size w w' := by
  have hsh := short_calls A c xs w hC hc
  rw [hs] at hsh
  obtain ⟨hlen, hall⟩ := (shortB_iff xs).1 hs
  have HC := Lib.hid hC
  have HA := Lib.hid hall
  clear hC hs hc hall
  go_enter Try.func4, Try.ntmps4
  go_upto_region 6 with (first
    | (go_at_call 13; refine hsh.mono ?_; rintro e w1 ⟨rfl, hD⟩)
    | (go_at_call 14; refine (New_calls (fun _ => none) _ (fun _ _ h => by cases h)).mono ?_; rintro e w3 ⟨g, rfl, hR3⟩))
  have HB1 := Lib.hid (Hs.drawn_below hD)
  go_upto_region 8 with fail
  have hBt : Hid (Bt w1 (w3.alloc (Obj.cells #[.string ⟨#[]⟩, .bool false, .int .i64 0] 33)) g w3.heap.size [] false 0) := by
    have hb := below_alloc (Below.refl w3.heap.size w3) (Obj.cells #[.string ⟨#[]⟩, .bool false, .int .i64 0] 33)
    obtain ⟨p, u, hR⟩ := hR3.ex
    have hg := blk_lt hR.hb
    refine Lib.hid ⟨⟨below_then hR3.bl hR3.bl.size hb, p, u, hR.hp, (hb.block g hg).trans hR.hb, hR.hg, own_keep hR.row (fun j hj => hb.block j (own_lt hR.row j hj)), fun j o hj => ?_⟩, hR3.bl.size⟩
    obtain ⟨rfl, rfl⟩ := Kh_some hj
    exact ⟨heap_alloc_new _ _, by omega, fun e => by have := own_lt hR.row _ e; omega⟩
  clear hD hsh hR3
  generalize w3.heap.size = h at hBt ⊢
  generalize w3.alloc (Obj.cells #[.string ⟨#[]⟩, .bool false, .int .i64 0] 33) = w4 at hBt ⊢
  go_loopw [5] (fun v5 wr => ∃ (k : Nat) (l : List UInt8) (long : Bool) (bad : Int), v5 = .int .i64 k ∧ k ≤ xs.length ∧ l.length ≤ 5000 ∧ 0 ≤ bad ∧ bad ≤ 3000 * k ∧ Hid (Bt w1 wr g h l long bad)) (fun v5 _ => xs.length - (intOf v5).toNat)
  case atStart => exact ⟨0, [], false, 0, rfl, Nat.zero_le _, by simp, by simp, by simp, hBt⟩
  case round =>
    clear hBt
    obtain ⟨k, l, long, bad, rfl, hk, hl, hb0, hb1, HB⟩ := hrel
    by_cases hlt : k < xs.length
    · obtain ⟨ad, rfl, cw⟩ := Kd.at_string HC.out (k : Int) (by omega) (by omega)
      rw [rdOf_nat xs k hlt, Int.toNat_natCast] at cw
      have c0 := pw_cell_below (below_then HB1.out HB1.out.size (below_drew HB.out.rd.bl)) cw
      have CW := Lib.hid cw
      clear cw
      have hy : xs[k].size ≤ 3000 := HA.out _ (List.getElem_mem hlt)
      generalize xs[k] = y at c0 hy CW
      have HBd := Lib.hid (HB.out.below (below_drew (Below.refl _ _)))
      have hF1 := Feed_calls HBd.out.rd hl y (by omega) hb0 (by omega)
      obtain ⟨f1, f2, f3, f4⟩ := feed_bounds y.data.toList ⟨l, long, bad, []⟩
      have hz : y.data.toList.length = y.size := Array.length_toList
      rw [hz] at f2 f3
      simp only at f1 f2 f4
      have hF2 := fun (w4 : World) (hb : w4.heap[h]? = some (ob l long bad)) => refFeed_calls (W := w4) (h := h) (l := l) (long := long) (bad := bad) hb hl y (by omega) hb0 (by omega)
      generalize feedF ⟨l, long, bad, []⟩ y.data.toList = s at *
      have G : Hid (s.l.length ≤ 5000 ∧ 0 ≤ s.bad ∧ s.bad ≤ 3000 * ((k + 1 : Nat) : Int)) := Lib.hid ⟨f4 hl, by omega, by omega⟩
      clear f1 f2 f3 f4 hz hb0 hb1 hl
      go_upto_region 10 with fail
      go_region_with ((first
        | (go_at_call 16; go_loud (refine hF1.mono ?_; rintro e w5 ⟨q5, A5, c5, rfl, hR5, hS5⟩; have HM5 := Lib.hid (HBd.out.fed hR5 hS5); have d5 := pw_cell_below (below_then HB1.out HB1.out.size hR5.bl) CW.out; have hF3 := hF2 w5 HM5.out.b; clear hR5 hS5))
        | (go_at_call 17; go_loud (refine hF3.mono ?_; rintro e w6 ⟨A6, c6, rfl, hX6⟩; obtain ⟨hB6, hr6⟩ := HM5.out.fed hX6; obtain ⟨_, n5, C5⟩ := own_C hr6; obtain ⟨_, n6, C6⟩ := own_C hX6.row; have hT := texts_calls A5 A6 c5 c6 s.out w6 C5 n5 C6 n6; obtain ⟨_, _, x6, _⟩ := hX6.c; have HB6 := Lib.hid hB6; clear hX6 hr6 hB6 C5 C6))
        | (go_at_call 15; go_loud (refine hT.mono ?_; rintro e w7 ⟨rfl, hD⟩; have hd := Hs.drawn_below hD; have x7 := pw_cell_below hd x6; have HB7 := Lib.hid (HB6.out.below hd); clear hd hD))
        | (go_at_call 18; go_loud (refine (Bad_calls HB7.out.rd).mono ?_; rintro e w9 ⟨rfl, hw9⟩; subst hw9))))
      all_goals
        go_wp2
        go_roundw
        case rel => exact ⟨k + 1, s.l, s.long, s.bad, by go_num, by omega, G.out.1, G.out.2.1, G.out.2.2, HB7⟩
        case measure => simp [intOf]; omega
    · obtain rfl : k = xs.length := by omega
      go_wp2_with (go_at_call 10; refine (Lq.live_calls _).mono ?_; rintro e w6 ⟨rfl, hB6⟩)
      go_ret
      exact ⟨rfl, below_then (below_then HB1.out HB1.out.size HB.out.rd.bl) (below_then HB1.out HB1.out.size HB.out.rd.bl).size hB6⟩
set_option maxRecDepth 100000 in
theorem feeds_law (A : Option Addr) (c : Nat) (xs : List ByteArray) (w : World) (hc : xs.length ≤ c) (hC : Kd.C Kd.string w A xs.length xs) :
    Calls Try.prog 4 #[.slice A xs.length c] w fun e w' => e = .returned (.bool true) ∧ Below w.heap.size w w' := by
  cases hs : shortB xs with
  | true => exact feeds_ok A c xs w hC hc hs
  | false =>
    have hsh := short_calls A c xs w hC hc
    rw [hs] at hsh
    clear hs hC
    go_enter Try.func4, Try.ntmps4
    go_wp2_with (first
      | (go_at_call 13; refine hsh.mono ?_; rintro e w1 ⟨rfl, hD⟩; have hB1 := Lib.hid (Hs.drawn_below hD); clear hD)
      | (go_at_call 10; refine (Lq.live_calls _).mono ?_; rintro e w6 ⟨rfl, hB6⟩))
    go_ret
    exact ⟨rfl, below_then hB1.out hB1.out.size hB6⟩
end Go.Proofs.Ytacocgomhodboaa.Ff
