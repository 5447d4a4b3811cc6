/- The reference's Feed: the walk. -/
import Derived.Test.YtmgdikfgejablaaDoorRo
set_option linter.unusedVariables false
set_option linter.unusedSimpArgs false
namespace Go.Proofs.YtmgdikfgejablaaDoor.Rf
open Go.RowKit Go.Proofs.YtmgdikfgejablaaDoor.Ky Go.Proofs.YtmgdikfgejablaaDoor.Kd Go.Proofs.YtmgdikfgejablaaDoor.Ke Go.Proofs.YtmgdikfgejablaaDoor.Ko Go.Proofs.YtmgdikfgejablaaDoor.Kl Go.Proofs.YtmgdikfgejablaaDoor.Kv Go.Proofs.YtmgdikfgejablaaDoor.Kp Go.Proofs.YtmgdikfgejablaaDoor.Ks Go.Proofs.YtmgdikfgejablaaDoor.Ro Go.Proofs.YtmgdikfgejablaaDoor.P Go.Proofs.YtmgdikfgejablaaDoorW.PrintWords Go.Proofs.YtmgdikfgejablaaDoorW.PrintLast
/-- Nothing but the box g may have changed. -/
structure But (g : Nat) (w w' : World) : Prop where
  os : w'.os = w.os
  tape : w'.tape = w.tape
  output : w'.output = w.output
  size : w.heap.size ≤ w'.heap.size
  block : ∀ k, k ≠ g → k < w.heap.size → w'.heap[k]? = w.heap[k]?
theorem But.refl (g : Nat) (w : World) : But g w w := ⟨rfl, rfl, rfl, Nat.le_refl _, fun _ _ _ => rfl⟩
theorem But.trans {g : Nat} {a b c : World} (h : But g a b) (k : But g b c) : But g a c :=
  ⟨k.os.trans h.os, k.tape.trans h.tape, k.output.trans h.output, Nat.le_trans h.size k.size, fun i hg hi => (k.block i hg (Nat.lt_of_lt_of_le hi h.size)).trans (h.block i hg hi)⟩
theorem But.of_below {g : Nat} {a b : World} (h : Below a.heap.size a b) : But g a b := ⟨h.os, h.tape, h.output, h.size, fun i _ hi => h.block i hi⟩
theorem But.set (g i : Nat) (w : World) (u : Value) : But g w (w.setCell ⟨g, i, none⟩ u) := ⟨rfl, rfl, rfl, by simp [World.setCell], fun k hk _ => Below.heap_setCell w ⟨g, i, none⟩ u k hk⟩
theorem But.below {g B : Nat} {a b c : World} (h : But g b c) (hb : Below B a b) (hg : B ≤ g) (hB : B ≤ b.heap.size) : Below B a c :=
  ⟨h.os.trans hb.os, h.tape.trans hb.tape, h.output.trans hb.output, Nat.le_trans hb.size h.size, fun k hk => (h.block k (by omega) (by omega)).trans (hb.block k hk)⟩
def ob (S : ByteArray) : Obj := .cells #[.string S] 29 (0, 0)
/-- The reference's reader in the box h, the row of what is told beside it. -/
structure Rx (W wr : World) (h : Nat) (S : ByteArray) (n : Nat) (ks : List Key) (v : Value) : Prop where
  b : wr.heap[h]? = some (ob S)
  hh : h < W.heap.size
  row : wr.ownsRow W.heap.size 45 2 v n (flat ks)
  but : But h W wr
theorem Rx.below {W wr w1 : World} {h n : Nat} {S : ByteArray} {ks : List Key} {v : Value} (H : Rx W wr h S n ks v) (hb : Below wr.heap.size wr w1) : Rx W w1 h S n ks v :=
  ⟨(hb.block h (blk_lt H.b)).trans H.b, H.hh, own_keep H.row (fun j hj => hb.block j (own_lt H.row j hj)), H.but.trans (But.of_below hb)⟩
theorem Rx.set {W wr : World} {h n : Nat} {S : ByteArray} {ks : List Key} {v : Value} (H : Rx W wr h S n ks v) (S2 : ByteArray) : Rx W (wr.setCell ⟨h, 0, none⟩ (.string S2)) h S2 n ks v :=
  ⟨blk_put H.b 0 _ rfl, H.hh, own_setCell H.row (own_ne H.row H.b (by decide)) _, H.but.trans (But.set h 0 wr _)⟩
theorem Rx.push {W wr w1 : World} {h n n2 : Nat} {S : ByteArray} {ks ks2 : List Key} {v v1 : Value} (H : Rx W wr h S n ks v) (hown : w1.ownsRow W.heap.size 45 2 v1 n2 (flat ks2)) (hg : wr.grownBy w1 v.ownBlock) : Rx W w1 h S n2 ks2 v1 := by
  have hne := own_ne H.row H.b (by decide)
  refine ⟨(hg.block h (blk_lt H.b) hne).trans H.b, H.hh, hown, ⟨hg.os.trans H.but.os, hg.tape.trans H.but.tape, hg.output.trans H.but.output, Nat.le_trans H.but.size hg.size, fun k hk hlt => ?_⟩⟩
  exact (hg.block k (Nat.lt_of_lt_of_le hlt H.but.size) (fun e => by have := own_base H.row k e.symm; omega)).trans (H.but.block k hk hlt)
theorem Rx.c {W wr : World} {h n : Nat} {S : ByteArray} {ks : List Key} {v : Value} (H : Rx W wr h S n ks v) : wr.cell? ⟨h, 0, none⟩ = some (.string S) ∧ wr.frozen? ⟨h, 0, none⟩ = false :=
  ⟨by rw [blk_cell H.b]; rfl, blk_frozen H.b 0⟩
def msz (h : Nat) (w : World) : Nat := match w.cell? ⟨h, 0, none⟩ with | some (.string s) => s.size | _ => 0
theorem msz_of {h : Nat} {w : World} {S : ByteArray} (hc : w.cell? ⟨h, 0, none⟩ = some (.string S)) : msz h w = S.size := by unfold msz; rw [hc]
set_option maxHeartbeats 4000000 in
set_option maxRecDepth 100000 in
theorem refFeed_calls {W : World} {h : Nat} {S : ByteArray} (hb : W.heap[h]? = some (ob S)) (hS : S.size ≤ 100000) (y : ByteArray) (hy : y.size ≤ 100000) :
    Calls Tryd.prog 16 #[.pointer (some ⟨h, 0, none⟩), .string y] W fun e w' => ∃ A c n ks S2, e = .returned (.slice A n c) ∧ Rx W w' h S2 n ks (.slice A n c) ∧ ks.length = n ∧ run [] (nats (S ++ y)) = (ks, nats S2) ∧ run [] (nats S2) = ([], nats S2) := by
  have hsz : (S ++ y).size = S.size + y.size := ByteArray.size_append
  have hcat : ¬ 9223372036854775807 < S.size + y.size := by omega
  have hX0 : Rx W W h S 0 [] (.slice none 0 0) := ⟨hb, blk_lt hb, own_nil _ _ _ _, But.refl _ _⟩
  have hX1 := hX0.set (S ++ y)
  obtain ⟨c0, f0⟩ := hX0.c
  have HX := Lib.hid hX1
  have HZ : Hid ((S ++ y).size ≤ 200000) := Lib.hid (by omega)
  clear hb hX0 hX1 hsz hS hy
  go_enter Tryd.func16, Tryd.ntmps16
  go_upto_region 3 with fail
  clear c0 f0 hcat
  generalize W.setCell ⟨h, 0, none⟩ (.string (S ++ y)) = w1 at HX ⊢
  generalize hT : S ++ y = T at HX HZ ⊢
  have HT := Lib.hid hT
  clear hT
  go_loopw [5] (fun v5 wr => ∃ (Sc : ByteArray) (n : Nat) (ks : List Key), Hid (Rx W wr h Sc n ks v5) ∧ ks.length = n ∧ n + Sc.size ≤ 200000 ∧ Hid (run [] (nats T) = (ks ++ (run [] (nats Sc)).1, (run [] (nats Sc)).2))) (fun _ wr => msz h wr)
  case atStart => exact ⟨T, 0, [], HX, rfl, by have := HZ.out; omega, Lib.hid rfl⟩
  case round =>
    clear HX HZ
    obtain ⟨Sc, n, ks, HX, hn, hz, HR⟩ := hrel
    obtain ⟨A, cp, rfl⟩ := own_slice HX.out.row
    obtain ⟨c0, f0⟩ := HX.out.c
    have hMw : Hid (msz h wr = Sc.size) := Lib.hid (msz_of c0)
    by_cases h0 : Sc.size = 0
    · have n1 : Sc.toList.isEmpty = true := by rw [ByteArray.toList_eq, List.isEmpty_iff, ← List.length_eq_zero_iff, Array.length_toList]; exact h0
      have hN : nats Sc = [] := List.eq_nil_of_length_eq_zero (by rw [nats_len]; exact h0)
      go_wp2
      go_ret
      refine ⟨A, cp, n, ks, Sc, rfl, HX.out, hn, ?_, by rw [hN]; rfl⟩
      have := HR.out
      rw [hN] at this ⊢
      rw [HT.out, this]; simp [run]
    · have n1 : Sc.toList.isEmpty = false := by
        rw [ByteArray.toList_eq]
        cases e : Sc.data.toList with
        | nil => exact absurd (by rw [← Array.length_toList (xs := Sc.data), e]; rfl : Sc.data.size = 0) h0
        | cons _ _ => rfl
      obtain ⟨⟨q1, q2, q3⟩, hq, m, rfl, hp⟩ := one_ok Sc (by omega) (by omega)
      have hO := fun W => duetref17_One.calls 13 Sc q1 q2 (m : Int) W hq
      have HP := Lib.hid hp
      clear hq hp
      go_upto_region 5 with (go_at_call 23; go_loud (refine (hO _).mono ?_; rintro e w2 ⟨rfl, hB2⟩; obtain ⟨x0, x1⟩ := (HX.out.below hB2).c; have HB2 := Lib.hid hB2; clear hB2))
      have hb3 := below_alloc (Below.refl w2.heap.size w2) (Obj.cells #[.int .i64 q1, .int .i64 q2] 45)
      have hn3 := heap_alloc_new w2 (Obj.cells #[.int .i64 q1, .int .i64 q2] 45)
      have HX3 := Lib.hid ((HX.out.below HB2.out).below hb3)
      clear x0 x1 HB2 HX hO c0 f0 hb3
      generalize w2.alloc (Obj.cells #[.int .i64 q1, .int .i64 q2] 45) = w3 at hn3 HX3 ⊢
      generalize w2.heap.size = bx at hn3 ⊢
      have k0 : w3.cell? ⟨bx, 0, none⟩ = some (.int .i64 q1) := by rw [blk_cell hn3]; rfl
      have k1 : w3.cell? ⟨bx, 1, none⟩ = some (.int .i64 q2) := by rw [blk_cell hn3]; rfl
      clear hn3
      rcases HP.out with ⟨hm, hp⟩ | ⟨hm1, hm2, hp⟩
      · subst hm
        have HP2 := Lib.hid hp
        clear hp HP
        go_wp2
        go_ret
        refine ⟨A, cp, n, ks, Sc, rfl, HX3.out, hn, ?_, HP2.out⟩
        rw [HT.out, HR.out, HP2.out, List.append_nil]
      · have hm0 : ((m : Int) == 0) = false := by simp only [beq_eq_false_iff_ne]; omega
        rw [nats_len] at hm2
        obtain ⟨g0, e0⟩ := HX3.out.c
        have hnx : nats (Sc.extract m Sc.size) = (nats Sc).drop m := by rw [nats_extract, List.take_of_length_le (by rw [List.length_drop, nats_len]; exact Nat.le_refl _)]
        have hsx : (Sc.extract m Sc.size).size = Sc.size - m := by rw [ByteArray.size_extract]; omega
        have HR2 : Hid (run [] (nats T) = ((ks ++ [(q1, q2)]) ++ (run [] (nats (Sc.extract m Sc.size))).1, (run [] (nats (Sc.extract m Sc.size))).2)) := Lib.hid (by rw [HR.out, hp, hnx]; simp)
        have HF : Hid (flat (ks ++ [(q1, q2)]) = flat ks ++ [.int .i64 q1, .int .i64 q2]) := Lib.hid (flat_snoc _ _)
        have G : Hid (n + 1 + (Sc.extract m Sc.size).size ≤ 200000 ∧ (Sc.extract m Sc.size).size < Sc.size ∧ (ks ++ [(q1, q2)]).length = n + 1) := Lib.hid ⟨by omega, by omega, by simp [hn]⟩
        have hgo : (n + 1) * 16 ≤ 140737488355328 := by omega
        clear HP hp HR hnx hsx hm1
        go_wp2_with (at_builtin; go_loud (refine print_append_cells (w0 := w3) W.heap.size rfl _ _ 31 45 (.agg #[.int .i64 0, .int .i64 0]) 2 16 rfl Tryd.underlying31 Kp.info45 rfl (by decide) (by decide) (.slice A n cp) n (flat ks) [.int .i64 q1, .int .i64 q2] rfl rfl rfl (by simp [Value.oneCell']) HX3.out.row (Below.refl _ _) HX3.out.but.size hgo ?_; intro v1 w5 hown hB5 hgr hat; rw [← HF.out] at hown; have hX5 := HX3.out.push hown hgr; obtain ⟨A2, k2, rfl⟩ := own_slice hown; obtain ⟨y0, y1⟩ := hX5.c; have HX5 := Lib.hid hX5; clear hown hB5 hgr hat hX5))
        have HX6 := Lib.hid (HX5.out.set (Sc.extract m Sc.size))
        go_roundw
        case rel => exact ⟨Sc.extract m Sc.size, n + 1, ks ++ [(q1, q2)], HX6, G.out.2.2, G.out.1, HR2⟩
        case measure => rw [msz_of HX6.out.c.1, hMw.out]; exact G.out.2.1
end Go.Proofs.YtmgdikfgejablaaDoor.Rf
