import Derived.Test.YtacocgomhodboaaLv
set_option linter.unusedVariables false
set_option linter.unusedSimpArgs false
namespace Go.Proofs.Ytacocgomhodboaa.Lq
open Go.RowKit Go.Proofs.Ytacocgomhodboaa.Rd Go.Proofs.Ytacocgomhodboaa.Pk Go.Proofs.Ytacocgomhodboaa.Bw Go.Proofs.Ytacocgomhodboaa.En Go.Proofs.Ytacocgomhodboaa.Fs Go.Proofs.Ytacocgomhodboaa.Fd Go.Proofs.Ytacocgomhodboaa.Lem Go.Proofs.Ytacocgomhodboaa.Lv Go.Proofs.Ytacocgomhodboaa.P Go.Proofs.YtacocgomhodboaaW.PrintWords Go.Proofs.YtacocgomhodboaaW.PrintLast
theorem one_C {w : World} {p : Nat} {x : ByteArray} (h : w.cell? ⟨p, 0, none⟩ = some (.string x)) : Kd.C Kd.string w (some ⟨p, 0, none⟩) [x].length [x] :=
  Kd.C_of_reads (enc := Value.string) (d := ByteArray.empty) (h1 := fun _ => rfl) ⟨rfl, by show 1 ≤ _; decide, fun _ => ⟨⟨p, 0, none⟩, rfl, fun j hj => by
    have : j = 0 := by simp at hj; omega
    subst this
    exact h⟩⟩
theorem own_one {w : World} {base n c : Nat} {A : Option Addr} {x : ByteArray} (h : w.ownsRow base 9 1 (.slice A n c) [x].length (pw_strs [x])) : ∃ p, A = some ⟨p, 0, none⟩ ∧ w.cell? ⟨p, 0, none⟩ = some (.string x) ∧ p < w.heap.size ∧ 1 ≤ c := by
  rcases h.2 with ⟨_, e⟩ | ⟨p, cap, cur, e, _, h2, h3, _⟩
  · simp at e
  · injection e with e1 e2 e3
    refine ⟨p, e1, ?_, blk_lt h2, by rw [e3]; exact h3⟩
    have := h.cells (g := p) (by rw [e1]; rfl) 0 (.string x) rfl
    exact this
theorem Rd.below {K : Nat → Option Obj} {w0 W W1 : World} {g : Nat} {l : List UInt8} {long : Bool} {bad : Int} (h : Rd K w0 W g l long bad) (hb : Below W.heap.size W W1) : Rd K w0 W1 g l long bad := by
  obtain ⟨p, v, hR⟩ := h.ex
  exact ⟨below_then h.bl h.bl.size hb, p, v, hR.hp, (hb.block g (blk_lt hR.hb)).trans hR.hb, hR.hg, own_keep hR.row (fun j hj => hb.block j (own_lt hR.row j hj)), fun j o hj => by
    obtain ⟨a, b, d⟩ := hR.fr j o hj
    exact ⟨(hb.block j (blk_lt a)).trans a, b, d⟩⟩
theorem drawn_below {w w1 : World} (h : Drawn0 w w1) : Below w.heap.size w w1 := by
  obtain ⟨n, rfl⟩ := h.out
  exact pw_below_drewN (Below.refl _ _) n
theorem Laws_size : (strOfNums (List.replicate 2001 0)).size = 2001 := by
  show ((List.replicate 2001 (0 : Int)).map _).toArray.size = 2001
  rw [List.size_toArray, List.length_map, List.length_replicate]
set_option maxHeartbeats 2000000 in
set_option maxRecDepth 100000 in
theorem live_calls (w : World) : Calls Try.prog 10 #[] w fun e w' => e = .returned (.bool true) ∧ Below w.heap.size w w' := by
  have hmk := print_make (P := Try.prog) 39 5 .u8 1 Try.underlying39 Rd.info5 (by decide) 2001 (by decide)
  have hmk : ∀ W : World, (Instr.makeSlice 39 (.int .i64 2001) (.int .i64 2001)).run Try.prog W = .ok (.slice (some ⟨W.heap.size, 0, none⟩) 2001 2001) (W.alloc (.cells (madeCells #[.int .u8 0] 2001) 5)) := hmk
  obtain ⟨z, hz⟩ : ∃ z, z = strOfNums (List.replicate 2001 0) := ⟨_, rfl⟩
  have hzs : z.size = 2001 := by rw [hz]; exact Laws_size
  have hcv : ∀ W : World, (convert 39 9 (.slice (some ⟨W.heap.size, 0, none⟩) 2001 2001)).run Try.prog (W.alloc (.cells (madeCells #[.int .u8 0] 2001) 5)) = .ok (.string z) (W.alloc (.cells (madeCells #[.int .u8 0] 2001) 5)) := fun W => by
    obtain ⟨A, c, e, hr⟩ := own_reads (own_made W W.heap.size 5 .u8 2001 (Nat.le_refl _) (by decide))
    injection e with e1 e2 e3
    subst e1 e3
    rw [hz]
    exact string_of_reads Try.underlying39 Try.underlying5 Try.underlying9 hr
  clear hz
  go_enter Try.func10, Try.ntmps10
  go_upto_region 2 with (go_at_call 11; refine (pack_1 _).mono ?_; rintro e w1 ⟨rfl, hB1⟩)
  go_upto_region 3 with (go_at_call 11; refine (Pack_long z (by omega) _).mono ?_; rintro e w2 ⟨rfl, hB2⟩)
  have hB : Hid (Below w.heap.size w w2) := Lib.hid (below_then (below_alloc hB1 _) (below_alloc hB1 _).size hB2)
  clear hB1 hB2 hcv hmk
  go_upto_region 6 with (go_at_call 14; refine (New_calls (fun _ => none) _ (fun _ _ h => by cases h)).mono ?_; rintro e w3 ⟨g, rfl, hR3⟩)
  have hF1 := Feed_calls hR3 (by decide) ⟨#[120, 126, 97, 125, 94]⟩ (by decide) (by decide) (by decide)
  rw [show feedF ⟨[], false, 0, []⟩ (⟨#[120, 126, 97, 125, 94]⟩ : ByteArray).data.toList = ⟨[97, 125, 94], false, 1, []⟩ from feed_1] at hF1
  clear hR3
  go_upto_region 7 with (go_at_call 16; go_loud (refine hF1.mono ?_; rintro e w4 ⟨q4, A4, c4, rfl, hR4, hS4⟩))
  clear hF1
  have hF2 := Feed_calls hR4 (by decide) ⟨#[125, 93, 146, 181, 38, 126, 122, 122, 126]⟩ (by decide) (by decide) (by decide)
  rw [show feedF ⟨[97, 125, 94], false, 1, []⟩ (⟨#[125, 93, 146, 181, 38, 126, 122, 122, 126]⟩ : ByteArray).data.toList = ⟨[], false, 2, [⟨#[97, 126, 125]⟩]⟩ from feed_2] at hF2
  go_upto_region 8 with (go_at_call 16; go_loud (refine hF2.mono ?_; rintro e w5 ⟨q5, A5, c5, rfl, hR5, hS5⟩))
  clear hF2 hR4 hS4
  go_upto_region 9 with (go_at_call 11; refine (pack_0 _).mono ?_; rintro e w6 ⟨rfl, hB6⟩)
  obtain ⟨p, rfl, k0, hlt, hc⟩ := own_one hS5.row
  have k6 := pw_cell_below hB6 k0
  have hR6 := Lib.hid (Rd.below hR5 hB6)
  clear hR5 hS5
  have K0 := one_C (pw_cell_below (below_alloc (Below.refl _ w6) (.cells #[.string ⟨#[97, 126, 125]⟩] 9)) k6)
  have K1 : (w6.alloc (.cells #[.string ⟨#[97, 126, 125]⟩] 9)).cell? ⟨w6.heap.size, 0, none⟩ = some (.string ⟨#[97, 126, 125]⟩) := by rw [blk_cell (heap_alloc_new w6 _)]; rfl
  have hf : duetref03_Texts.f 5 [⟨#[97, 126, 125]⟩] [⟨#[97, 126, 125]⟩] = some true := by decide +kernel
  have hT := duetref03_Texts.calls 5 (some ⟨p, 0, none⟩) c5 [⟨#[97, 126, 125]⟩] (some ⟨w6.heap.size, 0, none⟩) 1 [⟨#[97, 126, 125]⟩] true _ K0 hc (one_C K1) (by decide) hf
  have hR7 := Rd.below hR6.out (below_alloc (Below.refl _ w6) (.cells #[.string ⟨#[97, 126, 125]⟩] 9))
  clear K0 K1 hf hR6 k6 k0
  go_wp2_with (first
    | (go_at_call 15; go_loud (refine hT.mono ?_; rintro e w8 ⟨rfl, hD⟩; have hR8 := Rd.below hR7 (drawn_below hD)))
    | (go_at_call 18; go_loud (refine (Bad_calls hR8).mono ?_; rintro e w9 ⟨rfl, hw9⟩; subst hw9)))
  go_ret
  exact ⟨rfl, below_then hB.out hB.out.size hR8.bl⟩
end Go.Proofs.Ytacocgomhodboaa.Lq
