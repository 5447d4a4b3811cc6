/- frame.Pack: the walk. -/
import Derived.Test.YtacocgomhodboaaRd
import Derived.Test.YtacocgomhodboaaPx1
import Derived.Lib.ConvBytes
set_option linter.unusedVariables false
set_option linter.unusedSimpArgs false
namespace Go.Proofs.Ytacocgomhodboaa.Pk
open Go.RowKit Go.Proofs.Ytacocgomhodboaa.Rd Go.Proofs.Ytacocgomhodboaa.P Go.Proofs.YtacocgomhodboaaW.PrintWords Go.Proofs.YtacocgomhodboaaW.PrintLast
theorem bits_xor_u8 (a b : UInt8) : Go.bits .xor .u8 ((a.toNat : Nat) : Int) ((b.toNat : Nat) : Int) = (((a ^^^ b).toNat : Nat) : Int) := by
  have hx : a.toNat ^^^ b.toNat < 2 ^ 8 := Nat.xor_lt_two_pow a.toNat_lt b.toNat_lt
  have h1 : (BitVec.ofInt 8 (a.toNat : Int)).toNat = a.toNat := by
    rw [BitVec.ofInt_natCast, BitVec.toNat_ofNat]; exact Nat.mod_eq_of_lt a.toNat_lt
  have h2 : (BitVec.ofInt 8 (b.toNat : Int)).toNat = b.toNat := by
    rw [BitVec.ofInt_natCast, BitVec.toNat_ofNat]; exact Nat.mod_eq_of_lt b.toNat_lt
  show IntKind.u8.wrap ((BitVec.ofInt 8 (a.toNat : Int) ^^^ BitVec.ofInt 8 (b.toNat : Int)).toNat : Int) = _
  rw [BitVec.toNat_xor, h1, h2, UInt8.toNat_xor]
  simp [IntKind.wrap, IntKind.bits, IntKind.signed]
  omega
/-- A row of bytes that is being made, beside a row that is read. -/
structure Mk (base : Nat) (w W : World) (q : Nat) (y : ByteArray) (v : Value) (l : List UInt8) : Prop where
  bl : Below base w W
  hb : base ≤ W.heap.size
  row : W.ownsRow base 5 1 v l.length (Lib.byteCells l)
  ne : v.ownBlock ≠ some q
  lt : q < W.heap.size
  at_ : ∀ j, j < y.size → W.cell? ⟨q, j, none⟩ = some (.int .u8 (y.data.toList.getD j 0).toNat)
theorem Mk.grow {base : Nat} {w W w1 : World} {q : Nat} {y : ByteArray} {v v1 : Value} {l : List UInt8} (h : Mk base w W q y v l) {c : UInt8} (hown : w1.ownsRow base 5 1 v1 (Lib.byteCells l ++ [Value.int .u8 c.toNat]).length (Lib.byteCells l ++ [Value.int .u8 c.toNat])) (hB : Below base w w1) (hg : W.grownBy w1 v.ownBlock)
    (hat : v1.ownBlock = v.ownBlock ∨ ∃ b, v1.ownBlock = some b ∧ W.heap.size ≤ b) : Mk base w w1 q y v1 (l ++ [c]) := by
  refine ⟨hB, Nat.le_trans h.hb hg.size, by simpa [Lib.byteCells] using hown, ?_, Nat.lt_of_lt_of_le h.lt hg.size, fun j hj => ?_⟩
  · rcases hat with e | ⟨b, e, hb⟩
    · rw [e]; exact h.ne
    · rw [e]; intro e2; injection e2 with e2; have := h.lt; omega
  · rw [World.cell?_of_block (a := ⟨q, j, none⟩) (hg.block q h.lt (fun e => h.ne e.symm))]
    exact h.at_ j hj
def st1 (c : UInt8) : List UInt8 := if c = 126 ∨ c = 125 then [125, c ^^^ 32] else [c]
def st (l : List UInt8) : List UInt8 := l.flatMap st1
theorem st_snoc (l : List UInt8) (c : UInt8) : st (l ++ [c]) = st l ++ st1 c := by simp [st]
theorem st_len (l : List UInt8) : (st l).length ≤ 2 * l.length := by
  induction l with
  | nil => simp [st]
  | cons c l ih =>
    simp only [st, List.flatMap_cons, List.length_append, List.length_cons] at ih ⊢
    have : (st1 c).length ≤ 2 := by unfold st1; split <;> simp
    omega
theorem byteCells_nums (l : List UInt8) : Lib.byteCells l = nums .u8 (l.map fun b => (b.toNat : Int)) := by simp [Lib.byteCells, nums]
theorem strOfNums_bytes (l : List UInt8) : strOfNums (l.map fun b => (b.toNat : Int)) = ⟨l.toArray⟩ := by
  unfold strOfNums
  congr 2
  rw [List.map_map]
  have : ((fun n : Int => UInt8.ofNat n.toNat) ∘ fun b : UInt8 => (b.toNat : Int)) = id := by funext c; simp
  rw [this, List.map_id]
/-- A row of bytes, as a text. -/
theorem bytes_string {W : World} {base n c : Nat} {A : Option Addr} {l : List UInt8} (h : W.ownsRow base 5 1 (.slice A n c) l.length (Lib.byteCells l)) : (convert 39 9 (.slice A n c)).run Try.prog W = .ok (.string ⟨l.toArray⟩) W := by
  rw [byteCells_nums] at h
  obtain ⟨A', c', e, hr⟩ := own_reads h
  injection e with e1 e2 e3
  subst e1 e2 e3
  rw [string_of_reads Try.underlying39 Try.underlying5 Try.underlying9 hr, strOfNums_bytes]
theorem Pack_long (s : ByteArray) (h : 2000 < s.size) (w : World) : Calls Try.prog 11 #[.string s] w fun e w' => e = .returned (.tuple #[.string ⟨#[]⟩, .int .i64 1]) ∧ Below w.heap.size w w' := by
  have d : decide ((2000 : Int) < (s.size : Nat)) = true := decide_eq_true (by omega)
  go_enter Try.func11, Try.ntmps11
  go_wp2
  go_ret2
  exact ⟨rfl, Below.refl _ _⟩
set_option maxHeartbeats 2000000 in
theorem Pack_ok (s y : ByteArray) (h : s.size ≤ 2000) (hy : crcs_Seal.f s = some y) (hys : y.size ≤ 3000) (w : World) :
    Calls Try.prog 11 #[.string s] w fun e w' => e = .returned (.tuple #[.string ⟨([126] ++ st y.data.toList ++ [126]).toArray⟩, .int .i64 0]) ∧ Below w.heap.size w w' := by
  have d : decide ((2000 : Int) < (s.size : Nat)) = false := decide_eq_false (by omega)
  have hseal := fun w => crcs_Seal.calls s y w hy
  have HY := Lib.hid hys
  clear hy hys
  go_enter Try.func11, Try.ntmps11
  go_upto_region 4 with fail
  have hB0 := below_alloc (Below.refl w.heap.size w) (.cells #[.int .u8 126] 5)
  have hR0 : Hid ((w.alloc (.cells #[.int .u8 126] 5)).ownsRow w.heap.size 5 1 (.slice (some ⟨w.heap.size, 0, none⟩) 1 1) [(126 : UInt8)].length (Lib.byteCells [126])) := Lib.hid ⟨by rfl, .inr ⟨w.heap.size, 1, #[.int .u8 126], rfl, Nat.le_refl _, heap_alloc_new _ _, by decide, by decide, rfl, rfl⟩⟩
  have hlt0 : w.heap.size < (w.alloc (.cells #[.int .u8 126] 5)).heap.size := by simp
  generalize w.alloc (.cells #[.int .u8 126] 5) = w1 at hB0 hR0 hlt0 ⊢
  go_wp2_with (go_at_call 19; refine (hseal w1).mono ?_; rintro e w2 ⟨rfl, hB2⟩; have kc := print_bytes (P := Try.prog) 9 39 5 Try.underlying9 Try.underlying39 Try.underlying5 y w2)
  have hlt2 : w.heap.size < w2.heap.size := Nat.lt_of_lt_of_le hlt0 hB2.size
  have hB3 := Lib.hid (bytes_below (below_then hB0 hB0.size hB2) (Nat.le_of_lt hlt2) 5 y)
  have hR2 : Hid (w2.ownsRow w.heap.size 5 1 (.slice (some ⟨w.heap.size, 0, none⟩) 1 1) [(126 : UInt8)].length (Lib.byteCells [126])) := Lib.hid (own_other hR0.out (grown_of_below hB2 none) (.inr (by simp [Value.ownBlock])))
  have hMk : Hid (Mk w.heap.size w (Lib.bytesWorld w2 5 y) w2.heap.size y (.slice (some ⟨w.heap.size, 0, none⟩) 1 1) ([126] ++ st (y.data.toList.take 0))) := by
    have hq : w2.heap.size < (Lib.bytesWorld w2 5 y).heap.size := by rw [Lib.bytesWorld_size]; omega
    refine Lib.hid ⟨hB3.out, by omega, ?_, ?_, hq, fun j hj => Lib.bytesWorld_cell w2 5 y j hj⟩
    · exact own_other hR2.out (grown_of_below (bytes_below (Below.refl _ _) (Nat.le_refl _) 5 y) none) (.inr (by simp [Value.ownBlock]))
    · simp [Value.ownBlock]; omega
  clear kc hB0 hR0 hB2 hlt0 hlt2 hB3 hR2 d hseal
  generalize grownCap w2 y.size 0 5 = gc at *
  generalize w2.heap.size = q at hMk ⊢
  generalize Lib.bytesWorld w2 5 y = w3 at hMk ⊢
  go_loopw [4, 6, 15] (fun v4 v6 v15 wr => ∃ k : Nat, v15 = .int .i64 k ∧ k ≤ y.size ∧ Hid (Mk w.heap.size w wr q y v4 ([126] ++ st (y.data.toList.take k)))) (fun _ _ v15 _ => y.size - (intOf v15).toNat)
  case atStart => exact ⟨0, rfl, Nat.zero_le _, hMk⟩
  case round =>
    clear hMk
    obtain ⟨k, rfl, hk, HM⟩ := hrel
    obtain ⟨A, cp, rfl⟩ := own_slice HM.out.row
    by_cases hlt : k < y.size
    · have hkl : k < y.data.toList.length := by rw [Array.length_toList]; exact hlt
      obtain ⟨c, hc⟩ : ∃ c, c = y.data.toList[k] := ⟨_, rfl⟩
      have c0 := HM.out.at_ k hlt
      rw [List.getD_eq_getElem?_getD, List.getElem?_eq_getElem hkl, Option.getD_some, ← hc] at c0
      have HS : Hid ([126] ++ st (y.data.toList.take (k + 1)) = ([126] ++ st (y.data.toList.take k)) ++ st1 c) := Lib.hid (by rw [List.take_succ_eq_append_getElem hkl, st_snoc, ← hc, List.append_assoc])
      have hL : ([126] ++ st (y.data.toList.take k)).length ≤ 6001 := by
        have h1 := st_len (y.data.toList.take k)
        have h2 : (y.data.toList.take k).length ≤ k := List.length_take_le _ _
        have h3 := HY.out
        rw [List.length_append]; simp only [List.length_cons, List.length_nil]; omega
      have hys := HY.out
      clear hc hkl
      generalize [126] ++ st (y.data.toList.take k) = L at HM HS hL ⊢
      by_cases h1 : c = 126 ∨ c = 125
      · have HX : Hid (st1 c = [125] ++ [c ^^^ 32]) := Lib.hid (by unfold st1; rw [if_pos h1]; rfl)
        have hx := bits_xor_u8 c 32
        have hL2 : (L ++ [(125 : UInt8)]).length ≤ 6002 := by rw [List.length_append]; simp only [List.length_cons, List.length_nil]; omega
        rcases h1 with h1 | h1
        all_goals
          obtain ⟨cx, hcx⟩ : ∃ cx : UInt8, cx = c ^^^ 32 := ⟨_, rfl⟩
          rw [← hcx] at hx
          rw [← hcx] at HX
          rw [h1] at c0 hx
          clear hcx h1
          first
            | (replace hx : Go.bits .xor .u8 (126 : Int) 32 = ((cx.toNat : Nat) : Int) := hx)
            | (replace hx : Go.bits .xor .u8 (125 : Int) 32 = ((cx.toNat : Nat) : Int) := hx)
          go_wp2_with (first
            | (at_builtin; refine print_append w.heap.size rfl _ _ 39 5 (.int .u8 0) 1 rfl Try.underlying39 Rd.info5 rfl (by decide) (.slice A (L).length cp) (Lib.byteCells (L)) (.int .u8 125) rfl rfl rfl (by rw [Lib.byteCells_length]; exact HM.out.row) HM.out.bl HM.out.hb (by rw [Lib.byteCells_length]; omega) ?_; intro v1 w5 hown hB hgr hat; have HM2 := Lib.hid (HM.out.grow (c := 125) hown hB hgr hat); obtain ⟨L2, hL2e⟩ : ∃ L2, L2 = L ++ [(125 : UInt8)] := ⟨_, rfl⟩; rw [← hL2e] at HM2; rw [← hL2e] at hL2; have HL2 := Lib.hid hL2e; clear hL2e; obtain ⟨A2, cp2, rfl⟩ := own_slice HM2.out.row; clear hown hB hgr hat)
            | (at_builtin; refine print_append w.heap.size rfl _ _ 39 5 (.int .u8 0) 1 rfl Try.underlying39 Rd.info5 rfl (by decide) (.slice A2 L2.length cp2) (Lib.byteCells L2) (.int .u8 (cx : UInt8).toNat) rfl rfl rfl (by rw [Lib.byteCells_length]; exact HM2.out.row) HM2.out.bl HM2.out.hb (by rw [Lib.byteCells_length]; omega) ?_; intro v1 w6 hown hB hgr hat; have HM3 := Lib.hid (HM2.out.grow (c := cx) hown hB hgr hat); obtain ⟨A3, cp3, rfl⟩ := own_slice HM3.out.row; clear hown hB hgr hat))
          go_roundw
          case rel => exact ⟨k + 1, by go_num, by omega, by rw [HS.out, HX.out, ← List.append_assoc, ← HL2.out]; exact Lib.hid (by have := HM3.out; rw [List.length_append] at this; exact this)⟩
          case measure => simp [intOf]; omega
      · have HX : Hid (st1 c = [c]) := Lib.hid (by unfold st1; rw [if_neg h1])
        have e1 : ((c.toNat : Int) == 126) = false := by
          simp only [beq_eq_false_iff_ne]
          intro e; exact h1 (.inl (UInt8.toNat_inj.1 (by simpa using (by omega : c.toNat = 126))))
        have e2 : ((c.toNat : Int) == 125) = false := by
          simp only [beq_eq_false_iff_ne]
          intro e; exact h1 (.inr (UInt8.toNat_inj.1 (by simpa using (by omega : c.toNat = 125))))
        clear h1
        go_wp2_with ((at_builtin; refine print_append w.heap.size rfl _ _ 39 5 (.int .u8 0) 1 rfl Try.underlying39 Rd.info5 rfl (by decide) (.slice A (L).length cp) (Lib.byteCells (L)) (.int .u8 (c : UInt8).toNat) rfl rfl rfl (by rw [Lib.byteCells_length]; exact HM.out.row) HM.out.bl HM.out.hb (by rw [Lib.byteCells_length]; omega) ?_; intro v1 w5 hown hB hgr hat; have HM2 := Lib.hid (HM.out.grow (c := c) hown hB hgr hat); obtain ⟨A2, cp2, rfl⟩ := own_slice HM2.out.row; clear hown hB hgr hat))
        go_roundw
        case rel => exact ⟨k + 1, by go_num, by omega, by rw [HS.out, HX.out]; exact Lib.hid (by have := HM2.out; rw [List.length_append] at this; exact this)⟩
        case measure => simp [intOf]; omega
    · obtain rfl : k = y.size := by omega
      have hall : y.data.toList.take y.size = y.data.toList := List.take_of_length_le (by rw [Array.length_toList]; exact Nat.le_refl _)
      obtain ⟨L, hLe⟩ : ∃ L, L = [126] ++ st (y.data.toList.take y.size) := ⟨_, rfl⟩
      rw [← hLe] at HM ⊢
      rw [hall] at hLe
      have hL : L.length ≤ 6001 := by
        have h1 := st_len y.data.toList
        have h2 : y.data.toList.length = y.size := Array.length_toList
        have h3 := HY.out
        rw [hLe, List.length_append]; simp only [List.length_cons, List.length_nil]; omega
      obtain ⟨Z, hZ⟩ : ∃ Z, Z = [126] ++ st y.data.toList ++ [126] := ⟨_, rfl⟩
      have HLE : Hid (L ++ [126] = Z) := Lib.hid (by rw [hLe, hZ])
      have HZ := Lib.hid hZ
      clear hZ
      clear hall hLe
      go_wp2_with (at_builtin; refine print_append w.heap.size rfl _ _ 39 5 (.int .u8 0) 1 rfl Try.underlying39 Rd.info5 rfl (by decide) (.slice A L.length cp) (Lib.byteCells L) (.int .u8 126) rfl rfl rfl (by rw [Lib.byteCells_length]; exact HM.out.row) HM.out.bl HM.out.hb (by rw [Lib.byteCells_length]; omega) ?_; intro v1 w5 hown hB hgr hat; have HM2 := Lib.hid (HM.out.grow (c := 126) hown hB hgr hat); rw [HLE.out] at HM2; obtain ⟨A2, cp2, rfl⟩ := own_slice HM2.out.row; have hcv := bytes_string HM2.out.row; clear hown hB hgr hat)
      go_ret2
      have e : (126 :: (st y.data.toList ++ [126])) = Z := by rw [HZ.out]; rfl
      rw [e]
      exact ⟨rfl, HM2.out.bl⟩
end Go.Proofs.Ytacocgomhodboaa.Pk
