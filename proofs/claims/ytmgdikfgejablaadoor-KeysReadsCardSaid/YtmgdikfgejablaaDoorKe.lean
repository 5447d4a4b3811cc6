/- keys.ends: a map that is written out, looked up: the walk. -/
import Derived.Test.YtmgdikfgejablaaDoorKf
import Derived.StringKeys
import Derived.MapKept
import Derived.ChangeMaps
set_option linter.unusedVariables false
set_option linter.unusedSimpArgs false
namespace Go.Proofs.YtmgdikfgejablaaDoor.Ke
open Go.RowKit Go.WideMaps Go.ChangeMaps Go.Proofs.YtmgdikfgejablaaDoor.Ky Go.Proofs.YtmgdikfgejablaaDoorW.PrintWords Go.Proofs.YtmgdikfgejablaaDoorW.PrintLast
theorem law : KeyLaw Tryd.prog 9 := string_law Tryd.underlying9
def ent (s : ByteArray) (v : Int) (n : Nat) : MapEntry := ⟨.string s, .int .i64 v, n⟩
/-- All keys of a map are texts that are none too long. -/
def Ks (es : Array MapEntry) : Prop := ∀ x ∈ es.toList, ∃ s : ByteArray, x.key = .string s ∧ s.size ≤ maxLen
theorem Ks.law {es : Array MapEntry} (h : Ks es) : ∀ x ∈ es.toList, ∃ l, keyOf Tryd.prog 9 x.key = some l := fun x hx => by
  obtain ⟨s, e, hs⟩ := h x hx
  rw [e]; exact ⟨_, keyOf_string_mk Tryd.underlying9 hs⟩
theorem upd {W : World} {b ck : Nat} {es : Array MapEntry} (hm : W.heap[b]? = some (.map es ck)) (hk : Ks es) (s : ByteArray) (v : Int) (hs : s.size ≤ maxLen) (hn : ∀ x ∈ es.toList, x.key ≠ .string s) :
    (Instr.mapUpdate 59 (.map (some b)) (.string s) (.int .i64 v)).run Tryd.prog W = .ok () (setBlock W b (.map (es.push (ent s v ck)) (ck + 1))) := by
  have hl := keyOf_string_mk Tryd.underlying9 hs
  rcases law.find W hl es.toList hk.law with ⟨h1, h3⟩ | ⟨j, e0, h1, h3, h4⟩
  · simp [Instr.mapUpdate, run_underlying Tryd.underlying59, MapKept.run_getObj_map hm, law.check W _ hl, h1, MapKept.run_setObj_map _ hm, Result.andThen, Go.ChangeMaps.setBlock, ent]
  · exact absurd h4 (hn e0 (List.mem_of_getElem? h3))
theorem setBlock_at {W : World} {b : Nat} {o o' : Obj} (h : W.heap[b]? = some o) : (setBlock W b o').heap[b]? = some o' := by
  unfold Go.ChangeMaps.setBlock
  have hlt := blk_lt h
  simp [hlt]
theorem setBlock_below {W : World} {B b : Nat} {o' : Obj} (h : B ≤ b) : Below B W (setBlock W b o') := by
  unfold Go.ChangeMaps.setBlock
  refine ⟨rfl, rfl, rfl, by simp, fun k hk => ?_⟩
  show (W.heap.setIfInBounds b o')[k]? = _
  rw [Array.getElem?_setIfInBounds, if_neg (by omega)]
def s65 : ByteArray := ⟨#[65]⟩
def s66 : ByteArray := ⟨#[66]⟩
def s67 : ByteArray := ⟨#[67]⟩
def s68 : ByteArray := ⟨#[68]⟩
def s72 : ByteArray := ⟨#[72]⟩
def s70 : ByteArray := ⟨#[70]⟩
def s49 : ByteArray := ⟨#[49, 126]⟩
def s51 : ByteArray := ⟨#[51, 126]⟩
def s52 : ByteArray := ⟨#[52, 126]⟩
theorem size_small (s : ByteArray) (h : s.size ≤ 10) : s.size ≤ maxLen := by unfold maxLen; omega
theorem str_ne {s t : ByteArray} (h : s ≠ t) : Value.string s ≠ Value.string t := fun e => h (by injection e)
theorem Ks.push {es : Array MapEntry} (h : Ks es) (s : ByteArray) (v : Int) (n : Nat) (hs : s.size ≤ maxLen) : Ks (es.push (ent s v n)) := fun x hx => by
  rw [Array.toList_push] at hx
  rcases List.mem_append.1 hx with hx | hx
  · exact h x hx
  · rw [List.mem_singleton.1 hx]; exact ⟨s, rfl, hs⟩
/-- One more entry, the world named anew. -/
theorem more {W : World} {B b ck : Nat} {es : Array MapEntry} (hm : W.heap[b]? = some (.map es ck)) (hk : Ks es) (hB : B ≤ b) (s : ByteArray) (v : Int) (hs : s.size ≤ maxLen) (hn : ∀ x ∈ es.toList, x.key ≠ .string s) :
    ∃ W1, (Instr.mapUpdate 59 (.map (some b)) (.string s) (.int .i64 v)).run Tryd.prog W = .ok () W1 ∧ W1.heap[b]? = some (.map (es.push (ent s v ck)) (ck + 1)) ∧ Ks (es.push (ent s v ck)) ∧ Below B W W1 :=
  ⟨_, upd hm hk s v hs hn, setBlock_at hm, hk.push s v ck hs, setBlock_below hB⟩
def endsE : Array MapEntry := #[ent s65 4 0, ent s66 5 1, ent s67 6 2, ent s68 7 3, ent s72 8 4, ent s70 9 5, ent s49 8 6, ent s51 10 7, ent s52 9 8]
theorem zero3 (w : World) : (zeroValue 3).run Tryd.prog w = .ok (.int .i64 0) w := by kernel_rfl
theorem look {W : World} {b ck : Nat} {es : Array MapEntry} (hm : W.heap[b]? = some (.map es ck)) (hk : Ks es) (s : ByteArray) (hs : s.size ≤ maxLen) :
    ((∀ x ∈ es.toList, x.key ≠ .string s) ∧ (Instr.lookup 59 (.map (some b)) (.string s) true).run Tryd.prog W = .ok (.tuple #[.int .i64 0, .bool false]) W) ∨
    ∃ e0 ∈ es.toList, e0.key = .string s ∧ (Instr.lookup 59 (.map (some b)) (.string s) true).run Tryd.prog W = .ok (.tuple #[e0.val, .bool true]) W := by
  have hl := keyOf_string_mk Tryd.underlying9 hs
  rcases law.find W hl es.toList hk.law with ⟨h1, h2⟩ | ⟨j, e0, h1, h2, h3⟩
  · exact .inl ⟨h2, by simp [Instr.lookup, run_underlying Tryd.underlying59, MapKept.run_getObj_map hm, law.check W _ hl, h1, zero3, Result.andThen]⟩
  · exact .inr ⟨e0, List.mem_of_getElem? h2, h3, by simp [Instr.lookup, run_underlying Tryd.underlying59, MapKept.run_getObj_map hm, law.check W _ hl, h1, Result.andThen]⟩
def nats (s : ByteArray) : List Nat := s.data.toList.map UInt8.toNat
theorem nats_inj {s t : ByteArray} (h : nats s = nats t) : s = t := by
  apply ByteArray.ext
  apply Array.ext'
  exact List.map_inj_right (f := UInt8.toNat) (fun a b e => UInt8.toNat_inj.1 e) |>.1 h
set_option maxHeartbeats 2000000 in
set_option maxRecDepth 100000 in
theorem ends_calls (s : ByteArray) (hs : s.size ≤ 100) (w : World) : Calls Tryd.prog 34 #[.string s] w fun e w' => e = .returned (.int .i64 (endsK (nats s))) ∧ Below w.heap.size w w' := by
  have hsm : s.size ≤ maxLen := by unfold maxLen; omega
  have hmm := @run_makeMap Tryd.prog
  obtain ⟨W1, i1, m1, k1, b1⟩ := more (heap_alloc_new w (Obj.map #[] 0)) (fun x hx => by simp at hx) (Nat.le_refl _) ⟨#[65]⟩ 4 (by decide) (by simp)
  obtain ⟨W2, i2, m2, k2, b2⟩ := more m1 k1 (Nat.le_refl _) ⟨#[66]⟩ 5 (by decide) (by simp [ent])
  obtain ⟨W3, i3, m3, k3, b3⟩ := more m2 k2 (Nat.le_refl _) ⟨#[67]⟩ 6 (by decide) (by simp [ent])
  obtain ⟨W4, i4, m4, k4, b4⟩ := more m3 k3 (Nat.le_refl _) ⟨#[68]⟩ 7 (by decide) (by simp [ent])
  obtain ⟨W5, i5, m5, k5, b5⟩ := more m4 k4 (Nat.le_refl _) ⟨#[72]⟩ 8 (by decide) (by simp [ent])
  obtain ⟨W6, i6, m6, k6, b6⟩ := more m5 k5 (Nat.le_refl _) ⟨#[70]⟩ 9 (by decide) (by simp [ent])
  obtain ⟨W7, i7, m7, k7, b7⟩ := more m6 k6 (Nat.le_refl _) ⟨#[49, 126]⟩ 8 (by decide) (by simp [ent])
  obtain ⟨W8, i8, m8, k8, b8⟩ := more m7 k7 (Nat.le_refl _) ⟨#[51, 126]⟩ 10 (by decide) (by simp [ent])
  obtain ⟨W9, i9, m9, k9, b9⟩ := more m8 k8 (Nat.le_refl _) ⟨#[52, 126]⟩ 9 (by decide) (by simp [ent])
  have HB := Lib.hid ((((((((((below_alloc (Below.refl w.heap.size w) (Obj.map #[] 0)).trans b1).trans b2).trans b3).trans b4).trans b5).trans b6).trans b7).trans b8).trans b9)
  have hl := look m9 k9 s hsm
  clear m1 k1 b1 m2 k2 b2 m3 k3 b3 m4 k4 b4 m5 k5 b5 m6 k6 b6 m7 k7 b7 m8 k8 b8 m9 k9 b9 hsm
  rcases hl with ⟨h1, h2⟩ | ⟨e0, h1, h3, h2⟩
  · have HE : Hid (endsK (nats s) = 12) := Lib.hid (by
      simp [ent] at h1
      unfold endsK
      have f : ∀ (t : ByteArray) (l : List Nat), nats t = l → s ≠ t → nats s ≠ l := fun t l hl h e => h (nats_inj (e.trans hl.symm))
      obtain ⟨a1, a2, a3, a4, a5, a6, a7, a8, a9⟩ := h1
      rw [if_neg (f ⟨#[65]⟩ [65] rfl (Ne.symm a1)), if_neg (f ⟨#[66]⟩ [66] rfl (Ne.symm a2)), if_neg (f ⟨#[67]⟩ [67] rfl (Ne.symm a3)), if_neg (f ⟨#[68]⟩ [68] rfl (Ne.symm a4)), if_neg (f ⟨#[72]⟩ [72] rfl (Ne.symm a5)), if_neg (f ⟨#[70]⟩ [70] rfl (Ne.symm a6)), if_neg (f ⟨#[49, 126]⟩ [49, 126] rfl (Ne.symm a7)), if_neg (f ⟨#[51, 126]⟩ [51, 126] rfl (Ne.symm a8)), if_neg (f ⟨#[52, 126]⟩ [52, 126] rfl (Ne.symm a9))])
    clear h1
    go_enter Tryd.func34, Tryd.ntmps34
    go_wp2
    go_ret
    rw [HE.out]
    exact ⟨rfl, HB.out⟩
  · have HE : Hid (e0.val = .int .i64 (endsK (nats s))) := Lib.hid (by
      simp [ent] at h1
      rcases h1 with rfl | rfl | rfl | rfl | rfl | rfl | rfl | rfl | rfl
      all_goals
        injection h3 with h3
        subst h3
        rfl)
    obtain ⟨v, hv⟩ : ∃ v, v = endsK (nats s) := ⟨_, rfl⟩
    rw [← hv] at HE ⊢
    rw [HE.out] at h2
    clear h1 h3 hv
    go_enter Tryd.func34, Tryd.ntmps34
    go_wp2
    go_ret
    exact ⟨rfl, HB.out⟩
end Go.Proofs.YtmgdikfgejablaaDoor.Ke
