/- The map by link: an entry is put in. -/
import Derived.Test.YtmbaagaeobcmaaaNcK
set_option linter.unusedVariables false
set_option linter.unusedSimpArgs false
namespace Go.Proofs.Ytmbaagaeobcmaaa.NtK
open Go.RowKit Go.MapKept Go.WideMaps Go.ChangeMaps Go.WideElems Go.Proofs.YtmbaagaeobcmaaaW.PrintWords Go.Proofs.YtmbaagaeobcmaaaW.PrintLast
/-- es' is es with v at the key. -/
structure Put (es es' : Array MapEntry) (key v : Value) (ck' : Nat) : Prop where
  st : Stamped es' ck'
  old : ∀ x ∈ es.toList, x.key ≠ key → x ∈ es'.toList
  new : ∃ x ∈ es'.toList, x.key = key ∧ x.val = v
  all : ∀ x ∈ es'.toList, (x ∈ es.toList ∧ x.key ≠ key) ∨ (x.key = key ∧ x.val = v)
theorem put_push {es : Array MapEntry} {ck : Nat} (hs : Stamped es ck) {key v : Value} (hk : ∀ x ∈ es.toList, x.key ≠ key) : Put es (es.push ⟨key, v, ck⟩) key v (ck + 1) := by
  obtain ⟨h1, h2, h3⟩ := hs
  refine ⟨⟨fun x hx => ?_, ?_, ?_⟩, fun x hx _ => by simp; exact .inl (by simpa using hx), ⟨⟨key, v, ck⟩, by simp, rfl, rfl⟩, fun x hx => ?_⟩
  · rw [Array.toList_push] at hx
    rcases List.mem_append.1 hx with hx | hx
    · have := h1 x hx; omega
    · obtain rfl := List.mem_singleton.1 hx; exact Nat.lt_succ_self _
  · rw [Array.toList_push, List.map_append]
    refine List.nodup_append.2 ⟨h2, by simp, fun a ha b hb e => ?_⟩
    simp only [List.map_cons, List.map_nil, List.mem_singleton] at hb
    obtain ⟨x, hx, rfl⟩ := List.mem_map.1 ha
    have := h1 x hx; omega
  · rw [Array.toList_push, List.map_append]
    refine List.nodup_append.2 ⟨h3, by simp, fun a ha b hb e => ?_⟩
    simp only [List.map_cons, List.map_nil, List.mem_singleton] at hb
    obtain ⟨x, hx, rfl⟩ := List.mem_map.1 ha
    exact hk x hx (e.trans hb)
  · rw [Array.toList_push] at hx
    rcases List.mem_append.1 hx with hx | hx
    · exact .inl ⟨hx, hk x hx⟩
    · obtain rfl := List.mem_singleton.1 hx; exact .inr ⟨rfl, rfl⟩
theorem mod_map {β : Type} (es : Array MapEntry) (j : Nat) (v : Value) (g : MapEntry → β) (hg : ∀ e : MapEntry, g { e with val := v } = g e) : (es.modify j (fun e => { e with val := v })).toList.map g = es.toList.map g := by
  apply List.ext_getElem?
  intro i
  simp only [Array.toList_modify, List.getElem?_map, List.getElem?_modify]
  cases es.toList[i]? with
  | none => simp
  | some e => by_cases h : j = i <;> simp [h, hg]
theorem put_mod {es : Array MapEntry} {ck : Nat} (hs : Stamped es ck) {key v : Value} {j : Nat} {e0 : MapEntry} (hj : es.toList[j]? = some e0) (hk : e0.key = key) : Put es (es.modify j (fun e => { e with val := v })) key v ck := by
  obtain ⟨h1, h2, h3⟩ := hs
  have hget : ∀ i : Nat, (es.modify j (fun e => { e with val := v })).toList[i]? = (es.toList[i]?).map (fun e => if j = i then { e with val := v } else e) := fun i => by
    simp only [Array.toList_modify, List.getElem?_modify]
    by_cases h : j = i <;> simp [h]
  have hmem : ∀ x ∈ (es.modify j (fun e => { e with val := v })).toList, ∃ i e, es.toList[i]? = some e ∧ x = (if j = i then { e with val := v } else e) := fun x hx => by
    obtain ⟨i, hi⟩ := List.getElem?_of_mem hx
    rw [hget] at hi
    obtain ⟨e, h4, h5⟩ := Option.map_eq_some_iff.1 hi
    exact ⟨i, e, h4, h5.symm⟩
  refine ⟨⟨fun x hx => ?_, ?_, ?_⟩, fun x hx hne => ?_, ⟨{ e0 with val := v }, ?_, hk, rfl⟩, fun x hx => ?_⟩
  · obtain ⟨i, e, he, rfl⟩ := hmem x hx
    have := h1 e (List.mem_of_getElem? he)
    split <;> exact this
  · rw [mod_map es j v (·.born) (fun _ => rfl)]; exact h2
  · rw [mod_map es j v (·.key) (fun _ => rfl)]; exact h3
  · obtain ⟨i, hi⟩ := List.getElem?_of_mem hx
    refine List.mem_of_getElem? (i := i) ?_
    rw [hget, hi]
    have : ¬ j = i := fun e => by subst e; rw [hj] at hi; obtain rfl := Option.some.inj hi; exact hne hk
    simp [this]
  · refine List.mem_of_getElem? (i := j) ?_
    rw [hget, hj]; simp
  · obtain ⟨i, e, he, rfl⟩ := hmem x hx
    by_cases h : j = i
    · subst h
      rw [hj] at he
      obtain rfl := Option.some.inj he
      rw [if_pos rfl]
      exact .inr ⟨hk, rfl⟩
    · rw [if_neg h]
      refine .inl ⟨List.mem_of_getElem? he, fun hek => h ?_⟩
      have hjl : j < es.toList.length := (List.getElem?_eq_some_iff.1 hj).1
      have hil : i < es.toList.length := (List.getElem?_eq_some_iff.1 he).1
      have a : (es.toList.map (·.key))[j]? = some key := by rw [List.getElem?_map, hj]; simp [hk]
      have b : (es.toList.map (·.key))[i]? = some key := by rw [List.getElem?_map, he]; simp [hek]
      exact (List.getElem?_inj (by simpa using hjl) h3).1 (a.trans b.symm)
/-- An entry opened: what it holds; and what is stored into it. -/
theorem NetB.entry {Kp : Nat → Option Obj} {W : World} {base g bm : Nat} {es : Array MapEntry} {ck : Nat} {s r : Int} {B : Int → Int → List ByteArray} (h : NetB Kp W base g bm es ck s r B) (f t : Int) (hf : Wf f) (ht : Wf t) :
    ∃ (v0 : Value) (st : Nat) (es1 : Array MapEntry) (ck1 : Nat), (Instr.mapEntry 46 (.map (some bm)) (KEY f t)).run Try.prog W = .ok (.tuple #[v0, goInt st]) (setBlock W bm (.map es1 ck1)) ∧
      W.ownsRow base 9 1 v0 (B f t).length (pw_strs (B f t)) ∧ (v0 = .slice none 0 0 ∨ ∃ x ∈ es.toList, x.key = KEY f t ∧ x.val = v0) ∧
      ∀ (w2 : World) (v : Value), w2.heap[bm]? = some (.map es1 ck1) → ∃ es', (Instr.entryStore 46 (.map (some bm)) (goInt st) v).run Try.prog w2 = .ok () (setBlock w2 bm (.map es' ck1)) ∧ Put es es' (KEY f t) v ck1 := by
  obtain ⟨l, hl⟩ := keyOf53 f t hf ht
  obtain ⟨s1, s2, s3⟩ := h.st
  rcases law.find W hl es.toList h.keys with ⟨h1, h2⟩ | ⟨j, e0, h1, h2, h3⟩
  · refine ⟨.slice none 0 0, ck, es.push ⟨KEY f t, .slice none 0 0, ck⟩, ck + 1, ?_, ?_, .inl rfl, fun w2 v hw2 => ⟨es.push ⟨KEY f t, v, ck⟩, ?_, put_push h.st h2⟩⟩
    · simp [Instr.mapEntry, run_underlying Try.underlying46, MapKept.run_getObj_map h.m, law.check W _ hl, h1, zero46, MapKept.run_setObj_map _ h.m, Result.andThen, Go.ChangeMaps.setBlock]
    · rw [h.no f t h2]; exact own_nil _ _ _ _
    · have hidx : (es.push ⟨KEY f t, .slice none 0 0, ck⟩).findIdx? (fun e => ((e.born : Nat) : Int) == ((ck : Nat) : Int)) = some es.size := by
        rw [Array.findIdx?_push]
        have : es.findIdx? (fun e => ((e.born : Nat) : Int) == ((ck : Nat) : Int)) = none := by
          rw [Array.findIdx?_eq_none_iff]
          intro x hx
          have := s1 x (by simpa using hx)
          simp; omega
        rw [this]; simp
      have hmod : (es.push ⟨KEY f t, .slice none 0 0, ck⟩).modify es.size (fun e => { e with val := v }) = es.push ⟨KEY f t, v, ck⟩ := by
        apply Array.ext_getElem?
        intro i
        rw [Array.getElem?_modify, Array.getElem?_push, Array.getElem?_push]
        by_cases hi : i = es.size
        · subst hi; simp
        · rw [if_neg (fun e => hi e.symm), if_neg hi, if_neg hi]
      simp [Instr.entryStore, MapKept.run_getObj_map hw2, asInt, asIntOf, goInt, hidx, hmod, MapKept.run_setObj_map _ hw2, Result.andThen, Go.ChangeMaps.setBlock]
  · have hj : es[j]? = some e0 := by simpa using h2
    have hsame : es.modify j (fun e => { e with key := KEY f t }) = es := by
      apply Array.ext_getElem?
      intro i
      rw [Array.getElem?_modify]
      by_cases hi : j = i
      · subst hi; rw [if_pos rfl, hj]; simp [← h3]
      · rw [if_neg hi]
    have hidx : es.findIdx? (fun e => ((e.born : Nat) : Int) == ((e0.born : Nat) : Int)) = some j := by
      rw [findIdx_arr]; exact findIdx_born s2 h2
    refine ⟨e0.val, e0.born, es, ck, ?_, h.row e0 (List.mem_of_getElem? h2) f t h3, .inr ⟨e0, List.mem_of_getElem? h2, h3, rfl⟩, fun w2 v hw2 => ⟨es.modify j (fun e => { e with val := v }), ?_, put_mod h.st h2 h3⟩⟩
    · have hst := law.stays W hl
      simp [Instr.mapEntry, run_underlying Try.underlying46, MapKept.run_getObj_map h.m, law.check W _ hl, h1, hj, h3, hst, hsame, MapKept.run_setObj_map _ h.m, Result.andThen, Go.ChangeMaps.setBlock]
    · simp [Instr.entryStore, MapKept.run_getObj_map hw2, asInt, asIntOf, goInt, hidx, MapKept.run_setObj_map _ hw2, Result.andThen, Go.ChangeMaps.setBlock]
/-- The row at one link is another. -/
def upd (B : Int → Int → List ByteArray) (f t : Int) (l : List ByteArray) : Int → Int → List ByteArray := fun a b => if a = f ∧ b = t then l else B a b
theorem upd_same (B : Int → Int → List ByteArray) (f t : Int) (l : List ByteArray) : upd B f t l f t = l := by unfold upd; rw [if_pos ⟨rfl, rfl⟩]
theorem upd_other {B : Int → Int → List ByteArray} {f t a b : Int} {l : List ByteArray} (h : ¬(a = f ∧ b = t)) : upd B f t l a b = B a b := by unfold upd; rw [if_neg h]
theorem NetB.update {Kp : Nat → Option Obj} {W : World} {base g bm : Nat} {es : Array MapEntry} {ck : Nat} {s r : Int} {B : Int → Int → List ByteArray} (h : NetB Kp W base g bm es ck s r B) (f t : Int) (hf : Wf f) (ht : Wf t) (W2 : World) (h2 : W2.heap[bm]? = some (.map es ck)) (v : Value) :
    ∃ es' ck', (Instr.mapUpdate 46 (.map (some bm)) (KEY f t) v).run Try.prog W2 = .ok () (setBlock W2 bm (.map es' ck')) ∧ Put es es' (KEY f t) v ck' := by
  obtain ⟨l, hl⟩ := keyOf53 f t hf ht
  rcases law.find W2 hl es.toList h.keys with ⟨h1, h3⟩ | ⟨j, e0, h1, h3, h4⟩
  · refine ⟨es.push ⟨KEY f t, v, ck⟩, ck + 1, ?_, put_push h.st h3⟩
    simp [Instr.mapUpdate, run_underlying Try.underlying46, MapKept.run_getObj_map h2, law.check W2 _ hl, h1, MapKept.run_setObj_map _ h2, Result.andThen, Go.ChangeMaps.setBlock]
  · have hj : es[j]? = some e0 := by simpa using h3
    have hst := law.stays W2 hl
    have hsame : es.modify j (fun e => { e with key := KEY f t, val := v }) = es.modify j (fun e => { e with val := v }) := by
      apply Array.ext_getElem?
      intro i
      rw [Array.getElem?_modify, Array.getElem?_modify]
      by_cases hi : j = i
      · subst hi; rw [if_pos rfl, if_pos rfl, hj]; simp [← h4]
      · rw [if_neg hi, if_neg hi]
    refine ⟨es.modify j (fun e => { e with val := v }), ck, ?_, put_mod h.st h3 h4⟩
    simp [Instr.mapUpdate, run_underlying Try.underlying46, MapKept.run_getObj_map h2, law.check W2 _ hl, h1, hj, h4, hst, hsame, MapKept.run_setObj_map _ h2, Result.andThen, Go.ChangeMaps.setBlock]
theorem setBlock_same {W : World} {b : Nat} {o o' : Obj} (h : W.heap[b]? = some o) : (setBlock W b o').heap[b]? = some o' := by
  unfold Go.ChangeMaps.setBlock
  have hlt := blk_lt h
  simp [hlt]
theorem setBlock_other {W : World} {b k : Nat} {o' : Obj} (h : k ≠ b) : (setBlock W b o').heap[k]? = W.heap[k]? := by
  unfold Go.ChangeMaps.setBlock
  simp [Ne.symm h]
theorem setBlock_size (W : World) (b : Nat) (o' : Obj) : (setBlock W b o').heap.size = W.heap.size := by
  unfold Go.ChangeMaps.setBlock
  simp
/-- The state behind a store into the map. -/
theorem NetB.put {Kp : Nat → Option Obj} {W W' : World} {base g bm : Nat} {es es' : Array MapEntry} {ck ck' : Nat} {s r : Int} {B : Int → Int → List ByteArray} (h : NetB Kp W base g bm es ck s r B) {f t : Int} (hf : Wf f) (ht : Wf t) {v : Value} {l : List ByteArray} (P : Put es es' (KEY f t) v ck')
    (hm : W'.heap[bm]? = some (.map es' ck')) (hg : W'.heap[g]? = W.heap[g]?) (hrow : W'.ownsRow base 9 1 v l.length (pw_strs l)) (hloc : ∀ x ∈ es.toList, x.key ≠ KEY f t → x.val.ownBlock = none ∨ x.val.ownBlock ≠ v.ownBlock)
    (hoth : ∀ x ∈ es.toList, x.key ≠ KEY f t → ∀ k, x.val.ownBlock = some k → W'.heap[k]? = W.heap[k]?) (hlen : (l.length : Int) ≤ r) (hstr : ∀ x ∈ l, x.size ≤ 5000) (hfr : ∀ j o, Kp j = some o → W'.heap[j]? = some o ∧ v.ownBlock ≠ some j) : NetB Kp W' base g bm es' ck' s r (upd B f t l) := by
  refine ⟨hg.trans h.g, hm, h.hbm, P.st, fun x hx => ?_, fun x hx a b e => ?_, fun a b hab => ?_, fun x hx y hy hne => ?_, fun a b => ?_, fun a b x hx => ?_, fun j o hj => ⟨(hfr j o hj).1, (h.fr j o hj).2.1, (h.fr j o hj).2.2.1, fun x hx => ?_⟩⟩
  · rcases P.all x hx with ⟨h1, _⟩ | ⟨h1, _⟩
    · exact h.ks x h1
    · exact ⟨f, t, h1, hf, ht⟩
  · rcases P.all x hx with ⟨h1, h2⟩ | ⟨h1, h2⟩
    · have hne : ¬(a = f ∧ b = t) := by rintro ⟨rfl, rfl⟩; exact h2 e
      rw [upd_other hne]
      have ho := h.row x h1 a b e
      refine ⟨ho.1, ?_⟩
      rcases ho.2 with q | ⟨g', cap, cur, q0, q1, q2, q3⟩
      · exact .inl q
      · exact .inr ⟨g', cap, cur, q0, q1, (hoth x h1 h2 g' (by rw [q0]; rfl)).trans q2, q3⟩
    · obtain ⟨rfl, rfl⟩ := KEY_inj (h1.symm.trans e)
      rw [upd_same, h2]; exact hrow
  · have hne : ¬(a = f ∧ b = t) := by
      rintro ⟨rfl, rfl⟩
      obtain ⟨x, hx, h1, _⟩ := P.new
      exact hab x hx h1
    rw [upd_other hne]
    refine h.no a b (fun x hx e => ?_)
    by_cases hk : x.key = KEY f t
    · exact hne (by obtain ⟨h1, h2⟩ := KEY_inj (e.symm.trans hk); exact ⟨h1, h2⟩)
    · exact hab x (P.old x hx hk) e
  · rcases P.all x hx with ⟨h1, h2⟩ | ⟨h1, h2⟩ <;> rcases P.all y hy with ⟨h3, h4⟩ | ⟨h3, h4⟩
    · exact h.apart x h1 y h3 hne
    · rw [h4]; exact hloc x h1 h2
    · rw [h2]
      rcases hloc y h3 h4 with q | q
      · cases hv : v.ownBlock with
        | none => exact .inl rfl
        | some k => right; rw [q]; simp
      · exact .inr (Ne.symm q)
    · exact absurd (h1.trans h3.symm) hne
  · by_cases hab : a = f ∧ b = t
    · obtain ⟨rfl, rfl⟩ := hab; rw [upd_same]; exact hlen
    · rw [upd_other hab]; exact h.len a b
  · by_cases hab : a = f ∧ b = t
    · obtain ⟨rfl, rfl⟩ := hab; rw [upd_same] at hx; exact hstr x hx
    · rw [upd_other hab] at hx; exact h.str a b x hx
  · rcases P.all x hx with ⟨h1, _⟩ | ⟨_, h1⟩
    · exact (h.fr j o hj).2.2.2 x h1
    · rw [h1]; exact (hfr j o hj).2
end Go.Proofs.Ytmbaagaeobcmaaa.NtK
