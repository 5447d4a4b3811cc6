/- FrameCut: a reader, beside it a row of texts that grows. -/
import Derived.Test.YtacocgomhodboaaRf
import Derived.Test.YtacocgomhodboaaLq
set_option linter.unusedVariables false
set_option linter.unusedSimpArgs false
namespace Go.Proofs.Ytacocgomhodboaa.Ct
open Go.RowKit Go.Proofs.Ytacocgomhodboaa.Rd Go.Proofs.Ytacocgomhodboaa.Pk Go.Proofs.Ytacocgomhodboaa.En Go.Proofs.Ytacocgomhodboaa.Fs Go.Proofs.Ytacocgomhodboaa.Fd Go.Proofs.Ytacocgomhodboaa.Gv2 Go.Proofs.Ytacocgomhodboaa.Fl Go.Proofs.Ytacocgomhodboaa.Ft Go.Proofs.Ytacocgomhodboaa.Hs Go.Proofs.YtacocgomhodboaaW.PrintWords Go.Proofs.YtacocgomhodboaaW.PrintLast
/-- A row's own block is kept. -/
def Kv (v : Value) (W : World) : Nat → Option Obj := fun j => if v.ownBlock = some j then W.heap[j]? else none
theorem Kv_none (W : World) : Kv (.slice none 0 0) W = fun _ => none := by
  funext j; unfold Kv; rw [if_neg (by simp [Value.ownBlock])]
theorem Rd.append {w1 W W1 : World} {g b : Nat} {l : List UInt8} {long : Bool} {bad : Int} {v v1 : Value} {xs ys : List Value} (h : Rd (Kv v W) w1 W g l long bad) (ho : W.ownsRow b 9 1 v xs.length xs) (hown : W1.ownsRow b 9 1 v1 ys.length ys) (hb : w1.heap.size ≤ b) (hg : W.grownBy W1 v.ownBlock) :
    Rd (Kv v1 W1) w1 W1 g l long bad := by
  obtain ⟨p, v2, hR⟩ := h.ex
  have hne := own_ne ho hR.hb (by decide)
  have hb1 := (hg.block g (blk_lt hR.hb) hne).trans hR.hb
  have hr1 := own_other hR.row hg (own_type_ne hR.row ho (by decide))
  refine ⟨pw_below_grown h.bl v.ownBlock h.bl.size hg (fun k hk => Nat.le_trans hb (own_base ho k hk)), p, v2, hR.hp, hb1, hR.hg, hr1, fun j o hj => ?_⟩
  unfold Kv at hj
  by_cases hc : v1.ownBlock = some j
  · rw [if_pos hc] at hj
    obtain ⟨cs, h1⟩ := own_typed hown j hc
    refine ⟨hj, fun e => ?_, fun e => ?_⟩
    · rw [e, hb1] at h1; cases h1
    · obtain ⟨cs2, h2⟩ := own_typed hr1 j e
      rw [h1] at h2; cases h2
  · rw [if_neg hc] at hj; cases hj
structure Ct (w1 wr : World) (g : Nat) (s : FS) (v : Value) : Prop where
  rd : Rd (Kv v wr) w1 wr g s.l s.long s.bad
  row : wr.ownsRow w1.heap.size 9 1 v s.out.length (pw_strs s.out)
theorem Ct.start {w1 wr : World} {g : Nat} {l : List UInt8} {long : Bool} {bad : Int} (h : Rd (fun _ => none) w1 wr g l long bad) : Ct w1 wr g ⟨l, long, bad, []⟩ (.slice none 0 0) :=
  ⟨by rw [Kv_none]; exact h, own_nil _ _ _ _⟩
theorem Ct.below {w1 wr w2 : World} {g : Nat} {s : FS} {v : Value} (h : Ct w1 wr g s v) (hb : Below wr.heap.size wr w2) : Ct w1 w2 g s v := by
  have hk : ∀ j, v.ownBlock = some j → w2.heap[j]? = wr.heap[j]? := fun j hj => hb.block j (own_lt h.row j hj)
  refine ⟨?_, own_keep h.row hk⟩
  refine Fs.Rd.mono (Lq.Rd.below h.rd hb) (fun j o hj => ?_)
  unfold Kv at hj ⊢
  by_cases hc : v.ownBlock = some j
  · rw [if_pos hc] at hj ⊢; rw [← hk j hc]; exact hj
  · rw [if_neg hc] at hj; cases hj
/-- The reader is fed; the row beside it stays. -/
theorem Ct.fed {w1 wr w2 : World} {g q : Nat} {s : FS} {v v' : Value} {y : ByteArray} {l : List UInt8} {long : Bool} {bad : Int} {out : List ByteArray} (h : Ct w1 wr g s v)
    (hR : Rd (Kx (Kv v wr) q v' w2) w1 w2 g l long bad) (hS : Side (Kv v wr) wr w2 q y v' out) : Ct w1 w2 g ⟨l, long, bad, s.out⟩ v := by
  have hlt : ∀ j, v.ownBlock = some j → j < wr.heap.size := own_lt h.row
  have hx : ∀ j, v.ownBlock = some j → Kx (Kv v wr) q v' w2 j = wr.heap[j]? := fun j hj => by
    have h1 := hlt j hj
    have h2 := hS.q0
    unfold Kx
    rw [if_neg, Kv, if_pos hj]
    rintro (e | e)
    · omega
    · have := own_base hS.row j e; omega
  have hk : ∀ j, v.ownBlock = some j → w2.heap[j]? = wr.heap[j]? := fun j hj => by
    obtain ⟨cs, hc⟩ := own_typed h.row j hj
    rw [hc]
    exact (Fs.Rd.fr hR j _ ((hx j hj).trans hc)).1
  refine ⟨Fs.Rd.mono hR (fun j o hj => ?_), own_keep h.row hk⟩
  unfold Kv at hj
  by_cases hc : v.ownBlock = some j
  · rw [if_pos hc] at hj; rw [hx j hc, ← hk j hc]; exact hj
  · rw [if_neg hc] at hj; cases hj
theorem Ct.push {w1 wr w2 : World} {g : Nat} {s : FS} {v v1 : Value} {out : List ByteArray} (h : Ct w1 wr g s v) (hown : w2.ownsRow w1.heap.size 9 1 v1 out.length (pw_strs out)) (hg : wr.grownBy w2 v.ownBlock) : Ct w1 w2 g ⟨s.l, s.long, s.bad, out⟩ v1 :=
  ⟨Rd.append h.rd (xs := pw_strs s.out) (ys := pw_strs out) (by rw [strs_len]; exact h.row) (by rw [strs_len]; exact hown) (Nat.le_refl _) hg, hown⟩
theorem feed_bounds (x : List UInt8) : ∀ s : FS, s.bad ≤ (feedF s x).bad ∧ (feedF s x).bad ≤ s.bad + x.length ∧ (feedF s x).out.length ≤ s.out.length + x.length ∧ (s.l.length ≤ 5000 → (feedF s x).l.length ≤ 5000) := by
  induction x with
  | nil => intro s; exact ⟨Int.le_refl _, by simp [feedF], by simp [feedF], fun h => h⟩
  | cons c x ih =>
    intro s
    obtain ⟨h1, h2, h3, h4⟩ := ih (Fs.step s c)
    have b := step_bad s c
    have o := step_out s c
    rw [feed_cons]
    refine ⟨by omega, by rw [List.length_cons]; omega, by rw [List.length_cons]; omega, fun h => h4 (step_len s c h)⟩
def pkS (l : List ByteArray) : ByteArray := ⟨(all l).toArray⟩
theorem pkS_nil : pkS [] = ⟨#[]⟩ := rfl
theorem pkS_snoc (l : List ByteArray) (y : ByteArray) : pkS (l ++ [y]) = pkS l ++ packS y := by
  apply ByteArray.ext
  apply Array.ext'
  simp [pkS, all]
theorem all_len (l : List ByteArray) (h : ∀ s ∈ l, s.size ≤ 2000) : (all l).length ≤ 4101 * l.length := by
  induction l with
  | nil => simp [all]
  | cons s l ih =>
    have h1 := tailP_len s (h s (List.mem_cons_self ..))
    have h2 := ih (fun t ht => h t (List.mem_cons_of_mem _ ht))
    have h3 := packS_size s
    have h4 := size_list (packS s)
    rw [all_cons, List.length_append, List.length_cons]; omega
theorem pkS_size (l : List ByteArray) : (pkS l).size = (all l).length := by show (all l).toArray.size = _; simp
/-- What the whole stream comes to. -/
def endS (ahead : ByteArray) (l : List ByteArray) : FS := if l = [] then ⟨ahead.data.toList, false, 0, []⟩ else ⟨[], false, if ahead.data.toList = [] then 0 else 1, l⟩
theorem feed_end (ahead : ByteArray) (l : List ByteArray) (h : ∀ s ∈ l, s.size ≤ 2000) (hn : (126 : UInt8) ∉ ahead.data.toList) (hz : ahead.size ≤ 3000) (ht : (feedF ⟨[], false, 0, []⟩ (ahead ++ (⟨#[126]⟩ : ByteArray)).data.toList).out = []) :
    feedF ⟨[], false, 0, []⟩ (ahead ++ pkS l).data.toList = endS ahead l := by
  have hzl : ahead.data.toList.length = ahead.size := Array.length_toList
  have hd : (ahead ++ pkS l).data.toList = ahead.data.toList ++ all l := by simp [pkS]
  have hd2 : (ahead ++ (⟨#[126]⟩ : ByteArray)).data.toList = ahead.data.toList ++ [126] := by simp
  rw [hd]
  rw [hd2] at ht
  rw [feed_app, feed_plain _ [] false 0 [] hn (by simp; omega), List.nil_append]
  unfold endS
  cases l with
  | nil => rw [if_pos rfl]; rfl
  | cons s l =>
    rw [if_neg (by simp), all_cons, pack_list]
    have hs := h s (List.mem_cons_self ..)
    have hl := fun t ht => h t (List.mem_cons_of_mem _ ht)
    show feedF ⟨ahead.data.toList, false, 0, []⟩ (126 :: (tailP s ++ all l)) = _
    rw [feed_cons]
    have hm : Fs.step ⟨ahead.data.toList, false, 0, []⟩ 126 = ⟨[], false, if ahead.data.toList = [] then 0 else 1, []⟩ := by
      by_cases he : ahead.data.toList = []
      · rw [he]; unfold Fs.step; rw [if_pos rfl, if_pos rfl, if_pos rfl]
      · rw [feed_piece _ hn he (by omega)] at ht
        by_cases h2 : (endR ahead.data.toList false).2 = true
        · rw [if_pos h2] at ht; simp at ht
        · unfold Fs.step; rw [if_pos rfl, if_neg he, if_neg h2, if_neg he]; rfl
    rw [hm, feed_app, feed_tail s hs]
    exact feed_packs l _ _ hl
end Go.Proofs.Ytacocgomhodboaa.Ct
