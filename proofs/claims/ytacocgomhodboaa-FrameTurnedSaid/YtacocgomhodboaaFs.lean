/- frame.Reader's Feed: the state of its loop. -/
import Derived.Test.YtacocgomhodboaaEn
set_option linter.unusedVariables false
set_option linter.unusedSimpArgs false
namespace Go.Proofs.Ytacocgomhodboaa.Fs
open Go.RowKit Go.Proofs.Ytacocgomhodboaa.Rd Go.Proofs.Ytacocgomhodboaa.Pk Go.Proofs.Ytacocgomhodboaa.Bw Go.Proofs.Ytacocgomhodboaa.En Go.Proofs.YtacocgomhodboaaW.PrintWords Go.Proofs.YtacocgomhodboaaW.PrintLast
theorem Rd.mono {K K2 : Nat → Option Obj} {w0 W : World} {g : Nat} {l : List UInt8} {long : Bool} {bad : Int} (h : Rd K w0 W g l long bad) (hK : ∀ j o, K2 j = some o → K j = some o) : Rd K2 w0 W g l long bad := by
  obtain ⟨p, v, hR⟩ := h.ex
  exact ⟨h.bl, p, v, hR.hp, hR.hb, hR.hg, hR.row, fun j o hj => hR.fr j o (hK j o hj)⟩
theorem Rd.fr {K : Nat → Option Obj} {w0 W : World} {g : Nat} {l : List UInt8} {long : Bool} {bad : Int} (h : Rd K w0 W g l long bad) : ∀ j o, K j = some o → W.heap[j]? = some o ∧ j ≠ g := by
  obtain ⟨p, v, hR⟩ := h.ex
  exact fun j o hj => ⟨(hR.fr j o hj).1, (hR.fr j o hj).2.1⟩
theorem Rd.hf {K : Nat → Option Obj} {w0 W : World} {g : Nat} {l : List UInt8} {long : Bool} {bad : Int} (h : Rd K w0 W g l long bad) : Hf K w0 W g long bad := by
  obtain ⟨p, v, hR⟩ := h.ex
  exact ⟨h.bl, hR.hg, ⟨p, v, hR.hb⟩, Rd.fr h⟩
theorem Rd.setLong {K : Nat → Option Obj} {w0 W : World} {g : Nat} {l : List UInt8} {long : Bool} {bad : Int} (h : Rd K w0 W g l long bad) (b : Bool) : Rd K w0 (W.setCell ⟨g, 2, none⟩ (.bool b)) g l b bad := by
  obtain ⟨p, v, hR⟩ := h.ex
  exact ⟨h.bl.setCell hR.hg _, p, v, hR.set_ 2 _ rfl hR.hp hR.row (fun j o hj => (hR.fr j o hj).2.2)⟩
theorem Hf.setBad {K : Nat → Option Obj} {w0 W : World} {g : Nat} {long : Bool} {bad : Int} (h : Hf K w0 W g long bad) (n : Int) : Hf K w0 (W.setCell ⟨g, 3, none⟩ (.int .i64 n)) g long n := by
  obtain ⟨p, v, h1⟩ := h.b
  refine ⟨h.bl.setCell h.hg _, h.hg, ⟨p, v, blk_put h1 3 _ rfl⟩, fun j o hj => ?_⟩
  obtain ⟨a, b⟩ := h.fr j o hj
  exact ⟨(Below.heap_setCell W ⟨g, 3, none⟩ _ j b).trans a, b⟩
theorem Hf.reset {K : Nat → Option Obj} {w0 W : World} {g : Nat} {long : Bool} {bad : Int} (h : Hf K w0 W g long bad) : Calls Try.prog 25 #[.pointer (some ⟨g, 0, none⟩)] W fun e w' => e = .returned (.tuple #[]) ∧ Rd K w0 w' g [] long bad := by
  obtain ⟨p, v, h1⟩ := h.b
  exact Reset_calls h.bl h.hg h1 h.fr
theorem Hf.bad {K : Nat → Option Obj} {w0 W : World} {g : Nat} {long : Bool} {bad : Int} (h : Hf K w0 W g long bad) : W.cell? ⟨g, 3, none⟩ = some (.int .i64 bad) ∧ W.frozen? ⟨g, 3, none⟩ = false ∧ W.cell? ⟨g, 2, none⟩ = some (.bool long) ∧ W.frozen? ⟨g, 2, none⟩ = false := by
  obtain ⟨p, v, h1⟩ := h.b
  exact ⟨by rw [blk_cell h1]; rfl, blk_frozen h1 3, by rw [blk_cell h1]; rfl, blk_frozen h1 2⟩
/-- What the loop holds beside the reader: the bytes at q, the row of texts. -/
def Kx (K : Nat → Option Obj) (q : Nat) (v : Value) (W : World) : Nat → Option Obj := fun j => if j = q ∨ v.ownBlock = some j then W.heap[j]? else K j
structure Side (K : Nat → Option Obj) (w W : World) (q : Nat) (y : ByteArray) (v : Value) (out : List ByteArray) : Prop where
  size : w.heap.size ≤ W.heap.size
  q0 : w.heap.size ≤ q
  qb : ∃ cs fz, W.heap[q]? = some (.cells cs 5 fz)
  at_ : ∀ j, j < y.size → W.cell? ⟨q, j, none⟩ = some (.int .u8 (y.data.toList.getD j 0).toNat)
  row : W.ownsRow w.heap.size 9 1 v out.length (pw_strs out)
  k : ∀ j o, K j = some o → j < w.heap.size
theorem own_keep {W W1 : World} {base n size : Nat} {e : TypeId} {v : Value} {xs : List Value} (h : W.ownsRow base e size v n xs) (hk : ∀ j, v.ownBlock = some j → W1.heap[j]? = W.heap[j]?) : W1.ownsRow base e size v n xs := by
  refine ⟨h.1, ?_⟩
  rcases h.2 with q | ⟨g', cap, cur, q0, q1, q2, q3⟩
  · exact .inl q
  · exact .inr ⟨g', cap, cur, q0, q1, (hk g' (by rw [q0]; rfl)).trans q2, q3⟩
theorem Side.kx {K : Nat → Option Obj} {w W W1 : World} {q : Nat} {y : ByteArray} {v : Value} {out : List ByteArray} (h : Side K w W q y v out) (hK : ∀ j o, Kx K q v W j = some o → W1.heap[j]? = some o) : W1.heap[q]? = W.heap[q]? ∧ (∀ j, v.ownBlock = some j → W1.heap[j]? = W.heap[j]?) := by
  refine ⟨?_, fun j hj => ?_⟩
  · obtain ⟨cs, fz, hq⟩ := h.qb
    rw [hq]
    exact hK q _ (by unfold Kx; rw [if_pos (.inl rfl)]; exact hq)
  · obtain ⟨cs, hc⟩ := own_typed h.row j hj
    rw [hc]
    exact hK j _ (by unfold Kx; rw [if_pos (.inr hj)]; exact hc)
/-- The reader went on; what stands beside it stands. -/
theorem Side.go {K : Nat → Option Obj} {w W W1 : World} {q : Nat} {y : ByteArray} {v : Value} {out : List ByteArray} (h : Side K w W q y v out) (hK : ∀ j o, Kx K q v W j = some o → W1.heap[j]? = some o) : Side K w W1 q y v out ∧ Kx K q v W1 = Kx K q v W := by
  obtain ⟨h1, h2⟩ := h.kx hK
  obtain ⟨cs, fz, hq⟩ := h.qb
  refine ⟨⟨Nat.le_trans h.q0 (Nat.le_of_lt (blk_lt (h1.trans hq))), h.q0, ⟨cs, fz, h1.trans hq⟩, fun j hj => ?_, own_keep h.row h2, h.k⟩, ?_⟩
  · rw [World.cell?_of_block (a := ⟨q, j, none⟩) h1]; exact h.at_ j hj
  · funext j
    unfold Kx
    by_cases hj : j = q ∨ v.ownBlock = some j
    · rw [if_pos hj, if_pos hj]
      rcases hj with rfl | hj
      · exact h1
      · exact h2 j hj
    · rw [if_neg hj, if_neg hj]
/-- A text more. -/
theorem Side.push {K : Nat → Option Obj} {w0 w W w1 : World} {g q : Nat} {y : ByteArray} {v v1 : Value} {out : List ByteArray} {long : Bool} {bad : Int} (h : Side K w W q y v out) (hw : w0.heap.size ≤ w.heap.size) (hH : Hf (Kx K q v W) w0 W g long bad) {t : ByteArray}
    (hown : w1.ownsRow w.heap.size 9 1 v1 (pw_strs out ++ [Value.string t]).length (pw_strs out ++ [Value.string t])) (hg : W.grownBy w1 v.ownBlock) (hat : v1.ownBlock = v.ownBlock ∨ ∃ b, v1.ownBlock = some b ∧ W.heap.size ≤ b) :
    Side K w w1 q y v1 (out ++ [t]) ∧ Hf (Kx K q v1 w1) w0 w1 g long bad := by
  obtain ⟨cs, fz, hq⟩ := h.qb
  have hqv : some q ≠ v.ownBlock := fun e => by
    obtain ⟨cs', hc⟩ := own_typed h.row q e.symm
    rw [hq] at hc; cases hc
  have hq1 : w1.heap[q]? = W.heap[q]? := hg.block q (blk_lt hq) hqv
  have hgv : some g ≠ v.ownBlock := fun e => by
    obtain ⟨cs', hc⟩ := own_typed h.row g e.symm
    exact (hH.fr g _ (by unfold Kx; rw [if_pos (.inr e.symm)]; exact hc)).2 rfl
  have hgq : g ≠ q := fun e => (hH.fr q _ (by unfold Kx; rw [if_pos (.inl rfl)]; exact hq)).2 e.symm
  obtain ⟨p, v2, hb⟩ := hH.b
  have hb1 := (hg.block g (blk_lt hb) hgv).trans hb
  refine ⟨⟨Nat.le_trans h.size hg.size, h.q0, ⟨cs, fz, hq1.trans hq⟩, fun j hj => ?_, by simpa [pw_strs] using hown, h.k⟩, ⟨?_, hH.hg, ⟨p, v2, hb1⟩, fun j o hj => ?_⟩⟩
  · rw [World.cell?_of_block (a := ⟨q, j, none⟩) hq1]; exact h.at_ j hj
  · exact pw_below_grown hH.bl v.ownBlock hH.bl.size hg (fun k hk => Nat.le_trans hw (own_base h.row k hk))
  · unfold Kx at hj
    by_cases hc : j = q ∨ v1.ownBlock = some j
    · rw [if_pos hc] at hj
      refine ⟨hj, fun e => ?_⟩
      rcases hc with hc | hc
      · exact hgq (e.symm.trans hc)
      · obtain ⟨cs', hc2⟩ := own_typed hown j hc
        rw [e, hb1] at hc2; cases hc2
    · rw [if_neg hc] at hj
      have hlt := h.k j o hj
      have hv : v.ownBlock ≠ some j := fun e => by have := own_base h.row j e; omega
      have hjq : j ≠ q := fun e => hc (.inl e)
      obtain ⟨a, b⟩ := hH.fr j o (by unfold Kx; rw [if_neg (fun x => x.elim hjq hv)]; exact hj)
      exact ⟨(hg.block j (blk_lt a) (fun e => hv e.symm)).trans a, b⟩
/-- The document's fold over the bytes. -/
structure FS where
  l : List UInt8
  long : Bool
  bad : Int
  out : List ByteArray
def step (s : FS) (c : UInt8) : FS :=
  if c = 126 then
    if s.l = [] then ⟨[], false, s.bad, s.out⟩
    else if (endR s.l s.long).2 = true then ⟨[], false, s.bad, s.out ++ [(endR s.l s.long).1]⟩ else ⟨[], false, s.bad + 1, s.out⟩
  else if s.l.length < 5000 then ⟨s.l ++ [c], s.long, s.bad, s.out⟩ else ⟨s.l, true, s.bad, s.out⟩
def feedF (s : FS) (l : List UInt8) : FS := l.foldl step s
theorem feedF_snoc (s : FS) (l : List UInt8) (c : UInt8) : feedF s (l ++ [c]) = step (feedF s l) c := by simp [feedF]
theorem step_len (s : FS) (c : UInt8) (h : s.l.length ≤ 5000) : (step s c).l.length ≤ 5000 := by
  unfold step
  repeat (first | split | simp | omega)
end Go.Proofs.Ytacocgomhodboaa.Fs
