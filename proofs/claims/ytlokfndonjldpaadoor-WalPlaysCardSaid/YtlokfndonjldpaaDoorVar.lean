/- Disk variables: what they hold, and how they are written. Conditions: none. -/
import Derived.Test.YtlokfndonjldpaaDoorDiskRW
set_option linter.unusedSimpArgs false
set_option linter.unusedVariables false
namespace Go.Proofs.YtlokfndonjldpaaDoor
open Go.RowKit

theorem dv_one (d : DV) : ∀ v ∈ d.cs, v.oneCell' = true := by
  intro v hv
  simp only [DV.cs, List.mem_cons, List.not_mem_nil, or_false] at hv
  rcases hv with rfl | rfl | rfl | rfl | rfl <;> rfl
/-- a disk variable -/
structure Bx (w : World) (H : Nat) (d : DV) (D : Dk) : Prop where
  k : Blk w H 38 d.cs
  d : DkV w d D
theorem Bx.keep {w w' : World} {H : Nat} {d : DV} {D : Dk} (h : Bx w H d D) (hb : Below w.heap.size w w') : Bx w' H d D := ⟨h.k.keep hb, h.d.keep hb⟩
theorem Bx.other {w w' : World} {H H' : Nat} {d : DV} {D : Dk} {t : TypeId} {cs : List Value} (h : Bx w H d D) (hk : Blk w H' t cs) (ht : ¬ dkT t) (hr : w.grownBy w' (some H')) (hne : H ≠ H') : Bx w' H d D :=
  ⟨h.k.grown hr (by simpa using fun e => hne e.symm), h.d.kept (Kept.grown hr hk ht)⟩
theorem Bx.put {w w' : World} {H : Nat} {d d' : DV} {D D' : Dk} (h : Bx w H d D) (hk : Blk w' H 38 d'.cs) (hr : w.grownBy w' (some H)) (hd : DkV w d' D') : Bx w' H d' D' :=
  ⟨hk, hd.kept (Kept.grown hr h.k notDk)⟩
theorem set5 {w : World} {g : Nat} {t : TypeId} {cs : List Value} (h : Blk w g t cs) (hl : cs.length = 5) (a b c d e : Value) :
    Blk (((((w.setCell ⟨g, 0, none⟩ a).setCell ⟨g, 1, none⟩ b).setCell ⟨g, 2, none⟩ c).setCell ⟨g, 3, none⟩ d).setCell ⟨g, 4, none⟩ e) g t [a, b, c, d, e] ∧
    w.grownBy (((((w.setCell ⟨g, 0, none⟩ a).setCell ⟨g, 1, none⟩ b).setCell ⟨g, 2, none⟩ c).setCell ⟨g, 3, none⟩ d).setCell ⟨g, 4, none⟩ e) (some g) := by
  match cs, hl with
  | [x0, x1, x2, x3, x4], _ =>
    have h0 := h.set_ 0 a
    have h1 := h0.set_ 1 b
    have h2 := h1.set_ 2 c
    have h3 := h2.set_ 3 d
    have h4 := h3.set_ 4 e
    exact ⟨h4, ((((h.setg 0 a).trans (h0.setg 1 b)).trans (h1.setg 2 c)).trans (h2.setg 3 d)).trans (h3.setg 4 e)⟩
end Go.Proofs.YtlokfndonjldpaaDoor
