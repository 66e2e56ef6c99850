/- A disk variable and a reference variable, side by side. Conditions: none. -/
import Derived.Test.YthpalmncfcahkaaPlayed
import Derived.Test.YthpalmncfcahkaaEqK
import Derived.Test.YthpalmncfcahkaaHead
set_option linter.unusedSimpArgs false
set_option linter.unusedVariables false
namespace Go.Proofs.Ythpalmncfcahkaa
open Go.RowKit

structure Pr (w : World) (N : Nat → Prop) (G H : Nat) (d : DV) (x : Rv) (D : Dk) : Prop where
  k : Blk w G 25 d.cs
  dk : DkV w d D
  bx : Blk w H 48 x.cs
  r : RefV N w x D
section
variable {w w1 w2 : World} {N N' : Nat → Prop} {G H G2 H2 : Nat} {d d' : DV} {x x' : Rv} {D D' : Dk}
theorem Pr.keep (h : Pr w N G H d x D) (hb : Below w.heap.size w w1) : Pr w1 N G H d x D := ⟨h.k.keep hb, h.dk.keep hb, h.bx.keep hb, h.r.keep hb⟩
theorem Pr.lt (h : Pr w N G H d x D) (hN : ∀ b, N b → b < w.heap.size → N' b) : Pr w N' G H d x D := ⟨h.k, h.dk, h.bx, h.r.lt.mono fun b hb => hN b hb.1 hb.2⟩
theorem Pr.put (h : Pr w N G H d x D) (hG : ¬ N G) (hH : ¬ N H) (hne : ¬ G = H) (hd : DkV w d' D') (hx : RefV N w x' D') (k1 : Blk w1 G 25 d'.cs) (r1 : w.grownBy w1 (some G))
    (k2 : Blk w2 H 48 x'.cs) (r2 : w1.grownBy w2 (some H)) : Pr w2 N G H d' x' D' :=
  ⟨k1.grown r2 (by simpa using fun e => hne e.symm), (hd.kept (Kept.grown r1 h.k notDk)).kept (Kept.grown r2 (h.bx.grown r1 (by simpa using hne)) notDkR), k2,
    (hx.grown r1 (fun g hg hq => by cases hg; exact hG hq)).grown r2 (fun g hg hq => by cases hg; exact hH hq)⟩
/-- the others' stores -/
theorem Pr.off (h : Pr w N G H d x D) (hG : ¬ N G2) (hH : ¬ N H2) (n1 : ¬ G2 = G) (n2 : ¬ G2 = H) (n3 : ¬ H2 = G) (n4 : ¬ H2 = H) {c1 c2 : List Value} (k1 : Blk w G2 25 c1) (r1 : w.grownBy w1 (some G2))
    (k2 : Blk w1 H2 48 c2) (r2 : w1.grownBy w2 (some H2)) : Pr w2 N G H d x D :=
  ⟨(h.k.grown r1 (by simpa using n1)).grown r2 (by simpa using n3), (h.dk.kept (Kept.grown r1 k1 notDk)).kept (Kept.grown r2 k2 notDkR), (h.bx.grown r1 (by simpa using n2)).grown r2 (by simpa using n4),
    (h.r.grown r1 (fun g hg hq => by cases hg; exact hG hq)).grown r2 (fun g hg hq => by cases hg; exact hH hq)⟩
end
end Go.Proofs.Ythpalmncfcahkaa
