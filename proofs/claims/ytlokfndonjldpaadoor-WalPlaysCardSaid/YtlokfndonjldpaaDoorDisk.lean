/- The tree of sectors of package disk: what its nodes hold, and what a change of one sector makes of it. Conditions: none. Functions of package disk on the tree of sectors, walked. Conditions: the tree reads. The tree with another sector, walked. Conditions: the tree reads. Disks: what they are, and what of them reads in memory. Conditions: none. -/
import Derived.Test.YtlokfndonjldpaaDoorBlk
import Derived.Test.YtlokfndonjldpaaDoorBy
import Derived.Laws.BitsAllLaws
import Derived.Test.YtlokfndonjldpaaDoorDraw
set_option linter.unusedSimpArgs false
set_option linter.unusedVariables false
namespace Go.Proofs.YtlokfndonjldpaaDoor
open Go.RowKit

/-- 32 pointers -/
def ptrs (q : Nat → Option Addr) : List Value := (List.range 32).map fun j => .pointer (q j)
theorem ptrs_len (q : Nat → Option Addr) : (ptrs q).length = 32 := by simp [ptrs]
theorem ptrs_at (q : Nat → Option Addr) (j : Nat) (hj : j < 32) : (ptrs q)[j]? = some (.pointer (q j)) := by simp [ptrs, hj]
theorem ptrs_set (q : Nat → Option Addr) (j : Nat) (p : Option Addr) : (ptrs q).set j (.pointer p) = ptrs (fun i => if i = j then p else q i) := by
  apply List.ext_getElem?
  intro i
  rw [List.getElem?_set, ptrs_len]
  by_cases hij : j = i
  · subst hij
    rw [if_pos rfl]
    by_cases hj : j < 32
    · rw [if_pos hj, ptrs_at _ _ hj, if_pos rfl]
    · rw [if_neg hj, List.getElem?_eq_none (by rw [ptrs_len]; omega)]
  · rw [if_neg hij]
    by_cases hi : i < 32
    · rw [ptrs_at _ _ hi, ptrs_at _ _ hi, if_neg (fun h => hij h.symm)]
    · rw [List.getElem?_eq_none (by rw [ptrs_len]; omega), List.getElem?_eq_none (by rw [ptrs_len]; omega)]
theorem ptrs_zero : List.replicate 32 (Value.pointer none) = ptrs (fun _ => none) := by
  rfl
theorem ptrs_one (q : Nat → Option Addr) : ∀ v ∈ ptrs q, v.oneCell' = true := by
  intro v hv
  unfold ptrs at hv
  obtain ⟨j, _, rfl⟩ := List.mem_map.1 hv
  rfl

/-- the sectors' bytes by their number -/
abbrev Secs := Nat → List UInt8
def zero128 : List UInt8 := zeroB 128
theorem zero128_len : zero128.length = 128 := zeroB_len 128
def Sec (w : World) (p : Option Addr) (s : List UInt8) : Prop :=
  (p = none ∧ s = zero128) ∨ ∃ g, p = some ⟨g, 0, none⟩ ∧ BlkB w g 84 s ∧ s.length = 128
def Nod (w : World) (t : TypeId) (R : Option Addr → Secs → Prop) (m : Nat) (p : Option Addr) (f : Secs) : Prop :=
  (p = none ∧ ∀ i, i < 32 * m → f i = zero128) ∨ ∃ g q, p = some ⟨g, 0, none⟩ ∧ Blk w g t (ptrs q) ∧ ∀ j, j < 32 → R (q j) (fun i => f (j * m + i))
def SecF (w : World) (p : Option Addr) (f : Secs) : Prop := Sec w p (f 0)
def Leaf (w : World) : Option Addr → Secs → Prop := Nod w 122 (SecF w) 1
def Brn (w : World) : Option Addr → Secs → Prop := Nod w 120 (Leaf w) 32
def Tree (w : World) : Option Addr → Secs → Prop := Nod w 117 (Brn w) 1024

/-- the types of a disk's blocks; what keeps these blocks keeps every disk -/
def dkT (t : TypeId) : Prop := t = 117 ∨ t = 120 ∨ t = 122 ∨ t = 84 ∨ t = 87
structure Kept (w w' : World) : Prop where
  blk : ∀ g t cs, dkT t → Blk w g t cs → Blk w' g t cs
theorem Kept.refl (w : World) : Kept w w := ⟨fun _ _ _ _ h => h⟩
theorem Kept.trans {w w1 w2 : World} (h : Kept w w1) (k : Kept w1 w2) : Kept w w2 := ⟨fun g t cs ht hb => k.blk g t cs ht (h.blk g t cs ht hb)⟩
theorem Kept.below {w w' : World} (hb : Below w.heap.size w w') : Kept w w' := ⟨fun _ _ _ _ h => h.keep hb⟩
theorem Kept.grown {w w' : World} {g0 : Nat} {t0 : TypeId} {cs0 : List Value} (hr : w.grownBy w' (some g0)) (hb : Blk w g0 t0 cs0) (ht : ¬ dkT t0) : Kept w w' := by
  refine ⟨fun g t cs h hg => hg.grown hr ?_⟩
  intro he
  cases he
  apply ht
  unfold Blk at hb hg
  rw [hb] at hg
  injection hg with hg
  injection hg with _ h2 _
  rw [h2]; exact h
theorem Kept.own {w w' : World} {base : Nat} {e : TypeId} {v : Value} {n : Nat} {xs : List Value} (hown : w.ownsRow base e 1 v n xs) (hr : w.grownBy w' v.ownBlock) (he : ¬ dkT e) : Kept w w' := by
  rcases hown.2 with ⟨rfl, _⟩ | ⟨g, cap, cur, rfl, _, hg, _⟩
  · exact ⟨fun _ _ _ _ h => h.grown hr (by intro h; cases h)⟩
  · exact Kept.grown hr (show Blk w g e cur.toList by unfold Blk; simpa using hg) he
theorem Kept.none {w w' : World} (hr : w.grownBy w' none) : Kept w w' := ⟨fun _ _ _ _ h => h.grown hr (by intro h; cases h)⟩

section
variable {w w' : World}
theorem Sec.len {p : Option Addr} {s : List UInt8} (h : Sec w p s) : s.length = 128 := by
  rcases h with ⟨_, rfl⟩ | ⟨_, _, _, h⟩
  · exact zero128_len
  · exact h
theorem Sec.kept {p : Option Addr} {s : List UInt8} (h : Sec w p s) (hb : Kept w w') : Sec w' p s := by
  rcases h with h | ⟨g, h1, h2, h3⟩
  · exact .inl h
  · exact .inr ⟨g, h1, hb.blk _ _ _ (.inr (.inr (.inr (.inl rfl)))) h2, h3⟩
theorem Nod.kept {t : TypeId} {R R' : Option Addr → Secs → Prop} {m : Nat} {p : Option Addr} {f : Secs} (h : Nod w t R m p f) (ht : dkT t) (hb : Kept w w') (hR : ∀ p f, R p f → R' p f) : Nod w' t R' m p f := by
  rcases h with h | ⟨g, q, h1, h2, h3⟩
  · exact .inl h
  · exact .inr ⟨g, q, h1, hb.blk _ _ _ ht h2, fun j hj => hR _ _ (h3 j hj)⟩
theorem Leaf.kept {p : Option Addr} {f : Secs} (h : Leaf w p f) (hb : Kept w w') : Leaf w' p f := Nod.kept h (.inr (.inr (.inl rfl))) hb fun _ _ h => Sec.kept h hb
theorem Brn.kept {p : Option Addr} {f : Secs} (h : Brn w p f) (hb : Kept w w') : Brn w' p f := Nod.kept h (.inr (.inl rfl)) hb fun _ _ h => h.kept hb
theorem Tree.kept {p : Option Addr} {f : Secs} (h : Tree w p f) (hb : Kept w w') : Tree w' p f := Nod.kept h (.inl rfl) hb fun _ _ h => h.kept hb
theorem Sec.keep {p : Option Addr} {s : List UInt8} (h : Sec w p s) (hb : Below w.heap.size w w') : Sec w' p s := h.kept (.below hb)
theorem Leaf.keep {p : Option Addr} {f : Secs} (h : Leaf w p f) (hb : Below w.heap.size w w') : Leaf w' p f := h.kept (.below hb)
theorem Brn.keep {p : Option Addr} {f : Secs} (h : Brn w p f) (hb : Below w.heap.size w w') : Brn w' p f := h.kept (.below hb)
theorem Tree.keep {p : Option Addr} {f : Secs} (h : Tree w p f) (hb : Below w.heap.size w w') : Tree w' p f := h.kept (.below hb)
theorem SecF.nil {f : Secs} (h : ∀ i, i < 1 → f i = zero128) : SecF w none f := .inl ⟨rfl, h 0 (by omega)⟩
theorem Leaf.nil {f : Secs} (h : ∀ i, i < 32 → f i = zero128) : Leaf w none f := .inl ⟨rfl, fun i hi => h i (by omega)⟩
theorem Brn.nil {f : Secs} (h : ∀ i, i < 1024 → f i = zero128) : Brn w none f := .inl ⟨rfl, fun i hi => h i (by omega)⟩
theorem Tree.nil {f : Secs} (h : ∀ i, i < 32768 → f i = zero128) : Tree w none f := .inl ⟨rfl, fun i hi => h i (by omega)⟩
/-- the node's pointers, also where it is missing -/
theorem Nod.get {t : TypeId} {R : Option Addr → Secs → Prop} {m : Nat} {p : Option Addr} {f : Secs} (h : Nod w t R m p f) (hm : 0 < m) (hnil : ∀ f, (∀ i, i < m → f i = zero128) → R none f) :
    ∃ q, (∀ j, j < 32 → R (q j) (fun i => f (j * m + i))) ∧ ((p = none ∧ q = fun _ => none) ∨ ∃ g, p = some ⟨g, 0, none⟩ ∧ Blk w g t (ptrs q)) := by
  rcases h with ⟨h1, h2⟩ | ⟨g, q, h1, h2, h3⟩
  · refine ⟨fun _ => none, fun j hj => hnil _ fun i hi => h2 _ ?_, .inl ⟨h1, rfl⟩⟩
    have : (j + 1) * m ≤ 32 * m := Nat.mul_le_mul_right _ (by omega)
    rw [Nat.add_mul] at this
    omega
  · exact ⟨q, h3, .inr ⟨g, h1, h2⟩⟩
theorem Tree.get {p : Option Addr} {f : Secs} (h : Tree w p f) : ∃ q, (∀ j, j < 32 → Brn w (q j) (fun i => f (j * 1024 + i))) ∧ ((p = none ∧ q = fun _ => none) ∨ ∃ g, p = some ⟨g, 0, none⟩ ∧ Blk w g 117 (ptrs q)) := Nod.get h (by omega) fun _ => Brn.nil
theorem Brn.get {p : Option Addr} {f : Secs} (h : Brn w p f) : ∃ q, (∀ j, j < 32 → Leaf w (q j) (fun i => f (j * 32 + i))) ∧ ((p = none ∧ q = fun _ => none) ∨ ∃ g, p = some ⟨g, 0, none⟩ ∧ Blk w g 120 (ptrs q)) := Nod.get h (by omega) fun _ => Leaf.nil
theorem Leaf.get {p : Option Addr} {f : Secs} (h : Leaf w p f) : ∃ q, (∀ j, j < 32 → Sec w (q j) (f j)) ∧ ((p = none ∧ q = fun _ => none) ∨ ∃ g, p = some ⟨g, 0, none⟩ ∧ Blk w g 122 (ptrs q)) := by
  obtain ⟨q, h1, h2⟩ := Nod.get h (by omega) fun _ => SecF.nil
  refine ⟨q, fun j hj => ?_, h2⟩
  have := h1 j hj
  unfold SecF at this
  simpa using this
/-- one child anew -/
theorem Nod.put {t : TypeId} {R R' : Option Addr → Secs → Prop} {m : Nat} {f f' : Secs} {q : Nat → Option Addr} {g j : Nat} {p' : Option Addr} (hm : 0 < m) (hj : j < 32)
    (h : ∀ j, j < 32 → R (q j) (fun i => f (j * m + i))) (hR : ∀ p f f', R p f → (∀ i, i < m → f' i = f i) → R' p f') (hg : Blk w' g t (ptrs (fun i => if i = j then p' else q i)))
    (hp : R' p' (fun i => f' (j * m + i))) (hf : ∀ i, i / m ≠ j → f' i = f i) : Nod w' t R' m (some ⟨g, 0, none⟩) f' := by
  refine .inr ⟨g, _, rfl, hg, fun i hi => ?_⟩
  by_cases hij : i = j
  · subst hij
    simp only [if_pos]
    exact hp
  · simp only [if_neg hij]
    refine hR _ _ _ (h i hi) fun k hk => hf _ ?_
    rw [Nat.mul_comm, Nat.mul_add_div hm, Nat.div_eq_of_lt hk]
    omega
theorem SecF.ext {p : Option Addr} {f f' : Secs} (h : SecF w p f) (hf : ∀ i, i < 1 → f' i = f i) : SecF w p f' := by unfold SecF at *; rw [hf 0 (by omega)]; exact h
theorem Nod.ext {t : TypeId} {R : Option Addr → Secs → Prop} {m : Nat} {p : Option Addr} {f f' : Secs} (hm : 0 < m) (hR : ∀ p f f', R p f → (∀ i, i < m → f' i = f i) → R p f') (h : Nod w t R m p f) (hf : ∀ i, i < 32 * m → f' i = f i) : Nod w t R m p f' := by
  rcases h with ⟨h1, h2⟩ | ⟨g, q, h1, h2, h3⟩
  · exact .inl ⟨h1, fun i hi => by rw [hf i hi]; exact h2 i hi⟩
  · refine .inr ⟨g, q, h1, h2, fun j hj => hR _ _ _ (h3 j hj) fun i hi => hf _ ?_⟩
    have : (j + 1) * m ≤ 32 * m := Nat.mul_le_mul_right _ (by omega)
    rw [Nat.add_mul] at this
    omega
theorem Leaf.ext {p : Option Addr} {f f' : Secs} (h : Leaf w p f) (hf : ∀ i, i < 32 → f' i = f i) : Leaf w p f' := Nod.ext (by omega) (fun _ _ _ => SecF.ext) h fun i hi => hf i (by omega)
theorem Brn.ext {p : Option Addr} {f f' : Secs} (h : Brn w p f) (hf : ∀ i, i < 1024 → f' i = f i) : Brn w p f' := Nod.ext (by omega) (fun _ _ _ => Leaf.ext) h fun i hi => hf i (by omega)
theorem Tree.ext {p : Option Addr} {f f' : Secs} (h : Tree w p f) (hf : ∀ i, i < 32768 → f' i = f i) : Tree w p f' := Nod.ext (by omega) (fun _ _ _ => Brn.ext) h fun i hi => hf i (by omega)
/-- two readings of one pointer agree -/
theorem Blk.same {g : Nat} {t t' : TypeId} {cs cs' : List Value} (h : Blk w g t cs) (h' : Blk w g t' cs') : cs = cs' := by
  unfold Blk at h h'
  rw [h] at h'
  injection h' with h'
  injection h' with h1 _ _
  exact congrArg Array.toList h1
theorem byV_inj {l l' : List UInt8} (h : l.map byV = l'.map byV) : l = l' := by
  refine List.map_inj_right (fun a b hab => ?_) |>.1 h
  unfold byV at hab
  injection hab with _ h2
  exact N8_inj h2
theorem Sec.same {p : Option Addr} {s s' : List UInt8} (h : Sec w p s) (h' : Sec w p s') : s = s' := by
  rcases h with ⟨rfl, h⟩ | ⟨g, rfl, h, _⟩
  · rcases h' with ⟨_, h'⟩ | ⟨g, h1, _⟩
    · rw [h, h']
    · cases h1
  · rcases h' with ⟨h1, _⟩ | ⟨g', h1, h', _⟩
    · cases h1
    · cases h1
      exact byV_inj (Blk.same h h')
theorem Nod.same {t : TypeId} {R : Option Addr → Secs → Prop} {m : Nat} {p : Option Addr} {f f' : Secs} (hm : 0 < m) (hR : ∀ p f f', R p f → R p f' → ∀ i, i < m → f i = f' i) (h : Nod w t R m p f) (h' : Nod w t R m p f') : ∀ i, i < 32 * m → f i = f' i := by
  intro i hi
  rcases h with ⟨rfl, h⟩ | ⟨g, q, rfl, h, h3⟩
  · rcases h' with ⟨_, h'⟩ | ⟨g, _, h1, _⟩
    · rw [h i hi, h' i hi]
    · cases h1
  · rcases h' with ⟨h1, _⟩ | ⟨g', q', h1, h', h3'⟩
    · cases h1
    · cases h1
      have hq := Blk.same h h'
      have hj : i / m < 32 := Nat.div_lt_of_lt_mul (by rw [Nat.mul_comm]; exact hi)
      have e : q (i / m) = q' (i / m) := by
        have := congrArg (fun l => l[i / m]?) hq
        simp only [ptrs_at _ _ hj, Option.some.injEq, Value.pointer.injEq] at this
        exact this
      have := hR _ _ _ (h3 _ hj) (by rw [e]; exact h3' _ hj) (i % m) (Nat.mod_lt _ hm)
      rwa [show i / m * m + i % m = i by rw [Nat.mul_comm]; exact Nat.div_add_mod i m] at this
theorem SecF.same {p : Option Addr} {f f' : Secs} (h : SecF w p f) (h' : SecF w p f') : ∀ i, i < 1 → f i = f' i := fun i hi => by
  obtain rfl : i = 0 := by omega
  exact Sec.same h h'
theorem Leaf.same {p : Option Addr} {f f' : Secs} (h : Leaf w p f) (h' : Leaf w p f') : ∀ i, i < 32 → f i = f' i := fun i hi => Nod.same (R := SecF w) (by omega) (fun _ _ _ => SecF.same) h h' i (by omega)
theorem Brn.same {p : Option Addr} {f f' : Secs} (h : Brn w p f) (h' : Brn w p f') : ∀ i, i < 1024 → f i = f' i := fun i hi => Nod.same (R := Leaf w) (by omega) (fun _ _ _ => Leaf.same) h h' i (by omega)
theorem Tree.same {p : Option Addr} {f f' : Secs} (h : Tree w p f) (h' : Tree w p f') : ∀ i, i < 32768 → f i = f' i := fun i hi => Nod.same (R := Brn w) (by omega) (fun _ _ _ => Brn.same) h h' i (by omega)
end
/-- one sector anew -/
def upd (f : Secs) (i : Nat) (s : List UInt8) : Secs := fun k => if k = i then s else f k
/-- what find looks at -/
theorem Tree.look {w : World} {p : Option Addr} {f : Secs} (h : Tree w p f) (i : Nat) (hi : i < 32768) :
    (p = none ∧ f i = zero128) ∨ ∃ g1 p2, p = some ⟨g1, 0, none⟩ ∧ w.cell? ⟨g1, i / 32 / 32, none⟩ = some (.pointer p2) ∧
      ((p2 = none ∧ f i = zero128) ∨ ∃ g2 p3, p2 = some ⟨g2, 0, none⟩ ∧ w.cell? ⟨g2, i / 32 % 32, none⟩ = some (.pointer p3) ∧
        ((p3 = none ∧ f i = zero128) ∨ ∃ g3 p4, p3 = some ⟨g3, 0, none⟩ ∧ w.cell? ⟨g3, i % 32, none⟩ = some (.pointer p4) ∧ Sec w p4 (f i))) := by
  rcases h with ⟨h1, h2⟩ | ⟨g1, q1, h1, b1, h2⟩
  · exact .inl ⟨h1, h2 i (by omega)⟩
  · refine .inr ⟨g1, q1 (i / 32 / 32), h1, by rw [b1.cell, ptrs_at _ _ (by omega)], ?_⟩
    rcases h2 (i / 32 / 32) (by omega) with ⟨h3, h4⟩ | ⟨g2, q2, h3, b2, h4⟩
    · have := h4 (i % 1024) (by omega)
      exact .inl ⟨h3, by dsimp only at this; rwa [show i / 32 / 32 * 1024 + i % 1024 = i by omega] at this⟩
    · refine .inr ⟨g2, q2 (i / 32 % 32), h3, by rw [b2.cell, ptrs_at _ _ (by omega)], ?_⟩
      rcases h4 (i / 32 % 32) (by omega) with ⟨h5, h6⟩ | ⟨g3, q3, h5, b3, h6⟩
      · have := h6 (i % 32) (by omega)
        exact .inl ⟨h5, by dsimp only at this; rwa [show i / 32 / 32 * 1024 + (i / 32 % 32 * 32 + i % 32) = i by omega] at this⟩
      · refine .inr ⟨g3, q3 (i % 32), h5, by rw [b3.cell, ptrs_at _ _ (by omega)], ?_⟩
        have := h6 (i % 32) (by omega)
        unfold SecF at this
        dsimp only at this
        rwa [show i / 32 / 32 * 1024 + (i / 32 % 32 * 32 + (i % 32 * 1 + 0)) = i by omega] at this
theorem Tree.len {w : World} {p : Option Addr} {f : Secs} (h : Tree w p f) (i : Nat) (hi : i < 32768) : (f i).length = 128 := by
  rcases h.look i hi with ⟨_, h⟩ | ⟨_, _, _, _, ⟨_, h⟩ | ⟨_, _, _, _, ⟨_, h⟩ | ⟨_, _, _, _, h⟩⟩⟩
  · rw [h, zero128_len]
  · rw [h, zero128_len]
  · rw [h, zero128_len]
  · exact h.len
theorem Tree.made {w w' : World} {f : Secs} {s : List UInt8} {i : Nat} {q1 q2 q3 : Nat → Option Addr} {g1 g2 g3 : Nat} {ps : Option Addr} (hi : i < 32768)
    (h1 : ∀ j, j < 32 → Brn w (q1 j) (fun k => f (j * 1024 + k))) (h2 : ∀ j, j < 32 → Leaf w (q2 j) (fun k => f (i / 32 / 32 * 1024 + (j * 32 + k))))
    (h3 : ∀ j, j < 32 → Sec w (q3 j) (f (i / 32 / 32 * 1024 + (i / 32 % 32 * 32 + j)))) (hb : Below w.heap.size w w')
    (b3 : Blk w' g3 122 (ptrs (fun k => if k = i % 32 then ps else q3 k))) (b2 : Blk w' g2 120 (ptrs (fun k => if k = i / 32 % 32 then some ⟨g3, 0, none⟩ else q2 k)))
    (b1 : Blk w' g1 117 (ptrs (fun k => if k = i / 32 / 32 then some ⟨g2, 0, none⟩ else q1 k))) (hs : Sec w' ps s) : Tree w' (some ⟨g1, 0, none⟩) (upd f i s) := by
  refine Nod.put (R := Brn w) (by omega) (by omega) h1 (fun p f f' h hf => (h.keep hb).ext hf) b1 ?_ ?_
  · refine Nod.put (R := Leaf w) (f := fun k => f (i / 32 / 32 * 1024 + k)) (j := i / 32 % 32) (by omega) (by omega) h2 (fun p f f' h hf => (h.keep hb).ext hf) b2 ?_ ?_
    · refine Nod.put (R := SecF w) (f := fun k => f (i / 32 / 32 * 1024 + (i / 32 % 32 * 32 + k))) (j := i % 32) (by omega) (by omega) (fun j hj => ?_) (fun p f f' h hf => SecF.ext (Sec.keep h hb) hf) b3 ?_ ?_
      · unfold SecF
        simpa using h3 j hj
      · unfold SecF upd
        try dsimp only
        rw [if_pos (by omega)]
        exact hs
      · intro k hk
        unfold upd
        try dsimp only
        rw [if_neg (by omega)]
    · intro k hk
      unfold upd
      try dsimp only
      rw [if_neg (by omega)]
  · intro k hk
    unfold upd
    rw [if_neg (by omega)]
theorem copy32 (q q' : Nat → Option Addr) : List.take 0 (ptrs q) ++ List.take (min 32 32) (ptrs q') ++ List.drop (0 + min 32 32) (ptrs q) = ptrs q' := by
  rw [Nat.min_self, List.take_zero, List.nil_append, List.take_of_length_le (by rw [ptrs_len]; exact Nat.le_refl _), List.drop_of_length_le (by rw [ptrs_len]; exact Nat.le_refl _), List.append_nil]
end Go.Proofs.YtlokfndonjldpaaDoor
set_option linter.unusedSimpArgs false
set_option linter.unusedVariables false
namespace Go.Proofs.YtlokfndonjldpaaDoor
open Go.RowKit

theorem old_cell {w w' : World} {a : Addr} {v : Value} (hb : Below w.heap.size w w') (h : w.cell? a = some v) : w'.cell? a = some v := (hb.cell (World.block_lt_of_cell? w a h)).trans h
theorem arrSec : ArrT Tryd.prog 84 (zero128.map byV) := (by kernel_rfl : (Tryd.prog.info? 84).map (fun i => (i.zero, i.size)) = some (some (.agg (zero128.map byV).toArray), 128))
theorem arrSecN : (Tryd.prog.info? 84).map (·.size) = some 128 := by kernel_rfl
theorem arrLeaf : ArrT Tryd.prog 122 (ptrs fun _ => none) := (by kernel_rfl : (Tryd.prog.info? 122).map (fun i => (i.zero, i.size)) = some (some (.agg (ptrs fun _ => none).toArray), 32))
theorem arrBrn : ArrT Tryd.prog 120 (ptrs fun _ => none) := (by kernel_rfl : (Tryd.prog.info? 120).map (fun i => (i.zero, i.size)) = some (some (.agg (ptrs fun _ => none).toArray), 32))
theorem arrRoot : ArrT Tryd.prog 117 (ptrs fun _ => none) := (by kernel_rfl : (Tryd.prog.info? 117).map (fun i => (i.zero, i.size)) = some (some (.agg (ptrs fun _ => none).toArray), 32))

set_option maxRecDepth 100000 in
theorem find_any (p : Option Addr) (f : Secs) (i : Nat) (w : World) (h : Tree w p f) (hi : i < 32768) :
    Calls Tryd.prog 50 #[.pointer p, .int .i64 i] w fun e w' => e = .returned (.agg ((f i).map byV).toArray) ∧ Below w.heap.size w w' := by
  have hz := fun w => run_zeroV arrSec w
  rcases h.look i hi with ⟨rfl, hf⟩ | ⟨g1, p2, rfl, e1, h2⟩
  · rw [hf]
    clear hf
    go_enter Tryd.func50, Tryd.ntmps50
    go_wp2_with (first | ((with_reducible refine is_alloc 84 ?_); refine wp_allocB _ arrSec ?_; intro w1 hO hB1 hs1; go_frame) | ((with_reducible refine is_store 84 ?_); go_loud (refine wp_storeB _ _ _ _ hO (arrSecN.trans (by simp [zero128_len])) (by simp [zero128_len]) (byV_one _) rfl rfl ?_); intro w2 hO2 r2; go_frame))
    refine bodyPost_ret (results_cell_row (by rfl) _ _ w.heap.size _ _ _ _ rfl hO2 Tryd.underlying84 rfl (arrSecN.trans (by simp [zero128_len]))) rfl ⟨rfl, hB1.grown r2 hB1.size (fun k hk => by cases hk; exact Nat.le_refl _)⟩
  rcases h2 with ⟨rfl, hf⟩ | ⟨g2, p3, rfl, e2, h3⟩
  · rw [hf]
    clear hf
    go_enter Tryd.func50, Tryd.ntmps50
    go_wp2_with (first | ((with_reducible refine is_alloc 84 ?_); refine wp_allocB _ arrSec ?_; intro w1 hO hB1 hs1; go_frame; have k1 := old_cell hB1 e1) | ((with_reducible refine is_store 84 ?_); refine wp_storeB _ _ _ _ hO (arrSecN.trans (by simp [zero128_len])) (by simp [zero128_len]) (byV_one _) rfl rfl ?_; intro w2 hO2 r2; go_frame))
    refine bodyPost_ret (results_cell_row (by rfl) _ _ w.heap.size _ _ _ _ rfl hO2 Tryd.underlying84 rfl (arrSecN.trans (by simp [zero128_len]))) rfl ⟨rfl, hB1.grown r2 hB1.size (fun k hk => by cases hk; exact Nat.le_refl _)⟩
  rcases h3 with ⟨rfl, hf⟩ | ⟨g3, p4, rfl, e3, h4⟩
  · rw [hf]
    clear hf
    go_enter Tryd.func50, Tryd.ntmps50
    go_wp2_with (first | ((with_reducible refine is_alloc 84 ?_); refine wp_allocB _ arrSec ?_; intro w1 hO hB1 hs1; go_frame; have k1 := old_cell hB1 e1; have k2 := old_cell hB1 e2) | ((with_reducible refine is_store 84 ?_); refine wp_storeB _ _ _ _ hO (arrSecN.trans (by simp [zero128_len])) (by simp [zero128_len]) (byV_one _) rfl rfl ?_; intro w2 hO2 r2; go_frame))
    refine bodyPost_ret (results_cell_row (by rfl) _ _ w.heap.size _ _ _ _ rfl hO2 Tryd.underlying84 rfl (arrSecN.trans (by simp [zero128_len]))) rfl ⟨rfl, hB1.grown r2 hB1.size (fun k hk => by cases hk; exact Nat.le_refl _)⟩
  rcases h4 with ⟨rfl, hf⟩ | ⟨g4, rfl, b4, hl⟩
  · rw [hf]
    clear hf
    go_enter Tryd.func50, Tryd.ntmps50
    go_wp2_with (first | ((with_reducible refine is_alloc 84 ?_); refine wp_allocB _ arrSec ?_; intro w1 hO hB1 hs1; go_frame; have k1 := old_cell hB1 e1; have k2 := old_cell hB1 e2; have k3 := old_cell hB1 e3) | ((with_reducible refine is_store 84 ?_); refine wp_storeB _ _ _ _ hO (arrSecN.trans (by simp [zero128_len])) (by simp [zero128_len]) (byV_one _) rfl rfl ?_; intro w2 hO2 r2; go_frame))
    refine bodyPost_ret (results_cell_row (by rfl) _ _ w.heap.size _ _ _ _ rfl hO2 Tryd.underlying84 rfl (arrSecN.trans (by simp [zero128_len]))) rfl ⟨rfl, hB1.grown r2 hB1.size (fun k hk => by cases hk; exact Nat.le_refl _)⟩
  · have HL := hid hl
    clear hl
    go_enter Tryd.func50, Tryd.ntmps50
    go_wp2_with (first
      | ((with_reducible refine is_alloc 84 ?_); refine wp_allocB _ arrSec ?_; intro w1 hO hB1 hs1; go_frame; have k1 := old_cell hB1 e1; have k2 := old_cell hB1 e2; have k3 := old_cell hB1 e3; have k4 := (Blk.keep b4 hB1))
      | ((with_reducible refine is_load 84 ?_); refine wp_loadB _ _ _ _ _ k4 Tryd.underlying84 (arrSecN.trans (by rw [List.length_map, HL.out])) rfl ?_; go_frame)
      | ((with_reducible refine is_store 84 ?_); refine wp_storeB _ _ _ _ hO (arrSecN.trans (by rw [List.length_map, HL.out])) (by rw [List.length_map, List.length_map, HL.out, zero128_len]) (byV_one _) rfl rfl ?_; intro w2 hO2 r2; go_frame))
    refine bodyPost_ret (results_cell_row (by rfl) _ _ w.heap.size _ _ _ _ rfl hO2 Tryd.underlying84 rfl (arrSecN.trans (by simp [HL.out]))) rfl ⟨rfl, hB1.grown r2 hB1.size (fun k hk => by cases hk; exact Nat.le_refl _)⟩
end Go.Proofs.YtlokfndonjldpaaDoor
set_option linter.unusedSimpArgs false
set_option linter.unusedVariables false
namespace Go.Proofs.YtlokfndonjldpaaDoor
open Go.RowKit

/-- the three nodes that with makes -/
structure With (w0 w : World) (c1 c2 c3 : Nat → Option Addr) : Prop where
  r : Blk w w0.heap.size 117 (ptrs c1)
  n : Blk w (w0.heap.size + 1) 120 (ptrs c2)
  l : Blk w (w0.heap.size + 2) 122 (ptrs c3)
  b : Below w0.heap.size w0 w
section
variable {w0 w w' : World} {c1 c2 c3 c : Nat → Option Addr}
theorem With.drew (h : With w0 w c1 c2 c3) : With w0 w.drew c1 c2 c3 := ⟨h.r, h.n, h.l, h.b.drew⟩
theorem With.s1 (h : With w0 w c1 c2 c3) (hr : Blk w' w0.heap.size 117 (ptrs c)) (g : w.grownBy w' (some w0.heap.size)) : With w0 w' c c2 c3 :=
  ⟨hr, h.n.grown g (by simp), h.l.grown g (by simp), h.b.grown g h.b.size (fun k hk => by cases hk; exact Nat.le_refl _)⟩
theorem With.s2 (h : With w0 w c1 c2 c3) (hr : Blk w' (w0.heap.size + 1) 120 (ptrs c)) (g : w.grownBy w' (some (w0.heap.size + 1))) : With w0 w' c1 c c3 :=
  ⟨h.r.grown g (by simp), hr, h.l.grown g (by simp), h.b.grown g h.b.size (fun k hk => by cases hk; omega)⟩
theorem With.s3 (h : With w0 w c1 c2 c3) (hr : Blk w' (w0.heap.size + 2) 122 (ptrs c)) (g : w.grownBy w' (some (w0.heap.size + 2))) : With w0 w' c1 c2 c :=
  ⟨h.r.grown g (by simp), h.n.grown g (by simp), hr, h.b.grown g h.b.size (fun k hk => by cases hk; omega)⟩
theorem With.start {w0 w1 w2 w3 : World} (a1 : Blk w1 w0.heap.size 117 (ptrs fun _ => none)) (B1 : Below w0.heap.size w0 w1) (s1 : w1.heap.size = w0.heap.size + 1) (a2 : Blk w2 (w0.heap.size + 1) 120 (ptrs fun _ => none)) (B2 : Below (w0.heap.size + 1) w1 w2)
    (a3 : Blk w3 (w0.heap.size + 1 + 1) 122 (ptrs fun _ => none)) (B3 : Below (w0.heap.size + 1 + 1) w2 w3) : With w0 w3 (fun _ => none) (fun _ => none) (fun _ => none) :=
  ⟨(a1.below B2 (by omega)).below B3 (by omega), a2.below B3 (by omega), a3, (B1.trans (B2.mono (by omega))).trans (B3.mono (by omega))⟩
end
theorem elP : (Tryd.prog.info? 115).map (·.size) = some 1 ∧ (Tryd.prog.info? 118).map (·.size) = some 1 ∧ (Tryd.prog.info? 85).map (·.size) = some 1 := ⟨by kernel_rfl, by kernel_rfl, by kernel_rfl⟩

set_option maxRecDepth 100000 in
set_option maxHeartbeats 2000000 in
theorem with_any (p : Option Addr) (f : Secs) (i gs : Nat) (s : List UInt8) (w : World) (h : Tree w p f) (hi : i < 32768) (hs : BlkB w gs 84 s) (hl : s.length = 128) :
    Calls Tryd.prog 36 #[.pointer p, .int .i64 i, .pointer (some ⟨gs, 0, none⟩)] w fun e w' => ∃ g, e = .returned (.pointer (some ⟨g, 0, none⟩)) ∧ Tree w' (some ⟨g, 0, none⟩) (upd f i s) ∧ Below w.heap.size w w' := by
  obtain ⟨q1, r1, k1⟩ := h.get
  obtain ⟨q2, r2, k2⟩ := (r1 (i / 32 / 32) (by omega)).get
  obtain ⟨q3, r3, k3⟩ := (r2 (i / 32 % 32) (by omega)).get
  have HM := hid (fun (w' : World) g1 g2 g3 ps hb b3 b2 b1 hs => Tree.made (w' := w') (g1 := g1) (g2 := g2) (g3 := g3) (ps := ps) (s := s) hi r1 r2 r3 hb b3 b2 b1 hs)
  clear r1 r2 r3 h
  rcases k1 with ⟨rfl, rfl⟩ | ⟨g1, rfl, k1⟩
  · obtain ⟨k2, rfl⟩ := k2.resolve_right (by rintro ⟨g, hg, _⟩; cases hg)
    obtain ⟨k3, rfl⟩ := k3.resolve_right (by rintro ⟨g, hg, _⟩; cases hg)
    go_enter Tryd.func36, Tryd.ntmps36
    go_wp2_with (first
      | ((with_reducible refine is_alloc 117 ?_); refine wp_allocB _ arrRoot ?_; intro w1 a1 B1 s1; go_frame)
      | ((with_reducible refine is_alloc 120 ?_); refine wp_allocN (w.heap.size + 1) s1 _ arrBrn ?_; intro w2 a2 B2 s2; go_frame)
      | ((with_reducible refine is_alloc 122 ?_); refine wp_allocN (w.heap.size + 1 + 1) s2 _ arrLeaf ?_; intro w3 a3 B3 s3; go_frame; have S := With.start a1 B1 s1 a2 B2 a3 B3; clear a1 B1 s1 a2 B2 s2 a3 B3 s3; have c1 := S.r.cell (i / 32 / 32); rw [ptrs_at _ _ (by omega)] at c1; have c2 := S.n.cell (i / 32 % 32); rw [ptrs_at _ _ (by omega)] at c2)
      | ((with_reducible refine is_store 85 ?_); (refine wp_store1 (w.heap.size + 1 + 1) (i % 32) _ _ (.pointer (some ⟨gs, 0, none⟩)) S.l rfl elP.2.2 (by rw [ptrs_len]; omega) rfl rfl rfl ?_; intro w4 a4 g4; go_frame; rw [ptrs_set] at a4; have S := S.s3 a4 g4; clear a4 g4))
      | ((with_reducible refine is_store 118 ?_); (refine wp_store1 (w.heap.size + 1) (i / 32 % 32) _ _ (.pointer (some ⟨w.heap.size + 1 + 1, 0, none⟩)) S.n rfl elP.2.1 (by rw [ptrs_len]; omega) rfl rfl rfl ?_; intro w5 a4 g4; go_frame; rw [ptrs_set] at a4; have S := S.s2 a4 g4; clear a4 g4))
      | ((with_reducible refine is_store 115 ?_); (refine wp_store1 w.heap.size (i / 32 / 32) _ _ (.pointer (some ⟨w.heap.size + 1, 0, none⟩)) S.r rfl elP.1 (by rw [ptrs_len]; omega) rfl rfl rfl ?_; intro w6 a4 g4; go_frame; rw [ptrs_set] at a4; have S := S.s1 a4 g4; clear a4 g4)))
    go_ret
    exact ⟨_, rfl, HM.out _ _ _ _ _ S.b S.l S.n S.r (.inr ⟨gs, rfl, hs.keep S.b, hl⟩), S.b⟩
  rcases k2 with ⟨E1, rfl⟩ | ⟨g2, E1, k2⟩
  · have HE1 := hid E1
    clear E1
    obtain ⟨k3, rfl⟩ := k3.resolve_right (by rintro ⟨g, hg, _⟩; cases hg)
    go_enter Tryd.func36, Tryd.ntmps36
    go_wp2_with (first
      | ((with_reducible refine is_alloc 117 ?_); refine wp_allocB _ arrRoot ?_; intro w1 a1 B1 s1; go_frame)
      | ((with_reducible refine is_alloc 120 ?_); refine wp_allocN (w.heap.size + 1) s1 _ arrBrn ?_; intro w2 a2 B2 s2; go_frame)
      | ((with_reducible refine is_alloc 122 ?_); refine wp_allocN (w.heap.size + 1 + 1) s2 _ arrLeaf ?_; intro w3 a3 B3 s3; go_frame; have S := With.start a1 B1 s1 a2 B2 a3 B3; clear a1 B1 s1 a2 B2 s2 a3 B3 s3))
    have T0 := S.drew
    have m0 := k1.keep S.b.drew
    clear S
    go_still_tail 4, (by kernel_rfl)
    refine wp_copyB w.heap.size 0 32 32 115 _ _ T0.r Tryd.underlying123 elP.1 (some ⟨g1, 0, none⟩) 32 32 _ (m0.list (ptrs_len _)) (ptrs_one _) rfl rfl (by rw [ptrs_len]; omega) (fun v0 a4 r4 => ?_)
    go_frame
    rw [copy32] at a4
    have S := T0.s1 a4 r4
    clear a4 r4 T0 m0
    have e1 := HE1.out
    have c1 := S.r.cell (i / 32 / 32)
    rw [ptrs_at _ _ (by omega)] at c1; rw [e1] at c1
    clear e1
    have c2 := S.n.cell (i / 32 % 32)
    rw [ptrs_at _ _ (by omega)] at c2
    go_wp2_with (first
      | ((with_reducible refine is_store 85 ?_); (refine wp_store1 (w.heap.size + 1 + 1) (i % 32) _ _ (.pointer (some ⟨gs, 0, none⟩)) S.l rfl elP.2.2 (by rw [ptrs_len]; omega) rfl rfl rfl ?_; intro w4 a4 g4; go_frame; rw [ptrs_set] at a4; have S := S.s3 a4 g4; clear a4 g4))
      | ((with_reducible refine is_store 118 ?_); (refine wp_store1 (w.heap.size + 1) (i / 32 % 32) _ _ (.pointer (some ⟨w.heap.size + 1 + 1, 0, none⟩)) S.n rfl elP.2.1 (by rw [ptrs_len]; omega) rfl rfl rfl ?_; intro w5 a4 g4; go_frame; rw [ptrs_set] at a4; have S := S.s2 a4 g4; clear a4 g4))
      | ((with_reducible refine is_store 115 ?_); (refine wp_store1 w.heap.size (i / 32 / 32) _ _ (.pointer (some ⟨w.heap.size + 1, 0, none⟩)) S.r rfl elP.1 (by rw [ptrs_len]; omega) rfl rfl rfl ?_; intro w6 a4 g4; go_frame; rw [ptrs_set] at a4; have S := S.s1 a4 g4; clear a4 g4)))
    go_ret
    exact ⟨_, rfl, HM.out _ _ _ _ _ S.b S.l S.n S.r (.inr ⟨gs, rfl, hs.keep S.b, hl⟩), S.b⟩
  have HE1 := hid E1
  clear E1
  rcases k3 with ⟨E2, rfl⟩ | ⟨g3, E2, k3⟩
  · have HE2 := hid E2
    clear E2
    go_enter Tryd.func36, Tryd.ntmps36
    go_wp2_with (first
      | ((with_reducible refine is_alloc 117 ?_); refine wp_allocB _ arrRoot ?_; intro w1 a1 B1 s1; go_frame)
      | ((with_reducible refine is_alloc 120 ?_); refine wp_allocN (w.heap.size + 1) s1 _ arrBrn ?_; intro w2 a2 B2 s2; go_frame)
      | ((with_reducible refine is_alloc 122 ?_); refine wp_allocN (w.heap.size + 1 + 1) s2 _ arrLeaf ?_; intro w3 a3 B3 s3; go_frame; have S := With.start a1 B1 s1 a2 B2 a3 B3; clear a1 B1 s1 a2 B2 s2 a3 B3 s3))
    have T0 := S.drew
    have m0 := k1.keep S.b.drew
    clear S
    go_still_tail 4, (by kernel_rfl)
    refine wp_copyB w.heap.size 0 32 32 115 _ _ T0.r Tryd.underlying123 elP.1 (some ⟨g1, 0, none⟩) 32 32 _ (m0.list (ptrs_len _)) (ptrs_one _) rfl rfl (by rw [ptrs_len]; omega) (fun v0 a4 r4 => ?_)
    go_frame
    rw [copy32] at a4
    have S := T0.s1 a4 r4
    clear a4 r4 T0 m0
    have e1 := HE1.out
    have c1 := S.r.cell (i / 32 / 32)
    rw [ptrs_at _ _ (by omega)] at c1; rw [e1] at c1
    clear e1
    go_wp2_with fail
    have T1 := S.drew
    have m1 := k2.keep S.b.drew
    clear S
    go_still_tail 4, (by kernel_rfl)
    refine wp_copyB (w.heap.size + 1) 0 32 32 118 _ _ T1.n Tryd.underlying124 elP.2.1 (some ⟨g2, 0, none⟩) 32 32 _ (m1.list (ptrs_len _)) (ptrs_one _) rfl rfl (by rw [ptrs_len]; omega) (fun v1 a4 r4 => ?_)
    go_frame
    rw [copy32] at a4
    have S := T1.s2 a4 r4
    clear a4 r4 T1 m1
    have e2 := HE2.out
    have c2 := S.n.cell (i / 32 % 32)
    rw [ptrs_at _ _ (by omega)] at c2; rw [e2] at c2
    clear e2
    go_wp2_with (first
      | ((with_reducible refine is_store 85 ?_); (refine wp_store1 (w.heap.size + 1 + 1) (i % 32) _ _ (.pointer (some ⟨gs, 0, none⟩)) S.l rfl elP.2.2 (by rw [ptrs_len]; omega) rfl rfl rfl ?_; intro w4 a4 g4; go_frame; rw [ptrs_set] at a4; have S := S.s3 a4 g4; clear a4 g4))
      | ((with_reducible refine is_store 118 ?_); (refine wp_store1 (w.heap.size + 1) (i / 32 % 32) _ _ (.pointer (some ⟨w.heap.size + 1 + 1, 0, none⟩)) S.n rfl elP.2.1 (by rw [ptrs_len]; omega) rfl rfl rfl ?_; intro w5 a4 g4; go_frame; rw [ptrs_set] at a4; have S := S.s2 a4 g4; clear a4 g4))
      | ((with_reducible refine is_store 115 ?_); (refine wp_store1 w.heap.size (i / 32 / 32) _ _ (.pointer (some ⟨w.heap.size + 1, 0, none⟩)) S.r rfl elP.1 (by rw [ptrs_len]; omega) rfl rfl rfl ?_; intro w6 a4 g4; go_frame; rw [ptrs_set] at a4; have S := S.s1 a4 g4; clear a4 g4)))
    go_ret
    exact ⟨_, rfl, HM.out _ _ _ _ _ S.b S.l S.n S.r (.inr ⟨gs, rfl, hs.keep S.b, hl⟩), S.b⟩
  · have HE2 := hid E2
    clear E2
    go_enter Tryd.func36, Tryd.ntmps36
    go_wp2_with (first
      | ((with_reducible refine is_alloc 117 ?_); refine wp_allocB _ arrRoot ?_; intro w1 a1 B1 s1; go_frame)
      | ((with_reducible refine is_alloc 120 ?_); refine wp_allocN (w.heap.size + 1) s1 _ arrBrn ?_; intro w2 a2 B2 s2; go_frame)
      | ((with_reducible refine is_alloc 122 ?_); refine wp_allocN (w.heap.size + 1 + 1) s2 _ arrLeaf ?_; intro w3 a3 B3 s3; go_frame; have S := With.start a1 B1 s1 a2 B2 a3 B3; clear a1 B1 s1 a2 B2 s2 a3 B3 s3))
    have T0 := S.drew
    have m0 := k1.keep S.b.drew
    clear S
    go_still_tail 4, (by kernel_rfl)
    refine wp_copyB w.heap.size 0 32 32 115 _ _ T0.r Tryd.underlying123 elP.1 (some ⟨g1, 0, none⟩) 32 32 _ (m0.list (ptrs_len _)) (ptrs_one _) rfl rfl (by rw [ptrs_len]; omega) (fun v0 a4 r4 => ?_)
    go_frame
    rw [copy32] at a4
    have S := T0.s1 a4 r4
    clear a4 r4 T0 m0
    have e1 := HE1.out
    have c1 := S.r.cell (i / 32 / 32)
    rw [ptrs_at _ _ (by omega)] at c1; rw [e1] at c1
    clear e1
    go_wp2_with fail
    have T1 := S.drew
    have m1 := k2.keep S.b.drew
    clear S
    go_still_tail 4, (by kernel_rfl)
    refine wp_copyB (w.heap.size + 1) 0 32 32 118 _ _ T1.n Tryd.underlying124 elP.2.1 (some ⟨g2, 0, none⟩) 32 32 _ (m1.list (ptrs_len _)) (ptrs_one _) rfl rfl (by rw [ptrs_len]; omega) (fun v1 a4 r4 => ?_)
    go_frame
    rw [copy32] at a4
    have S := T1.s2 a4 r4
    clear a4 r4 T1 m1
    have e2 := HE2.out
    have c2 := S.n.cell (i / 32 % 32)
    rw [ptrs_at _ _ (by omega)] at c2; rw [e2] at c2
    clear e2
    go_wp2_with fail
    have T2 := S.drew
    have m2 := k3.keep S.b.drew
    clear S
    go_still_tail 4, (by kernel_rfl)
    refine wp_copyB (w.heap.size + 1 + 1) 0 32 32 85 _ _ T2.l Tryd.underlying125 elP.2.2 (some ⟨g3, 0, none⟩) 32 32 _ (m2.list (ptrs_len _)) (ptrs_one _) rfl rfl (by rw [ptrs_len]; omega) (fun v2 a4 r4 => ?_)
    go_frame
    rw [copy32] at a4
    have S := T2.s3 a4 r4
    clear a4 r4 T2 m2
    have c3 := S.l.cell (i % 32)
    rw [ptrs_at _ _ (by omega)] at c3
    go_wp2_with (first
      | ((with_reducible refine is_store 85 ?_); (refine wp_store1 (w.heap.size + 1 + 1) (i % 32) _ _ (.pointer (some ⟨gs, 0, none⟩)) S.l rfl elP.2.2 (by rw [ptrs_len]; omega) rfl rfl rfl ?_; intro w4 a4 g4; go_frame; rw [ptrs_set] at a4; have S := S.s3 a4 g4; clear a4 g4))
      | ((with_reducible refine is_store 118 ?_); (refine wp_store1 (w.heap.size + 1) (i / 32 % 32) _ _ (.pointer (some ⟨w.heap.size + 1 + 1, 0, none⟩)) S.n rfl elP.2.1 (by rw [ptrs_len]; omega) rfl rfl rfl ?_; intro w5 a4 g4; go_frame; rw [ptrs_set] at a4; have S := S.s2 a4 g4; clear a4 g4))
      | ((with_reducible refine is_store 115 ?_); (refine wp_store1 w.heap.size (i / 32 / 32) _ _ (.pointer (some ⟨w.heap.size + 1, 0, none⟩)) S.r rfl elP.1 (by rw [ptrs_len]; omega) rfl rfl rfl ?_; intro w6 a4 g4; go_frame; rw [ptrs_set] at a4; have S := S.s1 a4 g4; clear a4 g4)))
    go_ret
    exact ⟨_, rfl, HM.out _ _ _ _ _ S.b S.l S.n S.r (.inr ⟨gs, rfl, hs.keep S.b, hl⟩), S.b⟩
end Go.Proofs.YtlokfndonjldpaaDoor
set_option linter.unusedSimpArgs false
set_option linter.unusedVariables false
namespace Go.Proofs.YtlokfndonjldpaaDoor
open Go.RowKit

/-- a disk: its number of sectors, what is persistent, and the unsynced writes, the newest first -/
structure Dk where
  (n : Nat) (S : Secs) (W : List (Nat × List UInt8))
def Dk.cur (D : Dk) : Secs := D.W.foldr (fun x f => upd f x.1 x.2) D.S
def Dk.write (D : Dk) (i : Nat) (b : List UInt8) : Dk := ⟨D.n, D.S, (i, b) :: D.W⟩
def Dk.sync (D : Dk) : Dk := ⟨D.n, D.cur, []⟩
def Dk.new (n : Nat) : Dk := ⟨n, fun _ => zero128, []⟩
theorem Dk.cur_write (D : Dk) (i : Nat) (b : List UInt8) : (D.write i b).cur = upd D.cur i b := rfl
theorem Dk.cur_sync (D : Dk) : D.sync.cur = D.cur := rfl

/-- the list of writes in memory -/
def Wl (w : World) : Option Addr → List (Nat × List UInt8) → Prop
  | p, [] => p = none
  | p, (i, s) :: r => ∃ g q gs, p = some ⟨g, 0, none⟩ ∧ Blk w g 87 [.pointer q, .int .i64 i, .pointer (some ⟨gs, 0, none⟩)] ∧ BlkB w gs 84 s ∧ s.length = 128 ∧ Wl w q r
theorem Wl.kept {w w' : World} (hb : Kept w w') : ∀ {l : List (Nat × List UInt8)} {p : Option Addr}, Wl w p l → Wl w' p l
  | [], _, h => h
  | (i, s) :: r, _, ⟨g, q, gs, h1, h2, h3, h4, h5⟩ => ⟨g, q, gs, h1, hb.blk _ _ _ (.inr (.inr (.inr (.inr rfl)))) h2, hb.blk _ _ _ (.inr (.inr (.inr (.inl rfl)))) h3, h4, Wl.kept hb h5⟩
theorem Wl.same {w : World} : ∀ {l l' : List (Nat × List UInt8)} {p : Option Addr}, Wl w p l → Wl w p l' → l = l'
  | [], [], _, _, _ => rfl
  | [], (_, _) :: _, _, h, ⟨_, _, _, h1, _⟩ => by
    have h' : _ = none := h
    rw [h'] at h1; cases h1
  | (_, _) :: _, [], _, ⟨_, _, _, h1, _⟩, h => by
    have h' : _ = none := h
    rw [h'] at h1; cases h1
  | (i, s) :: r, (i', s') :: r', _, ⟨g, q, gs, h1, h2, h3, h4, h5⟩, ⟨g', q', gs', h1', h2', h3', h4', h5'⟩ => by
    subst h1
    cases h1'
    have e := Blk.same h2 h2'
    simp only [List.cons.injEq, Value.pointer.injEq, Value.int.injEq, Option.some.injEq, Addr.mk.injEq, true_and, and_true] at e
    obtain ⟨rfl, hi, rfl⟩ := e
    obtain rfl : i = i' := by omega
    rw [byV_inj (Blk.same h3 h3'), Wl.same h5 h5']

/-- a disk as a value -/
structure DV where
  (n : Nat) (s c l : Option Addr) (m : Nat)
def DV.cs (d : DV) : List Value := [.int .i64 d.n, .pointer d.s, .pointer d.c, .pointer d.l, .int .i64 d.m]
def DV.v (d : DV) : Value := .agg #[.int .i64 d.n, .pointer d.s, .pointer d.c, .pointer d.l, .int .i64 d.m]
def DV.zero : DV := ⟨0, none, none, none, 0⟩
structure DkV (w : World) (d : DV) (D : Dk) : Prop where
  n : d.n = D.n
  hn : D.n ≤ 16384
  s : Tree w d.s D.S
  c : Tree w d.c D.cur
  l : Wl w d.l D.W
  m : d.m = D.W.length
  b : ∀ x ∈ D.W, x.1 < D.n
theorem DkV.kept {w w' : World} {d : DV} {D : Dk} (h : DkV w d D) (hb : Kept w w') : DkV w' d D := ⟨h.n, h.hn, h.s.kept hb, h.c.kept hb, h.l.kept hb, h.m, h.b⟩
theorem DkV.keep {w w' : World} {d : DV} {D : Dk} (h : DkV w d D) (hb : Below w.heap.size w w') : DkV w' d D := h.kept (.below hb)
theorem notDk : ¬ dkT 38 := by unfold dkT; decide
theorem DkV.new (w : World) (n : Nat) (hn : n ≤ 16384) : DkV w ⟨n, none, none, none, 0⟩ (Dk.new n) :=
  ⟨rfl, hn, Tree.nil (fun _ _ => rfl), Tree.nil (fun _ _ => rfl), rfl, rfl, fun _ h => by cases h⟩
theorem DkV.len {w : World} {d : DV} {D : Dk} (h : DkV w d D) {i : Nat} (hi : i < D.n) : (D.cur i).length = 128 := h.c.len i (by have := h.hn; omega)
theorem arrDisk : ArrT Tryd.prog 38 DV.zero.cs := (by kernel_rfl : (Tryd.prog.info? 38).map (fun i => (i.zero, i.size)) = some (some (.agg DV.zero.cs.toArray), 5))
theorem diskN : (Tryd.prog.info? 38).map (·.size) = some 5 := by kernel_rfl
theorem arrWrite : (Tryd.prog.info? 87).map (·.size) = some 3 := by kernel_rfl

theorem new_ok (n : Nat) (w : World) (h0 : 1 ≤ n) (h1 : n ≤ 16384) :
    Calls Tryd.prog 13 #[.int .i64 n] w fun e w' => e = .returned (.tuple #[(⟨n, none, none, none, 0⟩ : DV).v, .int .i64 0]) ∧ Below w.heap.size w w' := by
  go_enter Tryd.func13, Tryd.ntmps13
  go_wp2_with fail
  refine bodyPost_ret (v := .tuple #[(⟨n, none, none, none, 0⟩ : DV).v, .int .i64 0]) (by simp [results, Tryd.results13, go_sem]; rfl) rfl ⟨rfl, (Below.refl _ _).alloc (Nat.le_refl _) _⟩
theorem new_bad (n : Int) (w : World) (h : n < 1 ∨ 16384 < n) :
    Calls Tryd.prog 13 #[.int .i64 n] w fun e w' => e = .returned (.tuple #[DV.zero.v, .int .i64 3]) ∧ Below w.heap.size w w' := by
  by_cases h1 : n < 1
  · go_enter Tryd.func13, Tryd.ntmps13
    go_wp2_with fail
    refine bodyPost_ret (v := .tuple #[DV.zero.v, .int .i64 3]) (by simp [results, Tryd.results13, go_sem]; rfl) rfl ⟨rfl, (Below.refl _ _).alloc (Nat.le_refl _) _⟩
  · have h2 : n > 16384 := by omega
    clear h
    go_enter Tryd.func13, Tryd.ntmps13
    go_wp2_with fail
    refine bodyPost_ret (v := .tuple #[DV.zero.v, .int .i64 3]) (by simp [results, Tryd.results13, go_sem]; rfl) rfl ⟨rfl, (Below.refl _ _).alloc (Nat.le_refl _) _⟩
theorem sectors_any (d : DV) (w : World) :
    Calls Tryd.prog 52 #[d.v] w fun e w' => e = .returned (.int .i64 d.n) ∧ Below w.heap.size w w' := by
  unfold DV.v
  go_enter Tryd.func52, Tryd.ntmps52
  go_wp2_with fail
  go_ret
  exact ⟨rfl, (Below.refl _ _).alloc (Nat.le_refl _) _⟩
def DV.sync (d : DV) : DV := ⟨d.n, d.c, d.c, none, 0⟩
theorem DkV.sync {w : World} {d : DV} {D : Dk} (h : DkV w d D) : DkV w d.sync D.sync := ⟨h.n, h.hn, h.c, h.c, rfl, rfl, fun _ h => by cases h⟩
theorem sync_any (d : DV) (w : World) :
    Calls Tryd.prog 28 #[d.v] w fun e w' => e = .returned d.sync.v ∧ Below w.heap.size w w' := by
  unfold DV.v
  go_enter Tryd.func28, Tryd.ntmps28
  go_wp2_with fail
  refine bodyPost_ret (v := d.sync.v) (by simp [results, Tryd.results28, go_sem]; rfl) rfl ⟨rfl, ((Below.refl _ _).alloc (Nat.le_refl _) _).alloc (by simp) _⟩
theorem read_bad (d : DV) (i : Int) (w : World) (h : i < 0 ∨ (d.n : Int) ≤ i) :
    Calls Tryd.prog 38 #[d.v, .int .i64 i] w fun e w' => e = .returned (.tuple #[.slice none 0 0, .int .i64 3]) ∧ Below w.heap.size w w' := by
  unfold DV.v
  by_cases h1 : i < 0
  · clear h
    go_enter Tryd.func38, Tryd.ntmps38
    go_wp2_with fail
    go_ret2
    exact ⟨rfl, (Below.refl _ _).alloc (Nat.le_refl _) _⟩
  · have h2 : i ≥ (d.n : Int) := by omega
    clear h
    go_enter Tryd.func38, Tryd.ntmps38
    go_wp2_with fail
    go_ret2
    exact ⟨rfl, (Below.refl _ _).alloc (Nat.le_refl _) _⟩
end Go.Proofs.YtlokfndonjldpaaDoor
