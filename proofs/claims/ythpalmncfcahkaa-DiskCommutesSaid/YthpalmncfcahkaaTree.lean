/- The tree of sectors of package disk: what its nodes hold, and what a change of one sector makes of it. Conditions: none. -/
import Derived.Test.YthpalmncfcahkaaBlk
set_option linter.unusedSimpArgs false
set_option linter.unusedVariables false
namespace Go.Proofs.Ythpalmncfcahkaa
open Go.RowKit

/-- 32 pointers -/
def ptrs (q : Nat → Option Addr) : List Value := (List.range 32).map fun j => .pointer (q j)
theorem ptrs_len (q : Nat → Option Addr) : (ptrs q).length = 32 := by simp [ptrs]
theorem ptrs_at (q : Nat → Option Addr) (j : Nat) (hj : j < 32) : (ptrs q)[j]? = some (.pointer (q j)) := by simp [ptrs, hj]
theorem ptrs_set (q : Nat → Option Addr) (j : Nat) (p : Option Addr) : (ptrs q).set j (.pointer p) = ptrs (fun i => if i = j then p else q i) := by
  apply List.ext_getElem?
  intro i
  rw [List.getElem?_set, ptrs_len]
  by_cases hij : j = i
  · subst hij
    rw [if_pos rfl]
    by_cases hj : j < 32
    · rw [if_pos hj, ptrs_at _ _ hj, if_pos rfl]
    · rw [if_neg hj, List.getElem?_eq_none (by rw [ptrs_len]; omega)]
  · rw [if_neg hij]
    by_cases hi : i < 32
    · rw [ptrs_at _ _ hi, ptrs_at _ _ hi, if_neg (fun h => hij h.symm)]
    · rw [List.getElem?_eq_none (by rw [ptrs_len]; omega), List.getElem?_eq_none (by rw [ptrs_len]; omega)]
theorem ptrs_zero : List.replicate 32 (Value.pointer none) = ptrs (fun _ => none) := by
  rfl
theorem ptrs_one (q : Nat → Option Addr) : ∀ v ∈ ptrs q, v.oneCell' = true := by
  intro v hv
  unfold ptrs at hv
  obtain ⟨j, _, rfl⟩ := List.mem_map.1 hv
  rfl

/-- the sectors' bytes by their number -/
abbrev Secs := Nat → List UInt8
def zero128 : List UInt8 := zeroB 128
theorem zero128_len : zero128.length = 128 := zeroB_len 128
def Sec (w : World) (p : Option Addr) (s : List UInt8) : Prop :=
  (p = none ∧ s = zero128) ∨ ∃ g, p = some ⟨g, 0, none⟩ ∧ BlkB w g 65 s ∧ s.length = 128
def Nod (w : World) (t : TypeId) (R : Option Addr → Secs → Prop) (m : Nat) (p : Option Addr) (f : Secs) : Prop :=
  (p = none ∧ ∀ i, i < 32 * m → f i = zero128) ∨ ∃ g q, p = some ⟨g, 0, none⟩ ∧ Blk w g t (ptrs q) ∧ ∀ j, j < 32 → R (q j) (fun i => f (j * m + i))
def SecF (w : World) (p : Option Addr) (f : Secs) : Prop := Sec w p (f 0)
def Leaf (w : World) : Option Addr → Secs → Prop := Nod w 90 (SecF w) 1
def Brn (w : World) : Option Addr → Secs → Prop := Nod w 88 (Leaf w) 32
def Tree (w : World) : Option Addr → Secs → Prop := Nod w 86 (Brn w) 1024

/-- the types of a disk's blocks; what keeps these blocks keeps every disk -/
def dkT (t : TypeId) : Prop := t = 86 ∨ t = 88 ∨ t = 90 ∨ t = 65 ∨ t = 70
structure Kept (w w' : World) : Prop where
  blk : ∀ g t cs, dkT t → Blk w g t cs → Blk w' g t cs
theorem Kept.refl (w : World) : Kept w w := ⟨fun _ _ _ _ h => h⟩
theorem Kept.trans {w w1 w2 : World} (h : Kept w w1) (k : Kept w1 w2) : Kept w w2 := ⟨fun g t cs ht hb => k.blk g t cs ht (h.blk g t cs ht hb)⟩
theorem Kept.below {w w' : World} (hb : Below w.heap.size w w') : Kept w w' := ⟨fun _ _ _ _ h => h.keep hb⟩
theorem Kept.grown {w w' : World} {g0 : Nat} {t0 : TypeId} {cs0 : List Value} (hr : w.grownBy w' (some g0)) (hb : Blk w g0 t0 cs0) (ht : ¬ dkT t0) : Kept w w' := by
  refine ⟨fun g t cs h hg => hg.grown hr ?_⟩
  intro he
  cases he
  apply ht
  unfold Blk at hb hg
  rw [hb] at hg
  injection hg with hg
  injection hg with _ h2 _
  rw [h2]; exact h
theorem Kept.own {w w' : World} {base : Nat} {e : TypeId} {v : Value} {n : Nat} {xs : List Value} (hown : w.ownsRow base e 1 v n xs) (hr : w.grownBy w' v.ownBlock) (he : ¬ dkT e) : Kept w w' := by
  rcases hown.2 with ⟨rfl, _⟩ | ⟨g, cap, cur, rfl, _, hg, _⟩
  · exact ⟨fun _ _ _ _ h => h.grown hr (by intro h; cases h)⟩
  · exact Kept.grown hr (show Blk w g e cur.toList by unfold Blk; simpa using hg) he
theorem Kept.none {w w' : World} (hr : w.grownBy w' none) : Kept w w' := ⟨fun _ _ _ _ h => h.grown hr (by intro h; cases h)⟩

section
variable {w w' : World}
theorem Sec.len {p : Option Addr} {s : List UInt8} (h : Sec w p s) : s.length = 128 := by
  rcases h with ⟨_, rfl⟩ | ⟨_, _, _, h⟩
  · exact zero128_len
  · exact h
theorem Sec.kept {p : Option Addr} {s : List UInt8} (h : Sec w p s) (hb : Kept w w') : Sec w' p s := by
  rcases h with h | ⟨g, h1, h2, h3⟩
  · exact .inl h
  · exact .inr ⟨g, h1, hb.blk _ _ _ (.inr (.inr (.inr (.inl rfl)))) h2, h3⟩
theorem Nod.kept {t : TypeId} {R R' : Option Addr → Secs → Prop} {m : Nat} {p : Option Addr} {f : Secs} (h : Nod w t R m p f) (ht : dkT t) (hb : Kept w w') (hR : ∀ p f, R p f → R' p f) : Nod w' t R' m p f := by
  rcases h with h | ⟨g, q, h1, h2, h3⟩
  · exact .inl h
  · exact .inr ⟨g, q, h1, hb.blk _ _ _ ht h2, fun j hj => hR _ _ (h3 j hj)⟩
theorem Leaf.kept {p : Option Addr} {f : Secs} (h : Leaf w p f) (hb : Kept w w') : Leaf w' p f := Nod.kept h (.inr (.inr (.inl rfl))) hb fun _ _ h => Sec.kept h hb
theorem Brn.kept {p : Option Addr} {f : Secs} (h : Brn w p f) (hb : Kept w w') : Brn w' p f := Nod.kept h (.inr (.inl rfl)) hb fun _ _ h => h.kept hb
theorem Tree.kept {p : Option Addr} {f : Secs} (h : Tree w p f) (hb : Kept w w') : Tree w' p f := Nod.kept h (.inl rfl) hb fun _ _ h => h.kept hb
theorem Sec.keep {p : Option Addr} {s : List UInt8} (h : Sec w p s) (hb : Below w.heap.size w w') : Sec w' p s := h.kept (.below hb)
theorem Leaf.keep {p : Option Addr} {f : Secs} (h : Leaf w p f) (hb : Below w.heap.size w w') : Leaf w' p f := h.kept (.below hb)
theorem Brn.keep {p : Option Addr} {f : Secs} (h : Brn w p f) (hb : Below w.heap.size w w') : Brn w' p f := h.kept (.below hb)
theorem Tree.keep {p : Option Addr} {f : Secs} (h : Tree w p f) (hb : Below w.heap.size w w') : Tree w' p f := h.kept (.below hb)
theorem SecF.nil {f : Secs} (h : ∀ i, i < 1 → f i = zero128) : SecF w none f := .inl ⟨rfl, h 0 (by omega)⟩
theorem Leaf.nil {f : Secs} (h : ∀ i, i < 32 → f i = zero128) : Leaf w none f := .inl ⟨rfl, fun i hi => h i (by omega)⟩
theorem Brn.nil {f : Secs} (h : ∀ i, i < 1024 → f i = zero128) : Brn w none f := .inl ⟨rfl, fun i hi => h i (by omega)⟩
theorem Tree.nil {f : Secs} (h : ∀ i, i < 32768 → f i = zero128) : Tree w none f := .inl ⟨rfl, fun i hi => h i (by omega)⟩
/-- the node's pointers, also where it is missing -/
theorem Nod.get {t : TypeId} {R : Option Addr → Secs → Prop} {m : Nat} {p : Option Addr} {f : Secs} (h : Nod w t R m p f) (hm : 0 < m) (hnil : ∀ f, (∀ i, i < m → f i = zero128) → R none f) :
    ∃ q, (∀ j, j < 32 → R (q j) (fun i => f (j * m + i))) ∧ ((p = none ∧ q = fun _ => none) ∨ ∃ g, p = some ⟨g, 0, none⟩ ∧ Blk w g t (ptrs q)) := by
  rcases h with ⟨h1, h2⟩ | ⟨g, q, h1, h2, h3⟩
  · refine ⟨fun _ => none, fun j hj => hnil _ fun i hi => h2 _ ?_, .inl ⟨h1, rfl⟩⟩
    have : (j + 1) * m ≤ 32 * m := Nat.mul_le_mul_right _ (by omega)
    rw [Nat.add_mul] at this
    omega
  · exact ⟨q, h3, .inr ⟨g, h1, h2⟩⟩
theorem Tree.get {p : Option Addr} {f : Secs} (h : Tree w p f) : ∃ q, (∀ j, j < 32 → Brn w (q j) (fun i => f (j * 1024 + i))) ∧ ((p = none ∧ q = fun _ => none) ∨ ∃ g, p = some ⟨g, 0, none⟩ ∧ Blk w g 86 (ptrs q)) := Nod.get h (by omega) fun _ => Brn.nil
theorem Brn.get {p : Option Addr} {f : Secs} (h : Brn w p f) : ∃ q, (∀ j, j < 32 → Leaf w (q j) (fun i => f (j * 32 + i))) ∧ ((p = none ∧ q = fun _ => none) ∨ ∃ g, p = some ⟨g, 0, none⟩ ∧ Blk w g 88 (ptrs q)) := Nod.get h (by omega) fun _ => Leaf.nil
theorem Leaf.get {p : Option Addr} {f : Secs} (h : Leaf w p f) : ∃ q, (∀ j, j < 32 → Sec w (q j) (f j)) ∧ ((p = none ∧ q = fun _ => none) ∨ ∃ g, p = some ⟨g, 0, none⟩ ∧ Blk w g 90 (ptrs q)) := by
  obtain ⟨q, h1, h2⟩ := Nod.get h (by omega) fun _ => SecF.nil
  refine ⟨q, fun j hj => ?_, h2⟩
  have := h1 j hj
  unfold SecF at this
  simpa using this
/-- one child anew -/
theorem Nod.put {t : TypeId} {R R' : Option Addr → Secs → Prop} {m : Nat} {f f' : Secs} {q : Nat → Option Addr} {g j : Nat} {p' : Option Addr} (hm : 0 < m) (hj : j < 32)
    (h : ∀ j, j < 32 → R (q j) (fun i => f (j * m + i))) (hR : ∀ p f f', R p f → (∀ i, i < m → f' i = f i) → R' p f') (hg : Blk w' g t (ptrs (fun i => if i = j then p' else q i)))
    (hp : R' p' (fun i => f' (j * m + i))) (hf : ∀ i, i / m ≠ j → f' i = f i) : Nod w' t R' m (some ⟨g, 0, none⟩) f' := by
  refine .inr ⟨g, _, rfl, hg, fun i hi => ?_⟩
  by_cases hij : i = j
  · subst hij
    simp only [if_pos]
    exact hp
  · simp only [if_neg hij]
    refine hR _ _ _ (h i hi) fun k hk => hf _ ?_
    rw [Nat.mul_comm, Nat.mul_add_div hm, Nat.div_eq_of_lt hk]
    omega
theorem SecF.ext {p : Option Addr} {f f' : Secs} (h : SecF w p f) (hf : ∀ i, i < 1 → f' i = f i) : SecF w p f' := by unfold SecF at *; rw [hf 0 (by omega)]; exact h
theorem Nod.ext {t : TypeId} {R : Option Addr → Secs → Prop} {m : Nat} {p : Option Addr} {f f' : Secs} (hm : 0 < m) (hR : ∀ p f f', R p f → (∀ i, i < m → f' i = f i) → R p f') (h : Nod w t R m p f) (hf : ∀ i, i < 32 * m → f' i = f i) : Nod w t R m p f' := by
  rcases h with ⟨h1, h2⟩ | ⟨g, q, h1, h2, h3⟩
  · exact .inl ⟨h1, fun i hi => by rw [hf i hi]; exact h2 i hi⟩
  · refine .inr ⟨g, q, h1, h2, fun j hj => hR _ _ _ (h3 j hj) fun i hi => hf _ ?_⟩
    have : (j + 1) * m ≤ 32 * m := Nat.mul_le_mul_right _ (by omega)
    rw [Nat.add_mul] at this
    omega
theorem Leaf.ext {p : Option Addr} {f f' : Secs} (h : Leaf w p f) (hf : ∀ i, i < 32 → f' i = f i) : Leaf w p f' := Nod.ext (by omega) (fun _ _ _ => SecF.ext) h fun i hi => hf i (by omega)
theorem Brn.ext {p : Option Addr} {f f' : Secs} (h : Brn w p f) (hf : ∀ i, i < 1024 → f' i = f i) : Brn w p f' := Nod.ext (by omega) (fun _ _ _ => Leaf.ext) h fun i hi => hf i (by omega)
theorem Tree.ext {p : Option Addr} {f f' : Secs} (h : Tree w p f) (hf : ∀ i, i < 32768 → f' i = f i) : Tree w p f' := Nod.ext (by omega) (fun _ _ _ => Brn.ext) h fun i hi => hf i (by omega)
/-- two readings of one pointer agree -/
theorem Blk.same {g : Nat} {t t' : TypeId} {cs cs' : List Value} (h : Blk w g t cs) (h' : Blk w g t' cs') : cs = cs' := by
  unfold Blk at h h'
  rw [h] at h'
  injection h' with h'
  injection h' with h1 _ _
  exact congrArg Array.toList h1
theorem byV_inj {l l' : List UInt8} (h : l.map byV = l'.map byV) : l = l' := by
  refine List.map_inj_right (fun a b hab => ?_) |>.1 h
  unfold byV at hab
  injection hab with _ h2
  exact N8_inj h2
theorem Sec.same {p : Option Addr} {s s' : List UInt8} (h : Sec w p s) (h' : Sec w p s') : s = s' := by
  rcases h with ⟨rfl, h⟩ | ⟨g, rfl, h, _⟩
  · rcases h' with ⟨_, h'⟩ | ⟨g, h1, _⟩
    · rw [h, h']
    · cases h1
  · rcases h' with ⟨h1, _⟩ | ⟨g', h1, h', _⟩
    · cases h1
    · cases h1
      exact byV_inj (Blk.same h h')
theorem Nod.same {t : TypeId} {R : Option Addr → Secs → Prop} {m : Nat} {p : Option Addr} {f f' : Secs} (hm : 0 < m) (hR : ∀ p f f', R p f → R p f' → ∀ i, i < m → f i = f' i) (h : Nod w t R m p f) (h' : Nod w t R m p f') : ∀ i, i < 32 * m → f i = f' i := by
  intro i hi
  rcases h with ⟨rfl, h⟩ | ⟨g, q, rfl, h, h3⟩
  · rcases h' with ⟨_, h'⟩ | ⟨g, _, h1, _⟩
    · rw [h i hi, h' i hi]
    · cases h1
  · rcases h' with ⟨h1, _⟩ | ⟨g', q', h1, h', h3'⟩
    · cases h1
    · cases h1
      have hq := Blk.same h h'
      have hj : i / m < 32 := Nat.div_lt_of_lt_mul (by rw [Nat.mul_comm]; exact hi)
      have e : q (i / m) = q' (i / m) := by
        have := congrArg (fun l => l[i / m]?) hq
        simp only [ptrs_at _ _ hj, Option.some.injEq, Value.pointer.injEq] at this
        exact this
      have := hR _ _ _ (h3 _ hj) (by rw [e]; exact h3' _ hj) (i % m) (Nat.mod_lt _ hm)
      rwa [show i / m * m + i % m = i by rw [Nat.mul_comm]; exact Nat.div_add_mod i m] at this
theorem SecF.same {p : Option Addr} {f f' : Secs} (h : SecF w p f) (h' : SecF w p f') : ∀ i, i < 1 → f i = f' i := fun i hi => by
  obtain rfl : i = 0 := by omega
  exact Sec.same h h'
theorem Leaf.same {p : Option Addr} {f f' : Secs} (h : Leaf w p f) (h' : Leaf w p f') : ∀ i, i < 32 → f i = f' i := fun i hi => Nod.same (R := SecF w) (by omega) (fun _ _ _ => SecF.same) h h' i (by omega)
theorem Brn.same {p : Option Addr} {f f' : Secs} (h : Brn w p f) (h' : Brn w p f') : ∀ i, i < 1024 → f i = f' i := fun i hi => Nod.same (R := Leaf w) (by omega) (fun _ _ _ => Leaf.same) h h' i (by omega)
theorem Tree.same {p : Option Addr} {f f' : Secs} (h : Tree w p f) (h' : Tree w p f') : ∀ i, i < 32768 → f i = f' i := fun i hi => Nod.same (R := Brn w) (by omega) (fun _ _ _ => Brn.same) h h' i (by omega)
end
/-- one sector anew -/
def upd (f : Secs) (i : Nat) (s : List UInt8) : Secs := fun k => if k = i then s else f k
/-- what find looks at -/
theorem Tree.look {w : World} {p : Option Addr} {f : Secs} (h : Tree w p f) (i : Nat) (hi : i < 32768) :
    (p = none ∧ f i = zero128) ∨ ∃ g1 p2, p = some ⟨g1, 0, none⟩ ∧ w.cell? ⟨g1, i / 32 / 32, none⟩ = some (.pointer p2) ∧
      ((p2 = none ∧ f i = zero128) ∨ ∃ g2 p3, p2 = some ⟨g2, 0, none⟩ ∧ w.cell? ⟨g2, i / 32 % 32, none⟩ = some (.pointer p3) ∧
        ((p3 = none ∧ f i = zero128) ∨ ∃ g3 p4, p3 = some ⟨g3, 0, none⟩ ∧ w.cell? ⟨g3, i % 32, none⟩ = some (.pointer p4) ∧ Sec w p4 (f i))) := by
  rcases h with ⟨h1, h2⟩ | ⟨g1, q1, h1, b1, h2⟩
  · exact .inl ⟨h1, h2 i (by omega)⟩
  · refine .inr ⟨g1, q1 (i / 32 / 32), h1, by rw [b1.cell, ptrs_at _ _ (by omega)], ?_⟩
    rcases h2 (i / 32 / 32) (by omega) with ⟨h3, h4⟩ | ⟨g2, q2, h3, b2, h4⟩
    · have := h4 (i % 1024) (by omega)
      exact .inl ⟨h3, by dsimp only at this; rwa [show i / 32 / 32 * 1024 + i % 1024 = i by omega] at this⟩
    · refine .inr ⟨g2, q2 (i / 32 % 32), h3, by rw [b2.cell, ptrs_at _ _ (by omega)], ?_⟩
      rcases h4 (i / 32 % 32) (by omega) with ⟨h5, h6⟩ | ⟨g3, q3, h5, b3, h6⟩
      · have := h6 (i % 32) (by omega)
        exact .inl ⟨h5, by dsimp only at this; rwa [show i / 32 / 32 * 1024 + (i / 32 % 32 * 32 + i % 32) = i by omega] at this⟩
      · refine .inr ⟨g3, q3 (i % 32), h5, by rw [b3.cell, ptrs_at _ _ (by omega)], ?_⟩
        have := h6 (i % 32) (by omega)
        unfold SecF at this
        dsimp only at this
        rwa [show i / 32 / 32 * 1024 + (i / 32 % 32 * 32 + (i % 32 * 1 + 0)) = i by omega] at this
theorem Tree.len {w : World} {p : Option Addr} {f : Secs} (h : Tree w p f) (i : Nat) (hi : i < 32768) : (f i).length = 128 := by
  rcases h.look i hi with ⟨_, h⟩ | ⟨_, _, _, _, ⟨_, h⟩ | ⟨_, _, _, _, ⟨_, h⟩ | ⟨_, _, _, _, h⟩⟩⟩
  · rw [h, zero128_len]
  · rw [h, zero128_len]
  · rw [h, zero128_len]
  · exact h.len
theorem Tree.made {w w' : World} {f : Secs} {s : List UInt8} {i : Nat} {q1 q2 q3 : Nat → Option Addr} {g1 g2 g3 : Nat} {ps : Option Addr} (hi : i < 32768)
    (h1 : ∀ j, j < 32 → Brn w (q1 j) (fun k => f (j * 1024 + k))) (h2 : ∀ j, j < 32 → Leaf w (q2 j) (fun k => f (i / 32 / 32 * 1024 + (j * 32 + k))))
    (h3 : ∀ j, j < 32 → Sec w (q3 j) (f (i / 32 / 32 * 1024 + (i / 32 % 32 * 32 + j)))) (hb : Below w.heap.size w w')
    (b3 : Blk w' g3 90 (ptrs (fun k => if k = i % 32 then ps else q3 k))) (b2 : Blk w' g2 88 (ptrs (fun k => if k = i / 32 % 32 then some ⟨g3, 0, none⟩ else q2 k)))
    (b1 : Blk w' g1 86 (ptrs (fun k => if k = i / 32 / 32 then some ⟨g2, 0, none⟩ else q1 k))) (hs : Sec w' ps s) : Tree w' (some ⟨g1, 0, none⟩) (upd f i s) := by
  refine Nod.put (R := Brn w) (by omega) (by omega) h1 (fun p f f' h hf => (h.keep hb).ext hf) b1 ?_ ?_
  · refine Nod.put (R := Leaf w) (f := fun k => f (i / 32 / 32 * 1024 + k)) (j := i / 32 % 32) (by omega) (by omega) h2 (fun p f f' h hf => (h.keep hb).ext hf) b2 ?_ ?_
    · refine Nod.put (R := SecF w) (f := fun k => f (i / 32 / 32 * 1024 + (i / 32 % 32 * 32 + k))) (j := i % 32) (by omega) (by omega) (fun j hj => ?_) (fun p f f' h hf => SecF.ext (Sec.keep h hb) hf) b3 ?_ ?_
      · unfold SecF
        simpa using h3 j hj
      · unfold SecF upd
        try dsimp only
        rw [if_pos (by omega)]
        exact hs
      · intro k hk
        unfold upd
        try dsimp only
        rw [if_neg (by omega)]
    · intro k hk
      unfold upd
      try dsimp only
      rw [if_neg (by omega)]
  · intro k hk
    unfold upd
    rw [if_neg (by omega)]
theorem copy32 (q q' : Nat → Option Addr) : List.take 0 (ptrs q) ++ List.take (min 32 32) (ptrs q') ++ List.drop (0 + min 32 32) (ptrs q) = ptrs q' := by
  rw [Nat.min_self, List.take_zero, List.nil_append, List.take_of_length_le (by rw [ptrs_len]; exact Nat.le_refl _), List.drop_of_length_le (by rw [ptrs_len]; exact Nat.le_refl _), List.append_nil]
end Go.Proofs.Ythpalmncfcahkaa
