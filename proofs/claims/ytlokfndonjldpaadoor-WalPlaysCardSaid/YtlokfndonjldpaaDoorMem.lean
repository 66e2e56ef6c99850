/- Numbers behind names (so that the walk does not open them), and byte strings in memory. Conditions: none. -/
import Derived.WalkKit
import Derived.ProofKit
import Derived.OpenShut
import Derived.Maps.AppendAt
import Derived.BigQuiet
import Derived.Deep.RegionHeld3
set_option linter.unusedSimpArgs false
set_option linter.unusedVariables false
namespace Go.Proofs.YtlokfndonjldpaaDoor
open Go.RowKit

theorem hid {p : Prop} (h : p) : Hid p := h

def N8 (b : UInt8) : Int := b.toNat
def N32 (b : BitVec 32) : Int := b.toNat
theorem N8_lo (b : UInt8) : 0 ≤ N8 b := by unfold N8; omega
theorem N8_hi (b : UInt8) : N8 b < 256 := by unfold N8; have := b.toNat_lt; omega
theorem N32_lo (b : BitVec 32) : 0 ≤ N32 b := by unfold N32; omega
theorem N32_hi (b : BitVec 32) : N32 b < 4294967296 := by unfold N32; have := b.isLt; omega
theorem N8_inj {a b : UInt8} (h : N8 a = N8 b) : a = b := by
  unfold N8 at h; exact UInt8.toNat_inj.1 (by omega)
theorem N32_inj {a b : BitVec 32} (h : N32 a = N32 b) : a = b := by
  unfold N32 at h; exact BitVec.eq_of_toNat_eq (by omega)
@[go_sem] theorem N8_beq (a b : UInt8) : (N8 a == N8 b) = (a == b) := by
  rw [Bool.eq_iff_iff]; simp only [beq_iff_eq]; exact ⟨N8_inj, fun h => by rw [h]⟩
@[go_sem] theorem N8_bne (a b : UInt8) : (N8 a != N8 b) = (a != b) := by
  unfold bne; rw [N8_beq]
@[go_sem] theorem N32_beq (a b : BitVec 32) : (N32 a == N32 b) = (a == b) := by
  rw [Bool.eq_iff_iff]; simp only [beq_iff_eq]; exact ⟨N32_inj, fun h => by rw [h]⟩

theorem wrap_u32 (n : Int) (h0 : 0 ≤ n) (h1 : n < 4294967296) : IntKind.u32.wrap n = n := by
  have e : IntKind.u32.wrap n = n % 2 ^ 32 := rfl
  rw [e]; omega
theorem wrap_u8 (n : Int) (h0 : 0 ≤ n) (h1 : n < 256) : IntKind.u8.wrap n = n := by
  have e : IntKind.u8.wrap n = n % 2 ^ 8 := rfl
  rw [e]; omega
@[go_sem] theorem add8 (x : UInt8) : IntKind.u8.wrap (N8 x + (1 : Int)) = N8 (x + 1) := by
  have e : IntKind.u8.wrap (N8 x + (1 : Int)) = (N8 x + (1 : Int)) % 2 ^ 8 := rfl
  rw [e]
  unfold N8
  rw [UInt8.toNat_add]
  have : (1 : UInt8).toNat = 1 := rfl
  omega
theorem ofInt32 (x : BitVec 32) : BitVec.ofInt 32 (N32 x) = x := by
  unfold N32; rw [BitVec.ofInt_natCast]; simp
theorem ofInt8 (x : UInt8) : BitVec.ofInt 8 (N8 x) = x.toBitVec := by
  unfold N8; rw [BitVec.ofInt_natCast]; apply BitVec.eq_of_toNat_eq; simp
@[go_sem] theorem xor32 (x y : BitVec 32) : bits .xor .u32 (N32 x) (N32 y) = N32 (x ^^^ y) := by
  show IntKind.u32.wrap ((BitVec.ofInt 32 (N32 x) ^^^ BitVec.ofInt 32 (N32 y)).toNat : Int) = _
  rw [ofInt32, ofInt32]; exact wrap_u32 _ (by omega) (by have := (x ^^^ y).isLt; omega)
@[go_sem] theorem xor8 (x y : UInt8) : bits .xor .u8 (N8 x) (N8 y) = N8 (x ^^^ y) := by
  show IntKind.u8.wrap ((BitVec.ofInt 8 (N8 x) ^^^ BitVec.ofInt 8 (N8 y)).toNat : Int) = _
  rw [ofInt8, ofInt8]; exact wrap_u8 _ (by omega) (by have := (x.toBitVec ^^^ y.toBitVec).isLt; omega)
@[go_sem] theorem not32 (x : BitVec 32) : bits .xor .u32 IntKind.u32.max (N32 x) = N32 (~~~ x) := by
  show IntKind.u32.wrap ((BitVec.ofInt 32 4294967295 ^^^ BitVec.ofInt 32 (N32 x)).toNat : Int) = _
  rw [ofInt32, show BitVec.ofInt 32 4294967295 ^^^ x = ~~~ x from by
    rw [show BitVec.ofInt 32 4294967295 = BitVec.allOnes 32 from by decide, BitVec.xor_comm, BitVec.xor_allOnes]]
  exact wrap_u32 _ (by omega) (by have := (~~~ x).isLt; omega)
@[go_sem] theorem and32_15 (x : BitVec 32) : bits .and .u32 (N32 x) 15 = N32 (x &&& 15#32) := by
  show IntKind.u32.wrap ((BitVec.ofInt 32 (N32 x) &&& BitVec.ofInt 32 15).toNat : Int) = _
  rw [ofInt32]; exact wrap_u32 _ (by omega) (by have := (x &&& BitVec.ofInt 32 15).isLt; omega)
@[go_sem] theorem and32_1 (x : BitVec 32) : bits .and .u32 (N32 x) 1 = N32 (x &&& 1#32) := by
  show IntKind.u32.wrap ((BitVec.ofInt 32 (N32 x) &&& BitVec.ofInt 32 1).toNat : Int) = _
  rw [ofInt32]; exact wrap_u32 _ (by omega) (by have := (x &&& BitVec.ofInt 32 1).isLt; omega)
@[go_sem] theorem div32 (x : BitVec 32) (n : Nat) : N32 x / (2 : Int) ^ n = N32 (x >>> n) := by
  unfold N32
  rw [BitVec.toNat_ushiftRight, Nat.shiftRight_eq_div_pow]
  push_cast; rfl
@[go_sem] theorem div32_16 (x : BitVec 32) : N32 x / (16 : Int) = N32 (x >>> 4) := div32 x 4
@[go_sem] theorem div32_2 (x : BitVec 32) : N32 x / (2 : Int) = N32 (x >>> 1) := div32 x 1
@[go_sem] theorem div32_256 (x : BitVec 32) : N32 x / (256 : Int) = N32 (x >>> 8) := div32 x 8
@[go_sem] theorem div32_65536 (x : BitVec 32) : N32 x / (65536 : Int) = N32 (x >>> 16) := div32 x 16
@[go_sem] theorem div32_16777216 (x : BitVec 32) : N32 x / (16777216 : Int) = N32 (x >>> 24) := div32 x 24
theorem wide_toNat (b : UInt8) : (b.toBitVec.setWidth 32).toNat = b.toNat := by
  simp

attribute [go_sem] N8_lo N8_hi N32_lo N32_hi
@[go_sem] theorem idx15 (x : BitVec 32) : N32 (x &&& 15#32) < (16 : Int) := by
  unfold N32; rw [BitVec.toNat_and]
  have : x.toNat &&& (15#32).toNat ≤ (15#32).toNat := Nat.and_le_right
  have e : (15#32).toNat = 15 := rfl
  omega
/-- WHAT A SLICE READS AS: the slice value '.slice A n c' holds the cells xs, 'size' cells an element. -/
def RL (w : World) (size : Nat) (A : Option Addr) (n : Nat) (xs : List Value) : Prop :=
  xs.length = n * size ∧ (0 < n → ∃ b off, A = some ⟨b, off, none⟩ ∧ b < w.heap.size ∧ ∀ j u, xs[j]? = some u → w.cell? ⟨b, off + j, none⟩ = some u)

theorem add_spot (b off i : Nat) : (⟨b, off, none⟩ : Addr).add i = ⟨b, off + i, none⟩ := by
  unfold Addr.add
  split <;> simp_all

section
variable {w w' : World} {size n : Nat} {A : Option Addr} {xs : List Value}
theorem RL.nil (w : World) (size : Nat) (A : Option Addr) : RL w size A 0 [] := ⟨by simp, fun h => absurd h (by omega)⟩
theorem RL.keep (h : RL w size A n xs) (hs : w.heap.size ≤ w'.heap.size) (hk : ∀ p : Addr, p.block < w.heap.size → w'.cell? p = w.cell? p) : RL w' size A n xs :=
  ⟨h.1, fun hn => by
    obtain ⟨b, off, e, hb, hc⟩ := h.2 hn
    exact ⟨b, off, e, by omega, fun k x hx => (hk ⟨b, off + k, none⟩ hb).trans (hc k x hx)⟩⟩
theorem RL.below (h : RL w size A n xs) (hb : Below w.heap.size w w') : RL w' size A n xs := h.keep hb.size fun _ hp => hb.cell hp
theorem RL.drew (h : RL w size A n xs) : RL w.drew size A n xs := h
theorem RL.alloc (h : RL w size A n xs) (o : Obj) : RL (w.alloc o) size A n xs := h.below ((Below.refl _ _).alloc (Nat.le_refl _) _)
theorem RL.grown (h : RL w size A n xs) {row : Option Nat} (hg : w.grownBy w' row) (hr : ∀ g, row = some g → 0 < n → ∀ b off, A = some ⟨b, off, none⟩ → b ≠ g) : RL w' size A n xs :=
  ⟨h.1, fun hn => by
    obtain ⟨b, off, e, hb, hc⟩ := h.2 hn
    refine ⟨b, off, e, Nat.lt_of_lt_of_le hb hg.size, fun k x hx => ?_⟩
    refine (World.cell?_of_block (hg.block b hb ?_)).trans (hc k x hx)
    intro e'
    exact hr b e'.symm hn b off e rfl⟩
theorem RL.cut (h : RL w size A n xs) {k cap : Nat} (hk : k ≤ n) (hc : n ≤ cap) :
    RL w size (if cap = k then A else A.map (·.add (k * size))) (n - k) (xs.drop (k * size)) := by
  refine ⟨by rw [List.length_drop, h.1, Nat.sub_mul], fun hn => ?_⟩
  obtain ⟨b, off, rfl, hb, hcell⟩ := h.2 (by omega)
  rw [if_neg (by omega)]
  refine ⟨b, off + k * size, by simp [add_spot], hb, fun j u hu => ?_⟩
  have := hcell (k * size + j) u (by rw [← hu, List.getElem?_drop])
  rwa [← Nat.add_assoc] at this
theorem RL.pre (h : RL w size A n xs) {k : Nat} (hk : k ≤ n) : RL w size A k (xs.take (k * size)) := by
  refine ⟨by rw [List.length_take, h.1]; exact Nat.min_eq_left (Nat.mul_le_mul_right _ hk), fun hn => ?_⟩
  obtain ⟨b, off, e, hb, hcell⟩ := h.2 (by omega)
  refine ⟨b, off, e, hb, fun j u hu => hcell j u ?_⟩
  rw [List.getElem?_take] at hu
  split at hu
  · exact hu
  · cases hu
theorem RL.new (w : World) (cs : Array Value) (t : TypeId) (fr : Nat × Nat) (size n : Nat) (h : cs.size = n * size) : RL (w.alloc (.cells cs t fr)) size (some ⟨w.heap.size, 0, none⟩) n cs.toList := by
  refine ⟨by simpa using h, fun _ => ⟨w.heap.size, 0, rfl, by simp, fun j u hu => ?_⟩⟩
  have hh : (w.alloc (.cells cs t fr)).heap[w.heap.size]? = some (.cells cs t fr) := by
    show (w.heap.push (.cells cs t fr))[w.heap.size]? = _
    simp
  rw [cell_of_row _ _ _ cs t fr hh]
  simpa using hu
theorem RL.of_own {base : Nat} {e : TypeId} {c : Nat} (h : w.ownsRow base e size (.slice A n c) n xs) : RL w size A n xs := by
  refine ⟨h.1, fun hn => ?_⟩
  rcases h.2 with ⟨h', h0⟩ | ⟨g, cap, cur, h', _, hg, _⟩
  · omega
  · have hA : A = some ⟨g, 0, none⟩ := by injection h'
    subst hA
    have hlt := (Array.getElem?_eq_some_iff.1 hg).1
    refine ⟨g, 0, rfl, hlt, fun j u hu => ?_⟩
    have := h.cells (g := g) (by simp [Value.ownBlock]) j u hu
    rwa [add_spot] at this
end

/-- THE WORLDS THAT GROW OUT OF w: for regions that draw their order, whose calls make memory and hand back plain values. -/
structure Ext (W : World) where
  w : World
  h : Below W.heap.size W w
instance (W : World) : Nonempty (Ext W) := ⟨⟨W, Below.refl _ _⟩⟩
theorem Ext.cell {w : World} {p : Addr} {v : Value} (h : w.cell? p = some v) (x : Ext w) : x.w.cell? p = some v :=
  (x.h.cell (World.block_lt_of_cell? w p h)).trans h
theorem Ext.calls {P : Program} {f : FuncId} {args : Array Value} {w : World} {v : Value} (x : Ext w)
    (h : Calls P f args x.w fun e w' => e = .returned v ∧ Below x.w.heap.size x.w w') : Calls P f args x.w fun e w' => e = .returned v ∧ ∃ y : Ext w, w' = y.w :=
  h.mono fun _ _ ⟨he, hb⟩ => ⟨he, ⟨_, x.h.trans (hb.mono x.h.size)⟩, rfl⟩
theorem Ext.calls_same {P : Program} {f : FuncId} {args : Array Value} {w : World} {v : Value} (x : Ext w)
    (h : Calls P f args x.w fun e w' => e = .returned v ∧ x.w = w') : Calls P f args x.w fun e w' => e = .returned v ∧ ∃ y : Ext w, w' = y.w :=
  h.mono fun _ _ ⟨he, hb⟩ => ⟨he, x, hb.symm⟩
theorem wp_region_ext {P : Program} {id : Nat} {Q : Exit → Act → World → Prop} {a : Act} {w : World} {l : List Oper} (hm : P.follows .mixedOrders = true) (hB : Region.lexB .any l.toArray = true)
    (h : wpQuiet P l.toArray (fun w' => ∃ x : Ext w, w' = x.w) (fun a' => ∀ w', (∃ x : Ext w, w' = x.w) → Q .normal a' w') l a) : (Code.region id l.toArray true).wp P Q a w :=
  wp_region_quiet (C := fun w' => ∃ x : Ext w, w' = x.w) hm hB ⟨⟨_, (Below.refl _ _).drew⟩, rfl⟩ (by simpa using h)

/-- lists of elements of several cells each -/
theorem flat_at {α : Type} (f : α → List Value) (size : Nat) (hf : ∀ x, (f x).length = size) : ∀ (X : List α) (i r : Nat), r < size → (X.flatMap f)[i * size + r]? = (X[i]?).bind fun x => (f x)[r]?
  | [], i, r, _ => by simp
  | x :: X, 0, r, hr => by
    simp only [List.flatMap_cons, Nat.zero_mul, Nat.zero_add]
    rw [List.getElem?_append_left (by rw [hf]; exact hr)]
    simp
  | x :: X, i + 1, r, hr => by
    simp only [List.flatMap_cons]
    rw [List.getElem?_append_right (by rw [hf, Nat.add_mul]; omega), hf, show (i + 1) * size + r - size = i * size + r from by rw [Nat.add_mul]; omega, flat_at f size hf X i r hr]
    simp
theorem flat_length {α : Type} (f : α → List Value) (size : Nat) (hf : ∀ x, (f x).length = size) : ∀ (X : List α), (X.flatMap f).length = X.length * size
  | [] => by simp
  | x :: X => by simp only [List.flatMap_cons, List.length_append, hf, flat_length f size hf X, List.length_cons, Nat.add_mul]; omega
/-- a slice read at element k, place r -/
theorem RL.el {α : Type} {f : α → List Value} {w : World} {size n : Nat} {A : Option Addr} {X : List α} (hf : ∀ x, (f x).length = size) (h : RL w size A n (X.flatMap f)) {k : Nat} (hk : k < n) (hs : 0 < size) :
    ∃ b off x, A = some ⟨b, off, none⟩ ∧ b < w.heap.size ∧ X[k]? = some x ∧ ∀ r u, (f x)[r]? = some u → w.cell? ⟨b, off + k * size + r, none⟩ = some u := by
  obtain ⟨b, off, e, hb, hc⟩ := h.2 (by omega)
  have hl := h.1
  rw [flat_length f size hf] at hl
  have hX : X.length = n := Nat.eq_of_mul_eq_mul_right hs hl
  have hx : X[k]? = some (X[k]'(by omega)) := List.getElem?_eq_getElem _
  refine ⟨b, off, _, e, hb, hx, fun r u hu => ?_⟩
  have hr : r < size := by rw [← hf (X[k]'(by omega))]; exact (List.getElem?_eq_some_iff.1 hu).1
  have := hc (k * size + r) u (by rw [flat_at f size hf X k r hr, hx]; exact hu)
  rwa [← Nat.add_assoc] at this

/-- a byte in memory -/
def byV (b : UInt8) : Value := .int .u8 (N8 b)
/-- the slice reads as the bytes l -/
def RB (w : World) (A : Option Addr) (n : Nat) (l : List UInt8) : Prop := RL w 1 A n (l.map byV)

section
variable {w w' : World} {A : Option Addr} {n : Nat} {l : List UInt8}
theorem RB.len (h : RB w A n l) : l.length = n := by have := h.1; simpa using this
theorem RB.nil (w : World) (A : Option Addr) : RB w A 0 [] := RL.nil w 1 A
theorem RB.at (h : RB w A n l) {k : Nat} (hk : k < n) : ∃ b off x, A = some ⟨b, off, none⟩ ∧ b < w.heap.size ∧ l[k]? = some x ∧ w.cell? ⟨b, off + k, none⟩ = some (.int .u8 (N8 x)) := by
  obtain ⟨b, off, e, hb, hc⟩ := h.2 (by omega)
  have hl : k < l.length := by have := h.len; omega
  exact ⟨b, off, l[k], e, hb, List.getElem?_eq_getElem hl, hc k _ (by simp [hl, byV])⟩
theorem RB.below (h : RB w A n l) (hb : Below w.heap.size w w') : RB w' A n l := RL.below h hb
theorem RB.alloc (h : RB w A n l) (o : Obj) : RB (w.alloc o) A n l := RL.alloc h o
theorem RB.cut (h : RB w A n l) {k cap : Nat} (hk : k ≤ n) (hc : n ≤ cap) : RB w (if cap = k then A else A.map (·.add k)) (n - k) (l.drop k) := by
  have := RL.cut h hk hc
  unfold RB
  simpa [List.map_drop] using this
theorem RB.pre (h : RB w A n l) {k : Nat} (hk : k ≤ n) : RB w A k (l.take k) := by
  have := RL.pre h hk
  unfold RB
  simpa [List.map_take] using this
end
theorem RB.sub {w : World} {b off n : Nat} {l : List UInt8} (h : RB w (some ⟨b, off, none⟩) n l) (i m : Nat) (hi : i + m ≤ n) : RB w (some ⟨b, off + i, none⟩) m ((l.drop i).take m) := by
  refine ⟨by have := h.len; simp; omega, fun hm => ?_⟩
  obtain ⟨b', o', e, hb, hc⟩ := h.2 (by omega)
  cases e
  refine ⟨b, off + i, rfl, hb, fun j u hu => ?_⟩
  rw [Nat.add_assoc]
  refine hc (i + j) u ?_
  rw [← hu]
  have hj : j < m := by
    have := (List.getElem?_eq_some_iff.1 hu).1
    simp at this
    omega
  simp [List.getElem?_take, hj]
theorem RB.tail {w : World} {b off n : Nat} {l : List UInt8} (h : RB w (some ⟨b, off, none⟩) n l) (i m : Nat) (hi : i + m = n) : RB w (some ⟨b, off + i, none⟩) m (l.drop i) := by
  have := h.sub i m (by omega)
  rwa [List.take_of_length_le (by have := h.len; simp; omega)] at this
theorem byV_zeros (n : Nat) : List.replicate n (Value.int .u8 0) = (List.replicate n (0 : UInt8)).map byV := by
  rw [List.map_replicate]; rfl
/-- a row that is filled from the front: one element more -/
theorem set_next {α : Type} {X : List α} {x z : α} {k n : Nat} (hx : X[k]? = some x) (hk : k < n) : (X.take k ++ List.replicate (n - k) z).set k x = X.take (k + 1) ++ List.replicate (n - (k + 1)) z := by
  have hl : k < X.length := (List.getElem?_eq_some_iff.1 hx).1
  have e : (X.take k).length = k := by simp; omega
  rw [List.set_append_right _ _ (by omega), e, Nat.sub_self, show n - k = (n - (k + 1)) + 1 from by omega, List.replicate_succ, List.set_cons_zero, List.take_add_one, hx]
  simp
theorem set_nextB {X : List UInt8} {x : UInt8} {k n : Nat} (hx : X[k]? = some x) (hk : k < n) : ((X.take k ++ List.replicate (n - k) 0).map byV).set k (.int .u8 (N8 x)) = (X.take (k + 1) ++ List.replicate (n - (k + 1)) 0).map byV := by
  rw [← set_next (z := 0) hx hk, List.map_set]; rfl
theorem byV_one (l : List UInt8) : ∀ u ∈ l.map byV, u.oneCell' = true := by
  intro u hu
  obtain ⟨_, _, rfl⟩ := List.mem_map.1 hu
  rfl

theorem own_base {w : World} {base base' : Nat} {e : TypeId} {size : Nat} {v : Value} {n : Nat} {xs : List Value} (h : w.ownsRow base e size v n xs) (hb : base' ≤ base) : w.ownsRow base' e size v n xs := by
  refine ⟨h.1, ?_⟩
  rcases h.2 with h2 | ⟨g, cap, cur, h1, h2, h3⟩
  · exact .inl h2
  · exact .inr ⟨g, cap, cur, h1, by omega, h3⟩
theorem own_below {w w' : World} {base : Nat} {e : TypeId} {size : Nat} {v : Value} {n : Nat} {xs : List Value} (h : w.ownsRow base e size v n xs) (hb : Below w.heap.size w w') : w'.ownsRow base e size v n xs :=
  h.kept ⟨hb.os, hb.tape, hb.output, hb.size, fun k hk _ => hb.block k hk⟩ (by cases hv : v.ownBlock <;> simp : v.ownBlock = none ∨ v.ownBlock ≠ none)
/-- a row of the call's own, as a slice -/
theorem own_form {w : World} {base : Nat} {e : TypeId} {v : Value} {n : Nat} {xs : List Value} (h : w.ownsRow base e 1 v n xs) : ∃ A c, v = .slice A n c ∧ RL w 1 A n xs ∧ n ≤ c ∧ c ≤ 9223372036854775807 := by
  have h' := h
  rcases h.2 with ⟨rfl, rfl⟩ | ⟨g, cap, cur, rfl, _, _, hn, hm, _⟩
  · exact ⟨_, _, rfl, RL.of_own h', Nat.le_refl _, by omega⟩
  · exact ⟨_, _, rfl, RL.of_own h', hn, by simp only [maxLen] at hm; omega⟩

/-- 'string(b)' of a byte string that reads -/
theorem run_str {P : Program} {w : World} {A : Option Addr} {n : Nat} {l : List UInt8} (h : RB w A n l) (src dst e : TypeId) (c : Nat) (hs : P.underlying src = some (.slice e)) (he : P.underlying e = some (.int .u8)) (hd : P.underlying dst = some .string) :
    (convert src dst (.slice A n c)).run P w = .ok (.string ⟨l.toArray⟩) w := by
  have hl := h.len
  subst hl
  rcases Nat.eq_zero_or_pos l.length with h0 | h0
  · obtain rfl : l = [] := List.eq_nil_of_length_eq_zero h0
    cases A with
    | none =>
      show (convert src dst (.slice none 0 c)).run P w = _
      rw [run_convert_bytes_string w src dst e none 0 c hs he hd]
      rfl
    | some a => exact run_convert_bytes_back w src dst e a c [] hs he hd (fun j hj => absurd hj (by simp))
  · obtain ⟨b, off, rfl, hb, hc⟩ := h.2 h0
    refine run_convert_bytes_back w src dst e _ c l hs he hd (fun j hj => ?_)
    rw [add_spot]
    exact hc j _ (by simp [hj, byV]; rfl)

/-- 'x[l:]' and 'x[l:h]' of a slice whose elements are one cell each -/
theorem run_from {P : Program} (t e : TypeId) (ht : P.underlying t = some (.slice e)) (hs : (P.info? e).map (·.size) = some 1) (A : Option Addr) (n c l : Nat) (kl : IntKind) (i : Int) (hi : i = (l : Int)) (hl : l ≤ n) (w : World) :
    (Instr.slice t (.slice A n c) (some (.int kl i)) none none).run P w = .ok (.slice (if c = l then A else A.map (·.add l)) (n - l) (c - l)) w := by
  subst hi
  cases hq : P.info? e with
  | none => simp [hq] at hs
  | some q =>
    simp [hq] at hs
    have b1 : ∀ code, (Instr.sliceBound (.int kl (l : Int)) n code).run P w = .ok l w := fun code => (run_sliceBound w _ _ _ code (Int.natCast_nonneg _) (by omega)).trans (by simp)
    simp [Instr.slice, run_underlying ht, Instr.sliceBounds, b1, sizeOf, typeInfo, hq, hs]
theorem run_part {P : Program} (t e : TypeId) (ht : P.underlying t = some (.slice e)) (hs : (P.info? e).map (·.size) = some 1) (A : Option Addr) (n c l h : Nat) (kl kh : IntKind) (i j : Int) (hi : i = (l : Int)) (hj : j = (h : Int)) (hl : l ≤ h) (hh : h ≤ c) (w : World) :
    (Instr.slice t (.slice A n c) (some (.int kl i)) (some (.int kh j)) none).run P w = .ok (.slice (if c = l then A else A.map (·.add l)) (h - l) (c - l)) w := by
  subst hi hj
  cases hq : P.info? e with
  | none => simp [hq] at hs
  | some q =>
    simp [hq] at hs
    have b1 : ∀ code, (Instr.sliceBound (.int kl (l : Int)) h code).run P w = .ok l w := fun code => (run_sliceBound w _ _ _ code (Int.natCast_nonneg _) (by omega)).trans (by simp)
    have b2 : ∀ code, (Instr.sliceBound (.int kh (h : Int)) c code).run P w = .ok h w := fun code => (run_sliceBound w _ _ _ code (Int.natCast_nonneg _) (by omega)).trans (by simp)
    simp [Instr.slice, run_underlying ht, Instr.sliceBounds, b1, b2, sizeOf, typeInfo, hq, hs]
theorem run_arr_from {P : Program} (t e : TypeId) (m : Nat) (ht : P.underlying t = some (.array m e)) (hs : (P.info? e).map (·.size) = some 1) (g o l : Nat) (kl : IntKind) (i : Int) (hi : i = (l : Int)) (hl : l < m) (w : World) :
    (Instr.sliceAt t (.pointer (some ⟨g, o, none⟩)) (some (.int kl i)) none none).run P w = .ok (.slice (some ⟨g, o + l, none⟩) (m - l) (m - l)) w := by
  subst hi
  cases hq : P.info? e with
  | none => simp [hq] at hs
  | some q =>
    simp [hq] at hs
    have b1 : ∀ code, (Instr.sliceBound (.int kl (l : Int)) m code).run P w = .ok l w := fun code => (run_sliceBound w _ _ _ code (Int.natCast_nonneg _) (by omega)).trans (by simp)
    simp [Instr.sliceAt, Instr.sureAddr, run_underlying ht, Instr.sliceBounds, b1, sizeOf, typeInfo, hq, hs, add_spot]
    omega
theorem RB.part {w : World} {A : Option Addr} {n c : Nat} {l : List UInt8} (h : RB w A n l) {i m : Nat} (hi : i + m ≤ n) (hc : n ≤ c) : RB w (if c = i then A else A.map (·.add i)) m ((l.drop i).take m) := by
  rcases Nat.eq_zero_or_pos m with h0 | h0
  · subst h0; simpa using RB.nil w _
  · have := (h.cut (k := i) (by omega) hc).pre (k := m) (by omega)
    exact this
theorem one_only {u : Value} (h : u.oneCell' = true) : ∀ x ∈ (#[u] : Array Value).toList, x.oneCell' = true := by
  intro x hx
  simp at hx
  subst hx
  exact h

theorem Below.of_grown {a w : World} {B : Nat} {row : Option Nat} (h : a.grownBy w row) (hB : B ≤ a.heap.size) (hr : ∀ g, row = some g → B ≤ g) : Below B a w := (Below.refl _ _).grown h hB hr
/-- an owned row is written at one place -/
theorem own_set {w : World} {base : Nat} {e : TypeId} {A : Option Addr} {n c : Nat} {xs : List Value} (h : w.ownsRow base e 1 (.slice A n c) n xs) {k : Nat} (hk : k < n) :
    ∃ g, A = some ⟨g, 0, none⟩ ∧ base ≤ g ∧ g < w.heap.size ∧ w.cell? ⟨g, k, none⟩ = xs[k]? ∧ w.frozen? ⟨g, k, none⟩ = false ∧
      ∀ u, (w.setCell ⟨g, k, none⟩ u).ownsRow base e 1 (.slice A n c) n (xs.set k u) ∧ w.grownBy (w.setCell ⟨g, k, none⟩ u) (some g) := by
  rcases h.2 with ⟨_, h0⟩ | ⟨g, cap, cur, h', hb, hg, _⟩
  · omega
  · have hA : A = some ⟨g, 0, none⟩ := by injection h'
    subst hA
    exact ⟨g, rfl, hb, (Array.getElem?_eq_some_iff.1 hg).1, h.cellAt k (by omega), h.frozenAt k, fun u => h.stored k u⟩

/-- what the walk asks of a slice type t whose elements, of type e, are one cell -/
def OneC (P : Program) (t e : TypeId) (z : Value) (bytes : Nat) : Prop :=
  P.underlying t = some (.slice e) ∧ (∃ i, P.info? e = some i ∧ i.zero = some z ∧ i.size = 1 ∧ i.bytes = bytes) ∧ z.cells.size = 1

section
variable {P : Program} (w : World)
theorem run_app_nil (base : Nat) (t ty e : TypeId) (z : Value) (bytes : Nat) (hT : OneC P t e z bytes)
    (v : Value) (n : Nat) (xs : List Value) (hown : w.ownsRow base e 1 v n xs) (c : Nat) : (Builtin.append_ #[t, t] ty #[v, .slice none 0 c]).run P w = .ok v w := by
  obtain ⟨ht, ⟨i, hi, _, _, _⟩, _⟩ := hT
  rcases hown.2 with ⟨rfl, rfl⟩ | ⟨g, cap, cur, rfl, _, _, hnc, _⟩
  · simp [Builtin.append_, run_underlying ht, sizeOf, typeInfo, hi, Builtin.lenOf, Builtin.firstCells]
  · simp [Builtin.append_, run_underlying ht, sizeOf, typeInfo, hi, Builtin.lenOf, Builtin.firstCells, hnc, storeCells]

/-- 'make([]T, n)' at a variable size -/
theorem wp_make {ops : Array Oper} {rest : List Oper} {o : Oper} {a : Act} {Q : Exit → Act → World → Prop} (hgd : o.guard = none) (l c : Operand) (t : TypeId) (hop : o.op = Op.makeSlice t l c)
    (base : Nat) (e : TypeId) (z : Value) (bytes : Nat) (hT : OneC P t e z bytes) (hz1 : z.cells = #[z])
    (kl kc : IntKind) (L C : Int) (n : Nat) (hl : a.eval l = .int kl L) (hc : a.eval c = .int kc C) (hL : L = (n : Int)) (hC : C = (n : Int)) (b2 : bytes * n ≤ 281474976710656) (b3 : n ≤ maxLen) (b4 : base ≤ w.heap.size)
    (hK : ∀ w', w'.ownsRow base e 1 (.slice (some ⟨w.heap.size, 0, none⟩) n n) n (List.replicate n z) → w.grownBy w' none → wpList P ops Q rest (a.put o.dst (.slice (some ⟨w.heap.size, 0, none⟩) n n)) w') :
    wpList P ops Q (o :: rest) a w := by
  obtain ⟨ht, ⟨i, hi, hz, hsize, hby⟩, hzs⟩ := hT
  refine wpList_make_full w hgd l c t hop base e i z 1 ht hi hz hsize kl kc L C n hl hc hL hC (by rw [hby]; exact b2) b3 b4 fun w' hown hg => hK w' ?_ hg
  rw [hz1, Nat.mul_one, toList_madeCells_one] at hown
  exact hown

/-- 'make([]T, 0, n)' at a variable size -/
theorem wp_make0 {ops : Array Oper} {rest : List Oper} {o : Oper} {a : Act} {Q : Exit → Act → World → Prop} (hgd : o.guard = none) (l c : Operand) (t : TypeId) (hop : o.op = Op.makeSlice t l c)
    (base : Nat) (e : TypeId) (z : Value) (bytes : Nat) (hT : OneC P t e z bytes)
    (kl kc : IntKind) (C : Int) (n : Nat) (hl : a.eval l = .int kl 0) (hc : a.eval c = .int kc C) (hC : C = (n : Int)) (b2 : bytes * n ≤ 281474976710656) (b3 : n ≤ maxLen) (b4 : base ≤ w.heap.size)
    (hK : ∀ w', w'.ownsRow base e 1 (.slice (some ⟨w.heap.size, 0, none⟩) 0 n) 0 [] → w.grownBy w' none → wpList P ops Q rest (a.put o.dst (.slice (some ⟨w.heap.size, 0, none⟩) 0 n)) w') :
    wpList P ops Q (o :: rest) a w := by
  obtain ⟨ht, ⟨i, hi, hz, hsize, hby⟩, hzs⟩ := hT
  exact wpList_make_own w hgd l c t hop base e i z 1 ht hi hz hsize kl kc C n hl hc hC (by rw [hby]; exact b2) b3 b4 hK

/-- append onto a row of the call's own, the source whatever reads -/
theorem run_app (base : Nat) (t ty e : TypeId) (z : Value) (bytes : Nat) (hT : OneC P t e z bytes)
    (v : Value) (n : Nat) (xs : List Value) (hown : w.ownsRow base e 1 v n xs)
    (A : Option Addr) (m c : Nat) (news : List Value) (hr : RL w 1 A m news) (h1 : ∀ u ∈ news, u.oneCell' = true)
    (h63 : n + m ≤ maxLen) (hbytes : (n + m) * bytes ≤ 140737488355328) (hbase : base ≤ w.heap.size) :
    ∃ v' w', (Builtin.append_ #[t, t] ty #[v, .slice A m c]).run P w = .ok v' w' ∧ w'.ownsRow base e 1 v' (n + m) (xs ++ news) ∧ w.grownBy w' v.ownBlock ∧
      (v'.ownBlock = v.ownBlock ∨ v'.ownBlock = some w.heap.size) := by
  have hT' := hT
  obtain ⟨ht, ⟨i, hi, hz, hsize, hby⟩, hzs⟩ := hT
  rcases A with _ | ad
  · have hm : m = 0 := by
      rcases Nat.eq_zero_or_pos m with h0 | h0
      · exact h0
      · obtain ⟨_, _, h, _⟩ := hr.2 h0
        cases h
    subst hm
    have hn : news = [] := List.eq_nil_of_length_eq_zero (by simpa using hr.1)
    subst hn
    exact ⟨v, w, run_app_nil w base t ty e z bytes hT' v n xs hown c, by simpa using hown, World.grownBy.refl w _, .inl rfl⟩
  · have hcells : ∀ j u, news[j]? = some u → w.cell? (ad.add j) = some u := by
      intro j u hu
      rcases Nat.eq_zero_or_pos m with h0 | h0
      · subst h0
        have hn : news = [] := List.eq_nil_of_length_eq_zero (by simpa using hr.1)
        subst hn
        simp at hu
      · obtain ⟨b, off, h, _, hc⟩ := hr.2 h0
        injection h with h
        subst h
        rw [add_spot]
        exact hc j u hu
    obtain ⟨v', w', hrun, h2, h3, _, h5⟩ := run_append_own_at (P := P) w base t ty e i z 1 bytes ht hi hz hsize hby hzs (by omega) v n xs hown ad m c news hr.1 hcells h1 h63 hbytes hbase
    exact ⟨v', w', hrun, h2, h3, h5⟩

theorem wp_app {ops : Array Oper} {rest : List Oper} {o : Oper} {a : Act} {Q : Exit → Act → World → Prop} (hgd : o.guard = none) (s x : Operand) (t : TypeId)
    (ho : o.op = .call { callee := .builtin .append, args := #[s, x], argTypes := #[t, t] })
    (base : Nat) (e : TypeId) (z : Value) (bytes : Nat) (hT : OneC P t e z bytes)
    (v : Value) (n : Nat) (xs : List Value) (hown : w.ownsRow base e 1 v n xs) (hs : a.eval s = v)
    (A : Option Addr) (m c : Nat) (news : List Value) (hr : RL w 1 A m news) (hx : a.eval x = .slice A m c) (h1 : ∀ u ∈ news, u.oneCell' = true)
    (h63 : n + m ≤ maxLen) (hbytes : (n + m) * bytes ≤ 140737488355328) (hbase : base ≤ w.heap.size)
    (h : ∀ v' w', w'.ownsRow base e 1 v' (n + m) (xs ++ news) → w.grownBy w' v.ownBlock → (v'.ownBlock = v.ownBlock ∨ v'.ownBlock = some w.heap.size) → wpList P ops Q rest (a.put o.dst v') w') :
    wpList P ops Q (o :: rest) a w := by
  refine wpList_plain hgd fun K hK => ?_
  obtain ⟨v', w', hrun, h2, h3, h4⟩ := run_app (P := P) w base t o.type e z bytes hT v n xs hown A m c news hr h1 h63 hbytes hbase
  unfold Oper.wp execOp
  simp only [ho, resolve, invoke, builtin, Sem.run_bind, Sem.run_pure, Result.andThen_ok, List.map_toArray, List.map_cons, List.map_nil, hs, hx, hrun]
  exact hK _ _ (h v' w' h2 h3 h4)
end
end Go.Proofs.YtlokfndonjldpaaDoor
