/- Slices that read and lie in blocks of a set; slices of byte slices. Conditions: none. -/
import Derived.Test.YtlokfndonjldpaaDoorBlk
set_option linter.unusedSimpArgs false
set_option linter.unusedVariables false
namespace Go.Proofs.YtlokfndonjldpaaDoor
open Go.RowKit

/-- reads, and lies in a block of N -/
def RN (N : Nat → Prop) (w : World) (size : Nat) (A : Option Addr) (n : Nat) (xs : List Value) : Prop :=
  RL w size A n xs ∧ ∀ b o, A = some ⟨b, o, none⟩ → 0 < n → N b
section
variable {N N' : Nat → Prop} {w w' : World} {size : Nat} {A : Option Addr} {n : Nat} {xs : List Value}
theorem RN.rl (h : RN N w size A n xs) : RL w size A n xs := h.1
theorem RN.keep (h : RN N w size A n xs) (hb : Below w.heap.size w w') : RN N w' size A n xs := ⟨h.1.below hb, h.2⟩
theorem RN.mono (h : RN N w size A n xs) (hN : ∀ b, N b → N' b) : RN N' w size A n xs := ⟨h.1, fun b o hA hn => hN b (h.2 b o hA hn)⟩
theorem RN.lt (h : RN N w size A n xs) : RN (fun b => N b ∧ b < w.heap.size) w size A n xs :=
  ⟨h.1, fun b o hA hn => ⟨h.2 b o hA hn, by
    obtain ⟨b', o', e, hb, _⟩ := h.1.2 hn
    rw [hA] at e
    cases e
    exact hb⟩⟩
theorem RN.grown {row : Option Nat} (h : RN N w size A n xs) (hg : w.grownBy w' row) (hr : ∀ g, row = some g → ¬ N g) : RN N w' size A n xs :=
  ⟨h.1.grown hg (fun g hg' hn b o hA he => hr g hg' (he ▸ h.2 b o hA hn)), h.2⟩
theorem RN.nil (N : Nat → Prop) (w : World) (size : Nat) (A : Option Addr) : RN N w size A 0 [] := ⟨RL.nil w size A, fun _ _ _ h => absurd h (by omega)⟩
theorem RN.own {base : Nat} {e : TypeId} {c : Nat} (h : w.ownsRow base e size (.slice A n c) n xs) (hN : ∀ b, base ≤ b → N b) : RN N w size A n xs := by
  refine ⟨RL.of_own h, fun b o hA hn => ?_⟩
  subst hA
  exact hN b (h.lt b rfl).1
theorem RN.all (h : RL w size A n xs) : RN (fun _ => True) w size A n xs := ⟨h, fun _ _ _ _ => trivial⟩
theorem RN.pre (h : RN N w size A n xs) {k : Nat} (hk : k ≤ n) : RN N w size A k (xs.take (k * size)) := ⟨h.1.pre hk, fun b o hA hk' => h.2 b o hA (by omega)⟩
end

/-- a slice value -/
structure Sl where
  (A : Option Addr) (n c : Nat)
def Sl.v (s : Sl) : Value := .slice s.A s.n s.c
theorem Sl.one (s : Sl) : s.v.oneCell' = true := rfl
/-- a byte slice that reads as l -/
structure SlR (N : Nat → Prop) (w : World) (s : Sl) (l : List UInt8) : Prop where
  r : RN N w 1 s.A s.n (l.map byV)
  nc : s.n ≤ s.c
  cm : s.c ≤ 9223372036854775807
section
variable {N N' : Nat → Prop} {w w' : World} {s : Sl} {l : List UInt8}
theorem SlR.rb (h : SlR N w s l) : RB w s.A s.n l := h.r.1
theorem SlR.len (h : SlR N w s l) : l.length = s.n := h.rb.len
theorem SlR.keep (h : SlR N w s l) (hb : Below w.heap.size w w') : SlR N w' s l := ⟨h.r.keep hb, h.nc, h.cm⟩
theorem SlR.mono (h : SlR N w s l) (hN : ∀ b, N b → N' b) : SlR N' w s l := ⟨h.r.mono hN, h.nc, h.cm⟩
theorem SlR.lt (h : SlR N w s l) : SlR (fun b => N b ∧ b < w.heap.size) w s l := ⟨h.r.lt, h.nc, h.cm⟩
theorem SlR.grown {row : Option Nat} (h : SlR N w s l) (hg : w.grownBy w' row) (hr : ∀ g, row = some g → ¬ N g) : SlR N w' s l := ⟨h.r.grown hg hr, h.nc, h.cm⟩
theorem SlR.own {base : Nat} {e : TypeId} {v : Value} {n : Nat} (h : w.ownsRow base e 1 v n (l.map byV)) (hN : ∀ b, base ≤ b → N b) : ∃ s : Sl, v = s.v ∧ s.n = n ∧ SlR N w s l := by
  obtain ⟨A, c, rfl, hr, hc, hm⟩ := own_form h
  exact ⟨⟨A, n, c⟩, rfl, rfl, RN.own h hN, hc, hm⟩
end

/-- many byte slices -/
def Sls (N : Nat → Prop) (w : World) (ss : List Sl) (ls : List (List UInt8)) : Prop :=
  ss.length = ls.length ∧ ∀ (i : Nat) (s : Sl) (l : List UInt8), ss[i]? = some s → ls[i]? = some l → SlR N w s l
section
variable {N N' : Nat → Prop} {w w' : World} {ss : List Sl} {ls : List (List UInt8)}
theorem Sls.keep (h : Sls N w ss ls) (hb : Below w.heap.size w w') : Sls N w' ss ls := ⟨h.1, fun i s l h1 h2 => (h.2 i s l h1 h2).keep hb⟩
theorem Sls.mono (h : Sls N w ss ls) (hN : ∀ b, N b → N' b) : Sls N' w ss ls := ⟨h.1, fun i s l h1 h2 => (h.2 i s l h1 h2).mono hN⟩
theorem Sls.lt (h : Sls N w ss ls) : Sls (fun b => N b ∧ b < w.heap.size) w ss ls := ⟨h.1, fun i s l h1 h2 => (h.2 i s l h1 h2).lt⟩
theorem Sls.grown {row : Option Nat} (h : Sls N w ss ls) (hg : w.grownBy w' row) (hr : ∀ g, row = some g → ¬ N g) : Sls N w' ss ls := ⟨h.1, fun i s l h1 h2 => (h.2 i s l h1 h2).grown hg hr⟩
theorem Sls.nil : Sls N w [] [] := ⟨rfl, fun i s l h => by simp at h⟩
theorem Sls.at (h : Sls N w ss ls) {i : Nat} {l : List UInt8} (hl : ls[i]? = some l) : ∃ s, ss[i]? = some s ∧ SlR N w s l := by
  have hi := (List.getElem?_eq_some_iff.1 hl).1
  have hs : ss[i]? = some (ss[i]'(by rw [h.1]; exact hi)) := List.getElem?_eq_getElem _
  exact ⟨_, hs, h.2 i _ l hs hl⟩
theorem Sls.snoc (h : Sls N w ss ls) {s : Sl} {l : List UInt8} (hs : SlR N w s l) : Sls N w (ss ++ [s]) (ls ++ [l]) := by
  refine ⟨by simp [h.1], fun i s' l' h1 h2 => ?_⟩
  rcases Nat.lt_trichotomy i ss.length with hi | hi | hi
  · rw [List.getElem?_append_left hi] at h1
    rw [List.getElem?_append_left (by rw [← h.1]; exact hi)] at h2
    exact h.2 i s' l' h1 h2
  · rw [hi, List.getElem?_concat_length] at h1
    rw [hi, h.1, List.getElem?_concat_length] at h2
    cases h1
    cases h2
    exact hs
  · rw [List.getElem?_eq_none (by simp; omega)] at h1
    cases h1
theorem Sls.set (h : Sls N w ss ls) {s : Sl} {l : List UInt8} (hs : SlR N w s l) (k : Nat) : Sls N w (ss.set k s) (ls.set k l) := by
  refine ⟨by simp [h.1], fun i s' l' h1 h2 => ?_⟩
  rw [List.getElem?_set] at h1 h2
  by_cases hk : k = i
  · rw [if_pos hk] at h1 h2
    split at h1
    · rw [if_pos (by rw [← h.1]; assumption)] at h2
      cases h1
      cases h2
      exact hs
    · cases h1
  · rw [if_neg hk] at h1 h2
    exact h.2 i s' l' h1 h2
/-- one more, where the row of the slices grows -/
theorem Sls.app {s : Sl} {l : List UInt8} {v v' : Value} (h : Sls (fun b => N b ∧ v.ownBlock ≠ some b) w ss ls) (hs : SlR (fun b => N b ∧ v.ownBlock ≠ some b) w s l) (hr : w.grownBy w' v.ownBlock)
    (ha : v'.ownBlock = v.ownBlock ∨ v'.ownBlock = some w.heap.size) : Sls (fun b => N b ∧ v'.ownBlock ≠ some b) w' (ss ++ [s]) (ls ++ [l]) := by
  refine ((h.snoc hs).lt.grown hr (fun g hg hN => hN.1.2 hg)).mono fun b hb => ⟨hb.1.1, fun he => ?_⟩
  rcases ha with ha | ha
  · exact hb.1.2 (ha ▸ he)
  · rw [ha] at he
    cases he
    exact absurd hb.2 (by omega)
end
end Go.Proofs.YtlokfndonjldpaaDoor
