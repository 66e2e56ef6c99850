/- bytes.Equal, the law's same, the example of the chapter. Conditions: those of each theorem. -/
import Derived.Test.YtjaoipdmchofoaaDoorRefEnc2
import Derived.Test.YtjaoipdmchofoaaDoorEncBad
set_option linter.unusedSimpArgs false
set_option linter.unusedVariables false
namespace Go.Proofs.YtjaoipdmchofoaaDoor
open Go.RowKit

theorem equal_any (A B : Option Addr) (n c m d : Nat) (l r : List UInt8) (w : World) (ha : RB w A n l) (hb : RB w B m r) :
    Calls Tryd.prog 13 #[.slice A n c, .slice B m d] w fun e w' => e = .returned (.bool (l == r)) ∧ w = w' := by
  have k1 := run_str ha 23 9 5 c Tryd.underlying23 Tryd.underlying5 Tryd.underlying9
  have k2 := run_str hb 23 9 5 d Tryd.underlying23 Tryd.underlying5 Tryd.underlying9
  go_enter Tryd.func13, Tryd.ntmps13
  go_wp2_with fail
  go_ret
  exact ⟨rfl, rfl⟩

theorem same_law (id id' kind kind' : Int) (stamp stamp' : Nat) (A B : Option Addr) (n c m d : Nat) (l r : List UInt8) (w : World) (ha : RB w A n l) (hb : RB w B m r) :
    Calls Tryd.prog 18 #[pageV id stamp kind A n c, pageV id' stamp' kind' B m d] w fun e w' => e = .returned (.bool (decide (id = id' ∧ stamp = stamp' ∧ kind = kind' ∧ l = r))) ∧ Below w.heap.size w w' := by
  unfold pageV
  have hB2 : ∀ (o o' : Obj), Below w.heap.size w ((w.alloc o).alloc o') := fun o o' => ((Below.refl _ _).alloc (Nat.le_refl _) _).alloc (by simp) _
  by_cases e1 : id = id'
  · by_cases e2 : stamp = stamp'
    · by_cases e3 : kind = kind'
      · subst e1 e2 e3
        have q1 : (id == id) = true := beq_self_eq_true _
        have q2 : ((stamp : Int) == (stamp : Int)) = true := beq_self_eq_true _
        have q3 : (kind == kind) = true := beq_self_eq_true _
        go_enter Tryd.func18, Tryd.ntmps18
        go_wp2_with fail
        refine (equal_any _ _ _ _ _ _ l r _ (RB.below ha (hB2 _ _)) (RB.below hb (hB2 _ _))).mono ?_
        rintro e w' ⟨rfl, rfl⟩
        go_wp2_with fail
        go_ret
        have E : ∀ x : Bool, (x = true ↔ l = r) → (l == r) = x := fun x h => by rw [Bool.eq_iff_iff, beq_iff_eq, h]
        exact ⟨congrArg (fun b => Ending.returned (.bool b)) (E _ (by simp)), hB2 _ _⟩
      · subst e1 e2
        have q1 : (id == id) = true := beq_self_eq_true _
        have q2 : ((stamp : Int) == (stamp : Int)) = true := beq_self_eq_true _
        have q3 : (kind == kind') = false := by rw [beq_eq_false_iff_ne]; exact e3
        rw [decide_eq_false (fun h => e3 h.2.2.1)]
        go_enter Tryd.func18, Tryd.ntmps18
        go_wp2_with fail
        go_ret
        exact ⟨rfl, hB2 _ _⟩
    · subst e1
      have q1 : (id == id) = true := beq_self_eq_true _
      have q2 : ((stamp : Int) == (stamp' : Int)) = false := by rw [beq_eq_false_iff_ne]; omega
      rw [decide_eq_false (fun h => e2 h.2.1)]
      go_enter Tryd.func18, Tryd.ntmps18
      go_wp2_with fail
      go_ret
      exact ⟨rfl, hB2 _ _⟩
  · have q1 : (id == id') = false := by rw [beq_eq_false_iff_ne]; exact e1
    rw [decide_eq_false (fun h => e1 h.1)]
    go_enter Tryd.func18, Tryd.ntmps18
    go_wp2_with fail
    go_ret
    exact ⟨rfl, hB2 _ _⟩

theorem prefix_any (A B : Option Addr) (n c m d : Nat) (l r : List UInt8) (w : World) (ha : RB w A n l) (hb : RB w B m r) (hmn : m ≤ n) (hnc : n ≤ c) (hc : c ≤ 9223372036854775807) :
    Calls Tryd.prog 28 #[.slice A n c, .slice B m d] w fun e w' => e = .returned (.bool (l.take m == r)) ∧ w = w' := by
  have hpre : RB w A m (l.take m) := ha.pre hmn
  have d1 : (n : Int) ≥ m := by omega
  go_enter Tryd.func28, Tryd.ntmps28
  go_wp2_with fail
  refine (equal_any _ _ _ _ _ _ _ r _ hpre hb).mono ?_
  rintro e w' ⟨rfl, rfl⟩
  go_wp2_with fail
  go_ret
  exact ⟨rfl, rfl⟩

theorem awake_take : (encoded 5 258 1 [9, 9]).take 23 = [79, 80, 71, 49, 5, 0, 0, 0, 2, 1, 0, 0, 0, 0, 0, 0, 1, 0, 2, 0, 9, 9, 0] := by
  unfold encoded sealed
  rw [List.take_append_of_le_length (by rw [plainPage_len (by decide)]; omega)]
  rfl
theorem awake_any (w : World) (hT : Tab w) :
    Calls Tryd.prog 10 #[] w fun e w' => e = .returned (.bool true) ∧ Below w.heap.size w w' := by
  go_enter Tryd.func10, Tryd.ntmps10
  go_wp2_with fail
  refine (encode_good 5 1 258 (some ⟨w.heap.size, 0, none⟩) 2 2 [9, 9] _ (hT.alloc _) (RL.new w _ _ _ 1 2 rfl) (by omega) (by omega) (by omega) (by omega)).mono ?_
  rintro e w' ⟨v, rfl, hown, hbel⟩
  obtain ⟨A1, c1, rfl, hr1, hc1, hm1⟩ := own_form hown
  go_wp2_with fail
  refine (prefix_any A1 _ 1024 c1 23 23 (encoded 5 258 1 [9, 9]) [79, 80, 71, 49, 5, 0, 0, 0, 2, 1, 0, 0, 0, 0, 0, 0, 1, 0, 2, 0, 9, 9, 0] _ (RB.alloc hr1 _) (RL.new w' _ _ _ 1 23 rfl) (by omega) hc1 hm1).mono ?_
  rw [awake_take]
  rintro e w2 ⟨rfl, rfl⟩
  go_wp2_with fail
  go_ret
  exact ⟨rfl, ((((Below.refl _ _).alloc (Nat.le_refl _) _).trans (hbel.mono (by simp))).alloc (by have := hbel.size; simp at this; omega) _)⟩

/-- a page as a value, and what it reads as -/
structure Pg where
  (id : Int) (stamp : Nat) (kind : Int) (A : Option Addr) (n c : Nat) (l : List UInt8)
def Pg.v (p : Pg) : Value := pageV p.id p.stamp p.kind p.A p.n p.c
def Pg.cs (p : Pg) : List Value := [.int .i64 p.id, .int .u64 p.stamp, .int .i64 p.kind, .slice p.A p.n p.c]
structure Pg.ok (W : World) (p : Pg) : Prop where
  rb : RB W p.A p.n p.l
  nc : p.n ≤ p.c
  cm : p.c ≤ 9223372036854775807
  s : p.stamp < 18446744073709551616
  i0 : -9223372036854775808 ≤ p.id
  i1 : p.id ≤ 9223372036854775807
  k0 : -9223372036854775808 ≤ p.kind
  k1 : p.kind ≤ 9223372036854775807
theorem Pg.ok.below {W W' : World} {p : Pg} (h : p.ok W) (hb : Below W.heap.size W W') : p.ok W' := ⟨h.rb.below hb, h.nc, h.cm, h.s, h.i0, h.i1, h.k0, h.k1⟩
theorem right_of {id kind : Int} {n : Nat} (h : wrong id kind n = 0) : ∃ i k : Nat, id = i ∧ kind = k ∧ i ≤ 2147483647 ∧ k ≤ 255 ∧ n ≤ 1000 := by
  unfold wrong at h
  split at h
  · cases h
  · split at h
    · cases h
    · split at h
      · cases h
      · exact ⟨id.toNat, kind.toNat, by omega, by omega, by omega, by omega, by omega⟩
end Go.Proofs.YtjaoipdmchofoaaDoor
