/- Logs as values; inside, left, Room, Next of package wal, walked. Conditions: those of each theorem. -/
import Derived.Test.YtlokfndonjldpaaDoorWalP
import Derived.Test.YtlokfndonjldpaaDoorDiskRW
set_option linter.unusedSimpArgs false
set_option linter.unusedVariables false
namespace Go.Proofs.YtlokfndonjldpaaDoor
open Go.RowKit

def Lg.cs (l : Lg) : List Value := [.int .i64 l.from_, .int .i64 l.size, .int .u64 l.e, .int .u64 l.g, .int .u64 l.nx, .int .i64 l.at_]
def Lg.v (l : Lg) : Value := .agg #[.int .i64 l.from_, .int .i64 l.size, .int .u64 l.e, .int .u64 l.g, .int .u64 l.nx, .int .i64 l.at_]
def Lg.zero : Lg := ⟨0, 0, 0, 0, 0, 0⟩
structure Lg.ok (l : Lg) : Prop where
  f : l.from_ ≤ 16384
  s : l.size ≤ 16384
  a : l.at_ ≤ l.from_ + l.size
  e : l.e < 18446744073709551616
  g : l.g < 18446744073709551616
  n : l.nx < 18446744073709551616
theorem Lg.zero_ok : Lg.zero.ok := ⟨by decide, by decide, by decide, by decide, by decide, by decide⟩
theorem lg_one (l : Lg) : ∀ v ∈ l.cs, v.oneCell' = true := by
  intro v hv
  simp only [Lg.cs, List.mem_cons, List.not_mem_nil, or_false] at hv
  rcases hv with rfl | rfl | rfl | rfl | rfl | rfl <;> rfl
theorem arrLog : ArrT Tryd.prog 44 Lg.zero.cs := (by kernel_rfl : (Tryd.prog.info? 44).map (fun i => (i.zero, i.size)) = some (some (.agg Lg.zero.cs.toArray), 6))
theorem logN : (Tryd.prog.info? 44).map (·.size) = some 6 := by kernel_rfl
theorem numN : (Tryd.prog.info? 27).map (·.size) = some 1 ∧ (Tryd.prog.info? 3).map (·.size) = some 1 := ⟨by kernel_rfl, by kernel_rfl⟩
theorem Blk.c6 {w : World} {g : Nat} {t : TypeId} {a b c d e f : Value} (h : Blk w g t [a, b, c, d, e, f]) : w.cell? ⟨g, 0, none⟩ = some a ∧ w.cell? ⟨g, 1, none⟩ = some b ∧ w.cell? ⟨g, 2, none⟩ = some c ∧ w.cell? ⟨g, 3, none⟩ = some d ∧ w.cell? ⟨g, 4, none⟩ = some e ∧ w.cell? ⟨g, 5, none⟩ = some f := ⟨h.cell 0, h.cell 1, h.cell 2, h.cell 3, h.cell 4, h.cell 5⟩

theorem inside_yes (d : DV) (f n k : Nat) (w : World) (h : f + n ≤ d.n) (hk : k ≤ n) (hn : d.n ≤ 16384) :
    Calls Tryd.prog 37 #[d.v, .int .i64 f, .int .i64 n, .int .i64 k] w fun e w' => e = .returned (.bool true) ∧ Below w.heap.size w w' := by
  have h1 : (n : Int) ≥ (k : Int) := by omega
  have h2 : (f : Int) ≥ 0 := by omega
  have h3 : (n : Int) ≤ (d.n : Int) := by omega
  have h4 : (f : Int) ≤ (d.n : Int) - (n : Int) := by omega
  rw [show d.v = Value.agg #[.int .i64 d.n, .pointer d.s, .pointer d.c, .pointer d.l, .int .i64 d.m] from rfl]
  go_enter Tryd.func37, Tryd.ntmps37
  go_wp2_with fail
  have hP : Blk (w.alloc (.cells #[.int .i64 d.n, .pointer d.s, .pointer d.c, .pointer d.l, .int .i64 d.m] 38)) w.heap.size 38 [.int .i64 d.n, .pointer d.s, .pointer d.c, .pointer d.l, .int .i64 d.m] := Blk.new w _ _
  have hB : Below w.heap.size w (w.alloc (.cells #[.int .i64 d.n, .pointer d.s, .pointer d.c, .pointer d.l, .int .i64 d.m] 38)) := (Below.refl _ _).alloc (Nat.le_refl _) _
  have hS : (w.alloc (.cells #[.int .i64 d.n, .pointer d.s, .pointer d.c, .pointer d.l, .int .i64 d.m] 38)).heap.size = w.heap.size + 1 := by simp
  generalize (w.alloc (.cells #[.int .i64 d.n, .pointer d.s, .pointer d.c, .pointer d.l, .int .i64 d.m] 38)) = w1 at hP hB hS ⊢
  refine (sectors_any d _).mono ?_
  rintro e w2 ⟨rfl, b2⟩
  have k2 := hP.keep b2
  have B2 := hB.trans (b2.mono hB.size)
  clear hP hB hS b2
  obtain ⟨x0', x1', x2', x3', x4'⟩ := k2.c5
  have hg := k2.lt
  go_wp2_with fail
  refine (sectors_any d _).mono ?_
  rintro e w3 ⟨rfl, b3⟩
  go_wp2_with fail
  go_ret
  exact ⟨rfl, B2.trans (b3.mono B2.size)⟩
theorem inside_no (d : DV) (f n : Int) (k : Nat) (w : World) (h : n < k ∨ f < 0 ∨ (d.n : Int) < f + n) (hn : d.n ≤ 16384) (h0 : -1000000 ≤ f) (hf : f ≤ 1000000) (h1 : -1000000 ≤ n) (hs : n ≤ 1000000) (hk : k ≤ 2) :
    Calls Tryd.prog 37 #[d.v, .int .i64 f, .int .i64 n, .int .i64 k] w fun e w' => e = .returned (.bool false) ∧ Below w.heap.size w w' := by
  rw [show d.v = Value.agg #[.int .i64 d.n, .pointer d.s, .pointer d.c, .pointer d.l, .int .i64 d.m] from rfl]
  by_cases q1 : n < (k : Int)
  · have q2 : decide ((k : Int) ≤ n) = false := decide_eq_false (by omega)
    clear h
    go_enter Tryd.func37, Tryd.ntmps37
    go_wp2_with fail
    go_ret
    exact ⟨rfl, (Below.refl _ _).alloc (Nat.le_refl _) _⟩
  · have p1 : n ≥ (k : Int) := by omega
    by_cases q2 : f < 0
    · have p2 : decide ((0 : Int) ≤ f) = false := decide_eq_false (by omega)
      clear h
      go_enter Tryd.func37, Tryd.ntmps37
      go_wp2_with fail
      go_ret
      exact ⟨rfl, (Below.refl _ _).alloc (Nat.le_refl _) _⟩
    · have p2 : f ≥ 0 := by omega
      by_cases q3 : (d.n : Int) < n
      · have p3 : decide (n ≤ (d.n : Int)) = false := decide_eq_false (by omega)
        clear h
        go_enter Tryd.func37, Tryd.ntmps37
        go_wp2_with fail
        have hP : Blk (w.alloc (.cells #[.int .i64 d.n, .pointer d.s, .pointer d.c, .pointer d.l, .int .i64 d.m] 38)) w.heap.size 38 [.int .i64 d.n, .pointer d.s, .pointer d.c, .pointer d.l, .int .i64 d.m] := Blk.new w _ _
        have hB : Below w.heap.size w (w.alloc (.cells #[.int .i64 d.n, .pointer d.s, .pointer d.c, .pointer d.l, .int .i64 d.m] 38)) := (Below.refl _ _).alloc (Nat.le_refl _) _
        have hS : (w.alloc (.cells #[.int .i64 d.n, .pointer d.s, .pointer d.c, .pointer d.l, .int .i64 d.m] 38)).heap.size = w.heap.size + 1 := by simp
        generalize (w.alloc (.cells #[.int .i64 d.n, .pointer d.s, .pointer d.c, .pointer d.l, .int .i64 d.m] 38)) = w1 at hP hB hS ⊢
        refine (sectors_any d _).mono ?_
        rintro e w2 ⟨rfl, b2⟩
        go_wp2_with fail
        go_ret
        exact ⟨rfl, hB.trans (b2.mono hB.size)⟩
      · have p3 : n ≤ (d.n : Int) := by omega
        have p4 : decide (f ≤ (d.n : Int) - n) = false := decide_eq_false (by omega)
        clear h
        go_enter Tryd.func37, Tryd.ntmps37
        go_wp2_with fail
        have hP : Blk (w.alloc (.cells #[.int .i64 d.n, .pointer d.s, .pointer d.c, .pointer d.l, .int .i64 d.m] 38)) w.heap.size 38 [.int .i64 d.n, .pointer d.s, .pointer d.c, .pointer d.l, .int .i64 d.m] := Blk.new w _ _
        have hB : Below w.heap.size w (w.alloc (.cells #[.int .i64 d.n, .pointer d.s, .pointer d.c, .pointer d.l, .int .i64 d.m] 38)) := (Below.refl _ _).alloc (Nat.le_refl _) _
        have hS : (w.alloc (.cells #[.int .i64 d.n, .pointer d.s, .pointer d.c, .pointer d.l, .int .i64 d.m] 38)).heap.size = w.heap.size + 1 := by simp
        generalize (w.alloc (.cells #[.int .i64 d.n, .pointer d.s, .pointer d.c, .pointer d.l, .int .i64 d.m] 38)) = w1 at hP hB hS ⊢
        refine (sectors_any d _).mono ?_
        rintro e w2 ⟨rfl, b2⟩
        have k2 := hP.keep b2
        have B2 := hB.trans (b2.mono hB.size)
        clear hP hB hS b2
        obtain ⟨x0', x1', x2', x3', x4'⟩ := k2.c5
        have hg := k2.lt
        go_wp2_with fail
        refine (sectors_any d _).mono ?_
        rintro e w3 ⟨rfl, b3⟩
        go_wp2_with fail
        go_ret
        exact ⟨rfl, B2.trans (b3.mono B2.size)⟩
/-- the room behind the last record -/
def Lg.left (l : Lg) : Nat := l.from_ + l.size - l.at_
def Lg.room (l : Lg) : Int := if 8192 ≤ 80 * (l.left : Int) - 8 then 8192 else 80 * (l.left : Int) - 8
theorem left_any (l : Lg) (w : World) (hl : l.ok) :
    Calls Tryd.prog 47 #[l.v] w fun e w' => e = .returned (.int .i64 l.left) ∧ Below w.heap.size w w' := by
  have h1 := hl.f
  have h2 := hl.s
  have h3 := hl.a
  have e1 := IntWalk.i64_in ((l.from_ : Int) + (l.size : Int)) (by omega)
  have e2 := IntWalk.i64_in ((l.from_ : Int) + (l.size : Int) - (l.at_ : Int)) (by omega)
  have e3 : ((l.from_ : Int) + (l.size : Int) - (l.at_ : Int)) = (l.left : Int) := by unfold Lg.left; omega
  rw [show l.v = .agg #[.int .i64 l.from_, .int .i64 l.size, .int .u64 l.e, .int .u64 l.g, .int .u64 l.nx, .int .i64 l.at_] from rfl]
  go_enter Tryd.func47, Tryd.ntmps47
  go_wp2_with fail
  go_ret
  refine ⟨?_, (Below.refl _ _).alloc (Nat.le_refl _) _⟩
  rw [← e3]
  rfl
theorem room_any (l : Lg) (w : World) (hl : l.ok) :
    Calls Tryd.prog 25 #[l.v] w fun e w' => e = .returned (.int .i64 l.room) ∧ Below w.heap.size w w' := by
  have h1 := hl.f
  have h2 := hl.s
  have hlt : l.left ≤ 32768 := by unfold Lg.left; omega
  have HL := hid (fun w => left_any l w hl)
  unfold Lg.v at HL
  unfold Lg.room
  generalize l.left = k at *
  have e1 := IntWalk.i64_in (80 * (k : Int)) (by omega)
  have e2 := IntWalk.i64_in (80 * (k : Int) - 8) (by omega)
  rw [show l.v = .agg #[.int .i64 l.from_, .int .i64 l.size, .int .u64 l.e, .int .u64 l.g, .int .u64 l.nx, .int .i64 l.at_] from rfl]
  go_enter Tryd.func25, Tryd.ntmps25
  go_wp2_with fail
  refine (HL.out _).mono ?_
  rintro e w2 ⟨rfl, b2⟩
  go_wp2_with fail
  all_goals (
    go_ret
    refine ⟨?_, ((Below.refl _ _).alloc (Nat.le_refl _) _).trans (b2.mono (by simp))⟩
    first | rfl | exact congrArg (fun z : Int => Ending.returned (Value.int .i64 z)) (by omega) | (rw [if_pos (by omega)]; rfl) | (rw [if_neg (by omega)]; rfl))
theorem next_any (l : Lg) (w : World) :
    Calls Tryd.prog 17 #[l.v] w fun e w' => e = .returned (.int .u64 l.nx) ∧ Below w.heap.size w w' := by
  rw [show l.v = .agg #[.int .i64 l.from_, .int .i64 l.size, .int .u64 l.e, .int .u64 l.g, .int .u64 l.nx, .int .i64 l.at_] from rfl]
  go_enter Tryd.func17, Tryd.ntmps17
  go_wp2_with fail
  go_ret
  exact ⟨rfl, (Below.refl _ _).alloc (Nat.le_refl _) _⟩
end Go.Proofs.YtlokfndonjldpaaDoor
