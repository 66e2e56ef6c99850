/- The reference's states as values; Room, walked. Conditions: those of each theorem. -/
import Derived.Test.YtlokfndonjldpaaDoorRefRec
set_option linter.unusedSimpArgs false
set_option linter.unusedVariables false
namespace Go.Proofs.YtlokfndonjldpaaDoor
open Go.RowKit

/-- a state of the reference -/
structure Stt where
  (e g nx sec : Nat)
def Stt.cs (s : Stt) : List Value := [.int .u64 s.e, .int .u64 s.g, .int .u64 s.nx, .int .i64 s.sec]
def Stt.v (s : Stt) : Value := .agg #[.int .u64 s.e, .int .u64 s.g, .int .u64 s.nx, .int .i64 s.sec]
def Stt.zero : Stt := ⟨0, 0, 0, 0⟩
theorem st_one (s : Stt) : ∀ v ∈ s.cs, v.oneCell' = true := by
  intro v hv
  simp only [Stt.cs, List.mem_cons, List.not_mem_nil, or_false] at hv
  rcases hv with rfl | rfl | rfl | rfl <;> rfl
theorem arrSt : ArrT Tryd.prog 49 Stt.zero.cs := (by kernel_rfl : (Tryd.prog.info? 49).map (fun i => (i.zero, i.size)) = some (some (.agg Stt.zero.cs.toArray), 4))
theorem stN : (Tryd.prog.info? 49).map (·.size) = some 4 := by kernel_rfl
/-- the room of k sectors -/
def roomOf (k : Nat) : Int := if 8192 ≤ 80 * (k : Int) - 8 then 8192 else 80 * (k : Int) - 8
theorem Lg.room_of (l : Lg) : l.room = roomOf l.left := rfl
theorem refRoom_any (s : Stt) (n : Nat) (w : World) (h : s.sec ≤ n) (hn : n ≤ 100000) :
    Calls Tryd.prog 22 #[s.v, .int .i64 n] w fun e w' => e = .returned (.int .i64 (roomOf (n - s.sec))) ∧ Below w.heap.size w w' := by
  have e1 := IntWalk.i64_in ((n : Int) - (s.sec : Int)) (by omega)
  have e2 := IntWalk.i64_in (((n : Int) - (s.sec : Int)) * 80) (by omega)
  have e3 := IntWalk.i64_in (((n : Int) - (s.sec : Int)) * 80 - 8) (by omega)
  rw [show s.v = .agg #[.int .u64 s.e, .int .u64 s.g, .int .u64 s.nx, .int .i64 s.sec] from rfl]
  by_cases hb : ((n : Int) - (s.sec : Int)) * 80 - 8 > 8192
  · go_enter Tryd.func22, Tryd.ntmps22
    go_wp2_with fail
    go_ret
    refine ⟨?_, (Below.refl _ _).alloc (Nat.le_refl _) _⟩
    unfold roomOf
    rw [if_pos (by omega)]
    rfl
  · go_enter Tryd.func22, Tryd.ntmps22
    go_wp2_with fail
    go_ret
    refine ⟨?_, (Below.refl _ _).alloc (Nat.le_refl _) _⟩
    have : roomOf (n - s.sec) = ((n : Int) - (s.sec : Int)) * 80 - 8 := by unfold roomOf; split <;> omega
    rw [this]
    rfl
end Go.Proofs.YtlokfndonjldpaaDoor
