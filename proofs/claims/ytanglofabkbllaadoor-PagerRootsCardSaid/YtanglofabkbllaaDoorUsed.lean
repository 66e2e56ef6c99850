/- Used, Room of package pager, walked. Conditions: the pager fits. Room of package pager, walked. Conditions: the pager fits. -/
import Derived.Test.YtanglofabkbllaaDoorRoot
import Derived.Test.YtanglofabkbllaaDoorStep
set_option linter.unusedSimpArgs false
set_option linter.unusedVariables false
namespace Go.Proofs.YtanglofabkbllaaDoor
open Go.RowKit

def intV (i : Nat) : Value := .int .i64 i
theorem intT : OneC Tryd.prog 48 3 (.int .i64 0) 8 :=
  ⟨Tryd.underlying48, info_parts (by kernel_rfl : (Tryd.prog.info? 3).map (fun i => (i.zero, i.size, i.bytes)) = some (some (.int .i64 0), 1, 8)), rfl⟩
/-- the pages in use -/
def Pgr.usedL (p : Pgr) (k : Nat) : List Nat := (List.range k).filter (bit p.nu)
theorem Pgr.usedL_succ (p : Pgr) (k : Nat) : p.usedL (k + 1) = p.usedL k ++ (if bit p.nu k then [k] else []) := by
  unfold Pgr.usedL
  rw [List.range_succ, List.filter_append]
  congr 1
  cases h : bit p.nu k <;> simp [h]
theorem Pgr.usedL_le (p : Pgr) (k : Nat) : (p.usedL k).length ≤ k := by
  unfold Pgr.usedL
  have := List.length_filter_le (bit p.nu) (List.range k)
  rwa [List.length_range] at this
set_option maxRecDepth 100000 in
set_option maxHeartbeats 2000000 in
theorem used_any (p : Pgr) (w : World) (hp : p.ok) :
    Calls Tryd.prog 18 #[p.v] w fun e w' => ∃ v, e = .returned v ∧ w'.ownsRow w.heap.size 3 1 v (p.usedL 1024).length ((p.usedL 1024).map intV) ∧ Below w.heap.size w w' := by
  have hcu := hp.cu
  have hnu := hp.nu
  unfold Pgr.v
  have hP : Blk (w.alloc (.cells p.cs.toArray 37)) w.heap.size 37 p.cs := Blk.new w _ _
  have hB : Below w.heap.size w (w.alloc (.cells p.cs.toArray 37)) := (Below.refl _ _).alloc (Nat.le_refl _) _
  go_enter Tryd.func18, Tryd.ntmps18
  go_wp2_with fail
  generalize w.alloc (.cells p.cs.toArray 37) = w1 at hP hB ⊢
  have hs1 := hB.size
  go_loopw [3, 5] (fun v i wr => ∃ k : Nat, k ≤ 1024 ∧ i = .int .i64 k ∧ wr.ownsRow w1.heap.size 3 1 v (p.usedL k).length ((p.usedL k).map intV) ∧ Below w1.heap.size w1 wr) (fun _ i _ => 1024 - (intOf i).toNat)
  case atStart => exact ⟨0, by omega, rfl, World.ownsRow_nil _ _ _ _, Below.refl _ _⟩
  case round =>
    obtain ⟨k, hk, rfl, hown, hbel⟩ := hrel
    have kP := hP.keep hbel
    by_cases hlt : k < 1024
    · have R := has_any w.heap.size 138 p.nu k wr hnu hlt (fun j x hx => (kP.cell _).trans (p.csN hcu j x hx))
      have hle := p.usedL_le k
      have hsu := p.usedL_succ k
      have HSU := hid hsu
      obtain ⟨bb, hbb⟩ : ∃ z, bit p.nu k = z := ⟨_, rfl⟩
      rw [hbb] at R HSU
      clear hsu hbb
      generalize p.usedL k = L at *
      go_wp2_with fail
      refine R.mono ?_
      rintro e w5 ⟨rfl, b5⟩
      have hb5 := hbel.trans (b5.mono hbel.size)
      have own5 := own_below hown b5
      have hs5 := hb5.size
      clear R kP hbel b5 hown
      cases bb with
      | false =>
        go_wp2_with fail
        go_roundw
        case measure => simp [intOf]; omega
        case rel =>
          refine ⟨k + 1, by omega, by go_num, ?_, hb5⟩
          rw [HSU.out]
          simpa using own5
      | true =>
        go_wp2_with (at_builtin; refine wp_appN rfl _ _ 48 rfl w1.heap.size 3 _ 1 8 intT.el u3 L.length (L.map intV) (own5.alloc _) rfl _ 1 1 [.int .i64 k] (RL.new w5 _ _ _ 1 1 rfl) rfl (by intro v hv; rw [List.mem_singleton] at hv; subst hv; rfl) (by unfold maxLen; omega) (by omega) (by simp; omega) ?_; intro v6 w6 hown6 r6 a6; go_frame)
        have ba : Below w5.heap.size w5 (w5.alloc (.cells #[.int .i64 (k : Int)] 3)) := (Below.refl _ _).alloc (Nat.le_refl _) _
        have hb6 := (hb5.trans (ba.mono hb5.size)).grown r6 (by simp; omega) (fun q hq => (own5.lt q hq).1)
        go_roundw
        case measure => simp [intOf]; omega
        case rel =>
          refine ⟨k + 1, by omega, by go_num, ?_, hb6⟩
          rw [HSU.out]
          simpa [intV] using hown6
    · obtain rfl : k = 1024 := by omega
      go_wp2_with fail
      go_ret
      exact ⟨_, rfl, own_base hown hs1, hB.trans (hbel.mono hB.size)⟩
end Go.Proofs.YtanglofabkbllaaDoor
set_option linter.unusedSimpArgs false
set_option linter.unusedVariables false
namespace Go.Proofs.YtanglofabkbllaaDoor
open Go.RowKit

/-- the pages of the first k that no tree holds -/
def Pgr.roomC (p : Pgr) (k : Nat) : Nat := (List.range k).countP (fun i => !bit p.nu (i + 1) && !bit p.cu (i + 1))
theorem Pgr.roomC_succ (p : Pgr) (k : Nat) : p.roomC (k + 1) = p.roomC k + (if (!bit p.nu (k + 1) && !bit p.cu (k + 1)) = true then 1 else 0) := by
  unfold Pgr.roomC
  rw [List.range_succ, List.countP_append]
  congr 1
  cases h : (!bit p.nu (k + 1) && !bit p.cu (k + 1)) <;> simp [h]
theorem Pgr.roomC_le (p : Pgr) (k : Nat) : p.roomC k ≤ k := by
  unfold Pgr.roomC
  have := List.countP_le_length (p := fun i => !bit p.nu (i + 1) && !bit p.cu (i + 1)) (l := List.range k)
  rwa [List.length_range] at this
set_option maxRecDepth 100000 in
set_option maxHeartbeats 2000000 in
theorem room_any (p : Pgr) (w : World) (hp : p.ok) :
    Calls Tryd.prog 19 #[p.v] w fun e w' => e = .returned (.int .i64 (p.roomC p.pgs)) ∧ Below w.heap.size w w' := by
  have hcu := hp.cu
  have hnu := hp.nu
  have hpg := hp.pgs
  unfold Pgr.v
  have hP : Blk (w.alloc (.cells p.cs.toArray 37)) w.heap.size 37 p.cs := Blk.new w _ _
  have hB : Below w.heap.size w (w.alloc (.cells p.cs.toArray 37)) := (Below.refl _ _).alloc (Nat.le_refl _) _
  obtain ⟨x0, x1, x2, x3, x4, x5, x6, x7, x8, x9⟩ := Pgr.c10 hP
  go_enter Tryd.func19, Tryd.ntmps19
  go_wp2_with fail
  clear x0 x1 x2 x3 x4 x5 x6 x7 x8 x9
  generalize w.alloc (.cells p.cs.toArray 37) = w1 at hP hB ⊢
  have hs1 := hB.size
  go_loopw [3, 7] (fun v i wr => ∃ k : Nat, k ≤ p.pgs ∧ i = .int .i64 k ∧ v = .int .i64 (p.roomC k) ∧ Below w1.heap.size w1 wr) (fun _ i _ => p.pgs - (intOf i).toNat)
  case atStart => exact ⟨0, by omega, rfl, rfl, Below.refl _ _⟩
  case round =>
    obtain ⟨k, hk, rfl, rfl, hbel⟩ := hrel
    have kP := hP.keep hbel
    by_cases hlt : k < p.pgs
    · have R := has_any w.heap.size 138 p.nu (k + 1) wr hnu (by omega) (fun j x hx => (kP.cell _).trans (p.csN hcu j x hx))
      have hle := p.roomC_le k
      have hsu := p.roomC_succ k
      have HSU := hid hsu
      obtain ⟨bb, hbb⟩ : ∃ z, bit p.nu (k + 1) = z := ⟨_, rfl⟩
      obtain ⟨bc, hbc⟩ : ∃ z, bit p.cu (k + 1) = z := ⟨_, rfl⟩
      rw [hbb] at R HSU
      rw [hbc] at HSU
      clear hsu hbb
      generalize p.roomC k = L at *
      have e1 := IntWalk.i64_in ((k : Int) + 1) (by omega)
      have e2 := IntWalk.i64_in ((L : Int) + 1) (by omega)
      go_wp2_with fail
      refine R.mono ?_
      rintro e w5 ⟨rfl, b5⟩
      have hb5 := hbel.trans (b5.mono hbel.size)
      have hs5 := hb5.size
      clear R kP hbel b5
      cases bb with
      | true =>
        go_wp2_with fail
        go_roundw
        case measure => simp [intOf]; omega
        case rel => exact ⟨k + 1, by omega, by go_num, by rw [HSU.out]; simp, hb5⟩
      | false =>
        have kP := hP.keep hb5
        have R := has_any w.heap.size 10 p.cu (k + 1) w5 hcu (by omega) (fun j x hx => (kP.cell _).trans (p.csU j x hx))
        rw [hbc] at R
        clear hbc
        go_wp2_with fail
        refine R.mono ?_
        rintro e w6 ⟨rfl, b6⟩
        have hb6 := hb5.trans (b6.mono hb5.size)
        clear R kP hb5 b6
        cases bc with
        | true =>
          go_wp2_with fail
          go_roundw
          case measure => simp [intOf]; omega
          case rel => exact ⟨k + 1, by omega, by go_num, by rw [HSU.out]; simp, hb6⟩
        | false =>
          go_wp2_with fail
          go_roundw
          case measure => simp [intOf]; omega
          case rel => exact ⟨k + 1, by omega, by go_num, by rw [HSU.out]; go_num, hb6⟩
    · obtain rfl : k = p.pgs := by omega
      go_wp2_with fail
      go_ret
      exact ⟨rfl, hB.trans (hbel.mono hB.size)⟩
end Go.Proofs.YtanglofabkbllaaDoor
