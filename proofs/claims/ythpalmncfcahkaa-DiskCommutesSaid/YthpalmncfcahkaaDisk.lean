/- Disks: what they are, and what of them reads in memory. Conditions: none. -/
import Derived.Test.YthpalmncfcahkaaWith
set_option linter.unusedSimpArgs false
set_option linter.unusedVariables false
namespace Go.Proofs.Ythpalmncfcahkaa
open Go.RowKit

/-- a disk: its number of sectors, what is persistent, and the unsynced writes, the newest first -/
structure Dk where
  (n : Nat) (S : Secs) (W : List (Nat × List UInt8))
def Dk.cur (D : Dk) : Secs := D.W.foldr (fun x f => upd f x.1 x.2) D.S
def Dk.write (D : Dk) (i : Nat) (b : List UInt8) : Dk := ⟨D.n, D.S, (i, b) :: D.W⟩
def Dk.sync (D : Dk) : Dk := ⟨D.n, D.cur, []⟩
def Dk.new (n : Nat) : Dk := ⟨n, fun _ => zero128, []⟩
theorem Dk.cur_write (D : Dk) (i : Nat) (b : List UInt8) : (D.write i b).cur = upd D.cur i b := rfl
theorem Dk.cur_sync (D : Dk) : D.sync.cur = D.cur := rfl

/-- the list of writes in memory -/
def Wl (w : World) : Option Addr → List (Nat × List UInt8) → Prop
  | p, [] => p = none
  | p, (i, s) :: r => ∃ g q gs, p = some ⟨g, 0, none⟩ ∧ Blk w g 70 [.pointer q, .int .i64 i, .pointer (some ⟨gs, 0, none⟩)] ∧ BlkB w gs 65 s ∧ s.length = 128 ∧ Wl w q r
theorem Wl.kept {w w' : World} (hb : Kept w w') : ∀ {l : List (Nat × List UInt8)} {p : Option Addr}, Wl w p l → Wl w' p l
  | [], _, h => h
  | (i, s) :: r, _, ⟨g, q, gs, h1, h2, h3, h4, h5⟩ => ⟨g, q, gs, h1, hb.blk _ _ _ (.inr (.inr (.inr (.inr rfl)))) h2, hb.blk _ _ _ (.inr (.inr (.inr (.inl rfl)))) h3, h4, Wl.kept hb h5⟩
theorem Wl.same {w : World} : ∀ {l l' : List (Nat × List UInt8)} {p : Option Addr}, Wl w p l → Wl w p l' → l = l'
  | [], [], _, _, _ => rfl
  | [], (_, _) :: _, _, h, ⟨_, _, _, h1, _⟩ => by
    have h' : _ = none := h
    rw [h'] at h1; cases h1
  | (_, _) :: _, [], _, ⟨_, _, _, h1, _⟩, h => by
    have h' : _ = none := h
    rw [h'] at h1; cases h1
  | (i, s) :: r, (i', s') :: r', _, ⟨g, q, gs, h1, h2, h3, h4, h5⟩, ⟨g', q', gs', h1', h2', h3', h4', h5'⟩ => by
    subst h1
    cases h1'
    have e := Blk.same h2 h2'
    simp only [List.cons.injEq, Value.pointer.injEq, Value.int.injEq, Option.some.injEq, Addr.mk.injEq, true_and, and_true] at e
    obtain ⟨rfl, hi, rfl⟩ := e
    obtain rfl : i = i' := by omega
    rw [byV_inj (Blk.same h3 h3'), Wl.same h5 h5']

/-- a disk as a value -/
structure DV where
  (n : Nat) (s c l : Option Addr) (m : Nat)
def DV.cs (d : DV) : List Value := [.int .i64 d.n, .pointer d.s, .pointer d.c, .pointer d.l, .int .i64 d.m]
def DV.v (d : DV) : Value := .agg #[.int .i64 d.n, .pointer d.s, .pointer d.c, .pointer d.l, .int .i64 d.m]
def DV.zero : DV := ⟨0, none, none, none, 0⟩
structure DkV (w : World) (d : DV) (D : Dk) : Prop where
  n : d.n = D.n
  hn : D.n ≤ 16384
  s : Tree w d.s D.S
  c : Tree w d.c D.cur
  l : Wl w d.l D.W
  m : d.m = D.W.length
  b : ∀ x ∈ D.W, x.1 < D.n
theorem DkV.kept {w w' : World} {d : DV} {D : Dk} (h : DkV w d D) (hb : Kept w w') : DkV w' d D := ⟨h.n, h.hn, h.s.kept hb, h.c.kept hb, h.l.kept hb, h.m, h.b⟩
theorem DkV.keep {w w' : World} {d : DV} {D : Dk} (h : DkV w d D) (hb : Below w.heap.size w w') : DkV w' d D := h.kept (.below hb)
theorem notDk : ¬ dkT 25 := by unfold dkT; decide
theorem DkV.new (w : World) (n : Nat) (hn : n ≤ 16384) : DkV w ⟨n, none, none, none, 0⟩ (Dk.new n) :=
  ⟨rfl, hn, Tree.nil (fun _ _ => rfl), Tree.nil (fun _ _ => rfl), rfl, rfl, fun _ h => by cases h⟩
theorem DkV.len {w : World} {d : DV} {D : Dk} (h : DkV w d D) {i : Nat} (hi : i < D.n) : (D.cur i).length = 128 := h.c.len i (by have := h.hn; omega)
theorem arrDisk : ArrT Try.prog 25 DV.zero.cs := (by kernel_rfl : (Try.prog.info? 25).map (fun i => (i.zero, i.size)) = some (some (.agg DV.zero.cs.toArray), 5))
theorem diskN : (Try.prog.info? 25).map (·.size) = some 5 := by kernel_rfl
theorem arrWrite : (Try.prog.info? 70).map (·.size) = some 3 := by kernel_rfl

theorem new_ok (n : Nat) (w : World) (h0 : 1 ≤ n) (h1 : n ≤ 16384) :
    Calls Try.prog 9 #[.int .i64 n] w fun e w' => e = .returned (.tuple #[(⟨n, none, none, none, 0⟩ : DV).v, .int .i64 0]) ∧ Below w.heap.size w w' := by
  go_enter Try.func9, Try.ntmps9
  go_wp2_with fail
  refine bodyPost_ret (v := .tuple #[(⟨n, none, none, none, 0⟩ : DV).v, .int .i64 0]) (by simp [results, Try.results9, go_sem]; rfl) rfl ⟨rfl, (Below.refl _ _).alloc (Nat.le_refl _) _⟩
theorem new_bad (n : Int) (w : World) (h : n < 1 ∨ 16384 < n) :
    Calls Try.prog 9 #[.int .i64 n] w fun e w' => e = .returned (.tuple #[DV.zero.v, .int .i64 3]) ∧ Below w.heap.size w w' := by
  by_cases h1 : n < 1
  · go_enter Try.func9, Try.ntmps9
    go_wp2_with fail
    refine bodyPost_ret (v := .tuple #[DV.zero.v, .int .i64 3]) (by simp [results, Try.results9, go_sem]; rfl) rfl ⟨rfl, (Below.refl _ _).alloc (Nat.le_refl _) _⟩
  · have h2 : n > 16384 := by omega
    clear h
    go_enter Try.func9, Try.ntmps9
    go_wp2_with fail
    refine bodyPost_ret (v := .tuple #[DV.zero.v, .int .i64 3]) (by simp [results, Try.results9, go_sem]; rfl) rfl ⟨rfl, (Below.refl _ _).alloc (Nat.le_refl _) _⟩
theorem sectors_any (d : DV) (w : World) :
    Calls Try.prog 11 #[d.v] w fun e w' => e = .returned (.int .i64 d.n) ∧ Below w.heap.size w w' := by
  unfold DV.v
  go_enter Try.func11, Try.ntmps11
  go_wp2_with fail
  go_ret
  exact ⟨rfl, (Below.refl _ _).alloc (Nat.le_refl _) _⟩
theorem pending_any (d : DV) (w : World) :
    Calls Try.prog 24 #[d.v] w fun e w' => e = .returned (.int .i64 d.m) ∧ Below w.heap.size w w' := by
  unfold DV.v
  go_enter Try.func24, Try.ntmps24
  go_wp2_with fail
  go_ret
  exact ⟨rfl, (Below.refl _ _).alloc (Nat.le_refl _) _⟩
def DV.sync (d : DV) : DV := ⟨d.n, d.c, d.c, none, 0⟩
theorem DkV.sync {w : World} {d : DV} {D : Dk} (h : DkV w d D) : DkV w d.sync D.sync := ⟨h.n, h.hn, h.c, h.c, rfl, rfl, fun _ h => by cases h⟩
theorem sync_any (d : DV) (w : World) :
    Calls Try.prog 16 #[d.v] w fun e w' => e = .returned d.sync.v ∧ Below w.heap.size w w' := by
  unfold DV.v
  go_enter Try.func16, Try.ntmps16
  go_wp2_with fail
  refine bodyPost_ret (v := d.sync.v) (by simp [results, Try.results16, go_sem]; rfl) rfl ⟨rfl, ((Below.refl _ _).alloc (Nat.le_refl _) _).alloc (by simp) _⟩
theorem read_bad (d : DV) (i : Int) (w : World) (h : i < 0 ∨ (d.n : Int) ≤ i) :
    Calls Try.prog 12 #[d.v, .int .i64 i] w fun e w' => e = .returned (.tuple #[.slice none 0 0, .int .i64 3]) ∧ Below w.heap.size w w' := by
  unfold DV.v
  by_cases h1 : i < 0
  · clear h
    go_enter Try.func12, Try.ntmps12
    go_wp2_with fail
    go_ret2
    exact ⟨rfl, (Below.refl _ _).alloc (Nat.le_refl _) _⟩
  · have h2 : i ≥ (d.n : Int) := by omega
    clear h
    go_enter Try.func12, Try.ntmps12
    go_wp2_with fail
    go_ret2
    exact ⟨rfl, (Below.refl _ _).alloc (Nat.le_refl _) _⟩
end Go.Proofs.Ythpalmncfcahkaa
