/- The bitmap of package pager: has, flip, walked. Conditions: the bytes read. Pagers as values; slot, place, uses, Disk of package pager, walked. Conditions: those of each theorem. -/
import Derived.Test.YtanglofabkbllaaDoorDisk
import Derived.Test.YtanglofabkbllaaDoorVar
import Derived.Deep.Cut
set_option linter.unusedSimpArgs false
set_option linter.unusedVariables false
namespace Go.Proofs.YtanglofabkbllaaDoor
open Go.RowKit

/-- bit i of bytes -/
def bitB (b : UInt8) (k : Nat) : Bool := b.toNat / 2 ^ k % 2 == 1
def bit (u : List UInt8) (i : Nat) : Bool := bitB (u[i / 8]?.getD 0) (i % 8)
theorem and_bit : ∀ n : Fin 256, ∀ r : Fin 8, (bits .and .u8 (((n.1 : Nat) : Int) / 2 ^ r.1) 1 == 1) = (n.1 / 2 ^ r.1 % 2 == 1) := by decide +kernel
theorem has_bit (x : UInt8) {r : Nat} (hr : r < 8) : (bits .and .u8 (N8 x / 2 ^ r) 1 == 1) = bitB x r := and_bit ⟨x.toNat, x.toNat_lt⟩ ⟨r, hr⟩
set_option maxRecDepth 100000 in
theorem has_any (g off : Nat) (u : List UInt8) (i : Nat) (w : World) (hu : u.length = 128) (hi : i < 1024) (hc : ∀ k x, u[k]? = some x → w.cell? ⟨g, off + k, none⟩ = some (byV x)) :
    Calls Tryd.prog 45 #[.pointer (some ⟨g, off, none⟩), .int .i64 i] w fun e w' => e = .returned (.bool (bit u i)) ∧ Below w.heap.size w w' := by
  obtain ⟨x, hx⟩ : ∃ x, u[i / 8]? = some x := ⟨_, List.getElem?_eq_getElem (by omega)⟩
  have c1 := hc _ _ hx
  have hb : bit u i = bitB x (i % 8) := by unfold bit; rw [hx]; rfl
  have e1 : (i : Int).tdiv 8 = ((i / 8 : Nat) : Int) := by rw [Int.tdiv_eq_ediv_of_nonneg (by omega)]; omega
  have e2 : (i : Int).tmod 8 = ((i % 8 : Nat) : Int) := by rw [Int.tmod_eq_emod_of_nonneg (by omega)]; omega
  have h8 : i / 8 < 128 := by omega
  have h9 : i % 8 < 8 := Nat.mod_lt _ (by omega)
  rw [hb]
  clear hc hx hb hu
  generalize i / 8 = q at *
  generalize i % 8 = r at *
  unfold byV at c1
  go_enter Tryd.func45, Tryd.ntmps45
  go_wp2_with fail
  go_ret
  rw [has_bit x h9]
  exact ⟨rfl, Below.refl _ _⟩
/-- bit i turned -/
def turn (u : List UInt8) (i : Nat) : List UInt8 := u.set (i / 8) ((u[i / 8]?.getD 0) ^^^ (1 <<< UInt8.ofNat (i % 8)))
theorem turn_len (u : List UInt8) (i : Nat) : (turn u i).length = u.length := by unfold turn; simp
theorem turn_bits : ∀ n : Fin 256, ∀ r k : Fin 8, (((UInt8.ofNat n.1 ^^^ (1 <<< UInt8.ofNat r.1)).toNat / 2 ^ k.1 % 2 == 1) = ((n.1 / 2 ^ k.1 % 2 == 1) ^^ (k.1 == r.1))) := by decide +kernel
theorem bit_turn (u : List UInt8) (i j : Nat) (hi : i / 8 < u.length) : bit (turn u i) j = (bit u j ^^ (j == i)) := by
  unfold bit turn
  rw [List.getElem?_set]
  by_cases hq : i / 8 = j / 8
  · rw [if_pos hq, if_pos hi, Option.getD_some, ← hq]
    have := turn_bits ⟨(u[i / 8]?.getD 0).toNat, UInt8.toNat_lt _⟩ ⟨i % 8, Nat.mod_lt _ (by omega)⟩ ⟨j % 8, Nat.mod_lt _ (by omega)⟩
    simp only [UInt8.ofNat_toNat] at this
    unfold bitB
    rw [this]
    congr 1
    rw [Bool.eq_iff_iff]
    simp
    omega
  · rw [if_neg hq]
    have : (j == i) = false := by rw [beq_eq_false_iff_ne]; intro h; exact hq (by rw [h])
    rw [this, Bool.xor_false]
theorem xor_val (x : UInt8) (r : Nat) (hr : r < 8) : bits .xor .u8 (N8 x) (2 ^ r) = N8 (x ^^^ (1 <<< UInt8.ofNat r)) := by
  have h : ∀ n : Fin 256, ∀ r : Fin 8, bits .xor .u8 ((n.1 : Nat) : Int) (2 ^ r.1) = (((UInt8.ofNat n.1 ^^^ (1 <<< UInt8.ofNat r.1)).toNat : Nat) : Int) := by decide +kernel
  have := h ⟨x.toNat, UInt8.toNat_lt _⟩ ⟨r, hr⟩
  dsimp only at this
  rw [UInt8.ofNat_toNat] at this
  exact this
theorem mid_of {cs : List Value} {u : List UInt8} {off : Nat} (hu : u.length = 128) (hcs : off + 128 ≤ cs.length) (hc : ∀ k x, u[k]? = some x → cs[off + k]? = some (byV x)) : cs = cs.take off ++ u.map byV ++ cs.drop (off + 128) := by
  have e : (cs.drop off).take 128 = u.map byV := by
    apply List.ext_getElem?
    intro k
    rw [List.getElem?_take, List.getElem?_drop, List.getElem?_map]
    by_cases hk : k < 128
    · rw [if_pos hk, hc k u[k] (List.getElem?_eq_getElem (by omega)), List.getElem?_eq_getElem (show k < u.length by omega)]
      rfl
    · rw [if_neg hk, List.getElem?_eq_none (by omega)]
      rfl
  rw [← e, List.append_assoc, ← List.drop_drop, List.take_append_drop, List.take_append_drop]
theorem mid_set {cs : List Value} {u : List UInt8} {off q : Nat} {y : UInt8} (hu : u.length = 128) (hcs : off + 128 ≤ cs.length) (hc : ∀ k x, u[k]? = some x → cs[off + k]? = some (byV x)) (hq : q < 128) :
    cs.set (off + q) (byV y) = cs.take off ++ (u.set q y).map byV ++ cs.drop (off + 128) := by
  have h := mid_of hu hcs hc
  have hl : (cs.take off).length = off := by rw [List.length_take]; omega
  generalize cs.take off = a at *
  generalize cs.drop (off + 128) = b at *
  rw [h, List.append_assoc, List.set_append_right _ _ (by omega), hl, Nat.add_sub_cancel_left, List.set_append_left _ _ (by rw [List.length_map]; omega), List.map_set, List.append_assoc]
set_option maxRecDepth 100000 in
theorem flip_any (g off : Nat) (T : TypeId) (cs : List Value) (u : List UInt8) (i : Nat) (w : World) (hk : Blk w g T cs) (hu : u.length = 128) (hi : i < 1024) (hcs : off + 128 ≤ cs.length) (hc : ∀ k x, u[k]? = some x → cs[off + k]? = some (byV x)) :
    Calls Tryd.prog 47 #[.pointer (some ⟨g, off, none⟩), .int .i64 i] w fun e w' => e = .returned (.tuple #[]) ∧ Blk w' g T (cs.take off ++ (turn u i).map byV ++ cs.drop (off + 128)) ∧ w.grownBy w' (some g) := by
  obtain ⟨x, hx⟩ : ∃ x, u[i / 8]? = some x := ⟨_, List.getElem?_eq_getElem (by omega)⟩
  have c1 : w.cell? ⟨g, off + i / 8, none⟩ = some (byV x) := (hk.cell _).trans (hc _ _ hx)
  have e1 : (i : Int).tdiv 8 = ((i / 8 : Nat) : Int) := by rw [Int.tdiv_eq_ediv_of_nonneg (by omega)]; omega
  have e2 : (i : Int).tmod 8 = ((i % 8 : Nat) : Int) := by rw [Int.tmod_eq_emod_of_nonneg (by omega)]; omega
  have h8 : i / 8 < 128 := by omega
  have h9 : i % 8 < 8 := Nat.mod_lt _ (by omega)
  have ff := hk.frozen (off + i / 8)
  have ex := xor_val x (i % 8) h9
  have ep : (2 : Int) ^ (i % 8) % 256 = 2 ^ (i % 8) := (by decide : ∀ r : Fin 8, (2 : Int) ^ r.1 % 256 = 2 ^ r.1) ⟨i % 8, h9⟩
  have lg := hk.lt
  have HTq : Hid (turn u i = u.set (i / 8) (x ^^^ (1 <<< UInt8.ofNat (i % 8)))) := hid (by unfold turn; rw [hx]; rfl)
  generalize i / 8 = q at *
  generalize i % 8 = r at *
  unfold byV at c1
  go_enter Tryd.func47, Tryd.ntmps47
  go_wp2_with fail
  go_region
  go_wp2_with fail
  (first | refine bodyPost_ret (results_none rfl _ _ _) rfl ?_ | refine bodyPost_end (results_none rfl _ _ _) rfl ?_)
  have hs := hk.set_ (off + q) (byV (x ^^^ (1 <<< UInt8.ofNat r)))
  have hg := hk.setg (off + q) (byV (x ^^^ (1 <<< UInt8.ofNat r)))
  rw [mid_set hu hcs hc h8] at hs
  refine ⟨rfl, ?_, ⟨hg.os, hg.tape, hg.output, hg.size, hg.block⟩⟩
  have ht : turn u i = u.set q (x ^^^ (1 <<< UInt8.ofNat r)) := HTq.out
  rw [ht]
  exact hs
end Go.Proofs.YtanglofabkbllaaDoor
set_option linter.unusedSimpArgs false
set_option linter.unusedVariables false
namespace Go.Proofs.YtanglofabkbllaaDoor
open Go.RowKit

theorem two_boxes_r {w w3 : World} {T1 T2 : TypeId} {cs1 cs2 : List Value} (e : (w.alloc (.cells cs1.toArray T1)).alloc (.cells cs2.toArray T2) = w3) :
    Blk w3 w.heap.size T1 cs1 ∧ Blk w3 (w.heap.size + 1) T2 cs2 ∧ Below w.heap.size w w3 := by
  subst e
  exact two_boxes (Below.refl _ _)
structure Pgr where
  (d : DV) (sec pgs root num : Nat) (mt cu nu : List UInt8)
def Pgr.cs (p : Pgr) : List Value := [.int .i64 p.d.n, .pointer p.d.s, .pointer p.d.c, .pointer p.d.l, .int .i64 p.d.m, .int .i64 p.sec, .int .i64 p.pgs, .int .i64 p.root, .int .u64 p.num, .string ⟨p.mt.toArray⟩] ++ (p.cu.map byV ++ p.nu.map byV)
def Pgr.v (p : Pgr) : Value := .agg p.cs.toArray
def zeros128 : List UInt8 := List.replicate 128 0
def Pgr.zero : Pgr := ⟨DV.zero, 0, 0, 0, 0, [], zeros128, zeros128⟩
structure Pgr.ok (p : Pgr) : Prop where
  cu : p.cu.length = 128
  nu : p.nu.length = 128
  sec : p.sec ≤ 16384
  pgs : p.pgs ≤ 1023
  num : p.num < 18446744073709551616
  mt : p.mt.length ≤ 256
section
variable {p : Pgr} {w : World} {g : Nat} {t : TypeId}
theorem Pgr.cs_len (h : p.ok) : p.cs.length = 266 := by
  unfold Pgr.cs
  simp [h.cu, h.nu]
theorem Pgr.c10 (hk : Blk w g t p.cs) : w.cell? ⟨g, 0, none⟩ = some (.int .i64 p.d.n) ∧ w.cell? ⟨g, 1, none⟩ = some (.pointer p.d.s) ∧ w.cell? ⟨g, 2, none⟩ = some (.pointer p.d.c) ∧ w.cell? ⟨g, 3, none⟩ = some (.pointer p.d.l) ∧ w.cell? ⟨g, 4, none⟩ = some (.int .i64 p.d.m) ∧
    w.cell? ⟨g, 5, none⟩ = some (.int .i64 p.sec) ∧ w.cell? ⟨g, 6, none⟩ = some (.int .i64 p.pgs) ∧ w.cell? ⟨g, 7, none⟩ = some (.int .i64 p.root) ∧ w.cell? ⟨g, 8, none⟩ = some (.int .u64 p.num) ∧ w.cell? ⟨g, 9, none⟩ = some (.string ⟨p.mt.toArray⟩) :=
  ⟨hk.cell 0, hk.cell 1, hk.cell 2, hk.cell 3, hk.cell 4, hk.cell 5, hk.cell 6, hk.cell 7, hk.cell 8, hk.cell 9⟩
theorem Pgr.csU (p : Pgr) (k : Nat) (x : UInt8) (h : p.cu[k]? = some x) : p.cs[10 + k]? = some (byV x) := by
  have hl := (List.getElem?_eq_some_iff.1 h).1
  unfold Pgr.cs
  rw [List.getElem?_append_right (by simp), List.getElem?_append_left (by simp; omega), show 10 + k - _ = k by simp, List.getElem?_map, h]
  rfl
theorem Pgr.csN (p : Pgr) (hp : p.cu.length = 128) (k : Nat) (x : UInt8) (h : p.nu[k]? = some x) : p.cs[138 + k]? = some (byV x) := by
  have hl := (List.getElem?_eq_some_iff.1 h).1
  unfold Pgr.cs
  rw [List.getElem?_append_right (by simp; omega), List.getElem?_append_right (by simp; omega), show 138 + k - _ - _ = k by simp; omega, List.getElem?_map, h]
  rfl
end
set_option maxRecDepth 100000 in
theorem arrPgr : ArrT Tryd.prog 37 Pgr.zero.cs := (by kernel_rfl : (Tryd.prog.info? 37).map (fun i => (i.zero, i.size)) = some (some (.agg Pgr.zero.cs.toArray), 266))
theorem pgrN : (Tryd.prog.info? 37).map (·.size) = some 266 := by kernel_rfl

set_option maxRecDepth 100000 in
theorem slot_any (p : Pgr) (num : Nat) (w : World) (hp : p.ok) (hn : num < 18446744073709551616) :
    Calls Tryd.prog 42 #[p.v, .int .u64 num] w fun e w' => e = .returned (.int .i64 ((p.sec + 8 * (num % 2) : Nat) : Int)) ∧ Below w.heap.size w w' := by
  have hs := hp.sec
  unfold Pgr.v
  have hP : Blk (w.alloc (.cells p.cs.toArray 37)) w.heap.size 37 p.cs := Blk.new w _ _
  have hB : Below w.heap.size w (w.alloc (.cells p.cs.toArray 37)) := (Below.refl _ _).alloc (Nat.le_refl _) _
  obtain ⟨x0, x1, x2, x3, x4, x5, x6, x7, x8, x9⟩ := Pgr.c10 hP
  have e1 : (num : Int).tmod 2 = ((num % 2 : Nat) : Int) := by rw [Int.tmod_eq_emod_of_nonneg (by omega)]; omega
  go_enter Tryd.func42, Tryd.ntmps42
  go_wp2_with fail
  go_ret
  exact ⟨congrArg (fun z : Int => Ending.returned (Value.int .i64 z)) (by omega), hB⟩
set_option maxRecDepth 100000 in
theorem place_any (p : Pgr) (id : Nat) (w : World) (hp : p.ok) (hn : id ≤ 100000) :
    Calls Tryd.prog 46 #[p.v, .int .i64 id] w fun e w' => e = .returned (.int .i64 ((p.sec + 8 * (id + 1) : Nat) : Int)) ∧ Below w.heap.size w w' := by
  have hs := hp.sec
  unfold Pgr.v
  have hP : Blk (w.alloc (.cells p.cs.toArray 37)) w.heap.size 37 p.cs := Blk.new w _ _
  have hB : Below w.heap.size w (w.alloc (.cells p.cs.toArray 37)) := (Below.refl _ _).alloc (Nat.le_refl _) _
  obtain ⟨x0, x1, x2, x3, x4, x5, x6, x7, x8, x9⟩ := Pgr.c10 hP
  have e1 := IntWalk.i64_in ((id : Int) + 1) (by omega)
  have e2 := IntWalk.i64_in (8 * ((id : Int) + 1)) (by omega)
  have e3 := IntWalk.i64_in ((p.sec : Int) + 8 * ((id : Int) + 1)) (by omega)
  go_enter Tryd.func46, Tryd.ntmps46
  go_wp2_with fail
  go_ret
  exact ⟨congrArg (fun z : Int => Ending.returned (Value.int .i64 z)) (by omega), hB⟩
/-- whether a page is in use -/
def Pgr.uses (p : Pgr) (id : Int) : Bool := decide (1 ≤ id) && decide (id ≤ p.pgs) && bit p.nu id.toNat
set_option maxRecDepth 100000 in
theorem uses_any (p : Pgr) (id : Int) (w : World) (hp : p.ok) :
    Calls Tryd.prog 48 #[p.v, .int .i64 id] w fun e w' => e = .returned (.bool (p.uses id)) ∧ Below w.heap.size w w' := by
  have hs := hp.pgs
  have hcu := hp.cu
  have hnu := hp.nu
  unfold Pgr.v
  have hP : Blk (w.alloc (.cells p.cs.toArray 37)) w.heap.size 37 p.cs := Blk.new w _ _
  have hB : Below w.heap.size w (w.alloc (.cells p.cs.toArray 37)) := (Below.refl _ _).alloc (Nat.le_refl _) _
  obtain ⟨x0, x1, x2, x3, x4, x5, x6, x7, x8, x9⟩ := Pgr.c10 hP
  unfold Pgr.uses
  by_cases h1 : 1 ≤ id
  · by_cases h2 : id ≤ p.pgs
    · obtain ⟨i, rfl⟩ : ∃ i : Nat, id = i := ⟨id.toNat, by omega⟩
      have t1 : decide (1 ≤ (i : Int)) = true := by simpa using h1
      have t2 : decide ((i : Int) ≤ (p.pgs : Int)) = true := by simpa using h2
      have t3 : (i : Int) ≥ 1 := h1
      rw [t1, t2, Int.toNat_natCast, Bool.true_and, Bool.true_and]
      have R := has_any w.heap.size 138 p.nu i _ hnu (by omega) (fun k x hx => (hP.cell _).trans (p.csN hcu k x hx))
      go_enter Tryd.func48, Tryd.ntmps48
      go_wp2_with fail
      refine R.mono ?_
      rintro e w2 ⟨rfl, b2⟩
      go_wp2_with fail
      go_ret
      exact ⟨rfl, hB.trans (b2.mono hB.size)⟩
    · have t1 : decide (1 ≤ id) = true := by simpa using h1
      have t2 : decide (id ≤ (p.pgs : Int)) = false := by simpa using h2
      have t3 : id ≥ 1 := h1
      rw [t1, t2, Bool.true_and, Bool.false_and]
      go_enter Tryd.func48, Tryd.ntmps48
      go_wp2_with fail
      go_ret
      exact ⟨rfl, hB⟩
  · have t1 : decide (1 ≤ id) = false := by simpa using h1
    have t3 : ¬ id ≥ 1 := h1
    rw [t1, Bool.false_and, Bool.false_and]
    go_enter Tryd.func48, Tryd.ntmps48
    go_wp2_with fail
    go_ret
    exact ⟨rfl, hB⟩
set_option maxRecDepth 100000 in
theorem disk_any (p : Pgr) (w : World) :
    Calls Tryd.prog 26 #[p.v] w fun e w' => e = .returned p.d.v ∧ Below w.heap.size w w' := by
  unfold Pgr.v
  go_enter Tryd.func26, Tryd.ntmps26
  go_upto_region 1 with fail
  generalize hw3 : World.alloc (World.alloc w _) _ = v3
  obtain ⟨k2, k3, B⟩ := two_boxes_r (cs1 := p.cs) (cs2 := DV.zero.cs) hw3
  clear hw3
  obtain ⟨x0, x1, x2, x3, x4, x5, x6, x7, x8, x9⟩ := Pgr.c10 k2
  go_wp2_with ((with_reducible refine is_store 27 ?_); refine wp_storeB (w.heap.size + 1) _ _ p.d.cs k3 diskN rfl (dv_one _) rfl rfl ?_; intro w6 k6 r6; go_frame)
  obtain ⟨a0, a1, a2, a3, a4⟩ := k6.c5
  refine bodyPost_ret (v := p.d.v) (by simp [results, Tryd.results26, go_sem, a0, a1, a2, a3, a4]; rfl) rfl ⟨rfl, B.grown r6 B.size (fun k hk => by cases hk; omega)⟩
end Go.Proofs.YtanglofabkbllaaDoor
