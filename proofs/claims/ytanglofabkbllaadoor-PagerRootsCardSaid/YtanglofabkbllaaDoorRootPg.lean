/- rootPage of package pager, walked. Conditions: the state fits. -/
import Derived.Test.YtanglofabkbllaaDoorPgF
import Derived.Test.YtanglofabkbllaaDoorRoot
import Derived.Test.YtanglofabkbllaaDoorDecode
set_option linter.unusedSimpArgs false
set_option linter.unusedVariables false
namespace Go.Proofs.YtanglofabkbllaaDoor
open Go.RowKit

/-- the cells of a state -/
def stCs (root num : Nat) (mt nu : List UInt8) : List Value := [.int .i64 root, .int .u64 num, .string ⟨mt.toArray⟩] ++ nu.map byV
/-- the body of a root page -/
def rootBody (root : Nat) (mt nu : List UInt8) : List UInt8 := [UInt8.ofNat root, UInt8.ofNat (root / 256), UInt8.ofNat mt.length, UInt8.ofNat (mt.length / 256)] ++ List.replicate 104 0 ++ mt ++ nu
theorem rootBody_len (root : Nat) (mt nu : List UInt8) : (rootBody root mt nu).length = 108 + mt.length + nu.length := by
  unfold rootBody
  simp
  omega
theorem root_cells (root : Nat) (mt nu : List UInt8) (C5 C7 C8 : List Value) (h4 : nu.length = 128) (e5 : List.replicate (108 + mt.length + 128) (Value.int IntKind.u8 0) = C5)
    (e7 : (((C5.set 0 (byV (UInt8.ofNat root))).set (0 + 1) (byV (UInt8.ofNat (root / 256)))).set 2 (byV (UInt8.ofNat mt.length))).set (2 + 1) (byV (UInt8.ofNat (mt.length / 256))) = C7)
    (e8 : C7.take 108 ++ mt.map byV ++ C7.drop (108 + mt.length) = C8) :
    C8.take (108 + mt.length) ++ (nu.map byV).take (min 128 128) ++ C8.drop (108 + mt.length + min 128 128) = (rootBody root mt nu).map byV := by
  have e6 : C7 = [byV (UInt8.ofNat root), byV (UInt8.ofNat (root / 256)), byV (UInt8.ofNat mt.length), byV (UInt8.ofNat (mt.length / 256))] ++ List.replicate 104 (byV 0) ++ List.replicate (mt.length + 128) (byV 0) := by
    rw [← e7, ← e5, show 108 + mt.length + 128 = (104 + (mt.length + 128)) + 1 + 1 + 1 + 1 by omega, List.append_assoc, List.replicate_append_replicate]
    simp only [List.replicate_succ, List.set_cons_zero, List.set_cons_succ]
    rfl
  have e9 : C7.take 108 = [byV (UInt8.ofNat root), byV (UInt8.ofNat (root / 256)), byV (UInt8.ofNat mt.length), byV (UInt8.ofNat (mt.length / 256))] ++ List.replicate 104 (byV 0) := by
    rw [e6]
    exact List.take_left' (by simp)
  rw [e9] at e8
  have l1 : ([byV (UInt8.ofNat root), byV (UInt8.ofNat (root / 256)), byV (UInt8.ofNat mt.length), byV (UInt8.ofNat (mt.length / 256))] ++ List.replicate 104 (byV 0) ++ mt.map byV).length = 108 + mt.length := by simp; omega
  have l8 : C8.length = 108 + mt.length + 128 := by
    rw [← e8, List.length_append, l1, e6]
    simp
    omega
  rw [List.drop_of_length_le (by omega), List.append_nil, Nat.min_self, List.take_of_length_le (l := nu.map byV) (by simp [h4]), ← e8, List.take_left' l1]
  unfold rootBody
  simp only [List.map_append, List.map_replicate, List.map_cons, List.map_nil, List.append_assoc]
set_option maxRecDepth 100000 in
set_option maxHeartbeats 4000000 in
theorem rootPage_any (root num : Nat) (mt nu : List UInt8) (w : World) (h1 : root ≤ 1023) (h2 : num < 18446744073709551616) (h3 : mt.length ≤ 256) (h4 : nu.length = 128) :
    Calls Tryd.prog 43 #[.agg (stCs root num mt nu).toArray] w fun e w' => ∃ q : Pg, e = .returned q.v ∧ q.ok w' ∧ q.id = 0 ∧ q.stamp = num ∧ q.kind = 2 ∧ q.l = rootBody root mt nu ∧ Below w.heap.size w w' := by
  have hP : Blk (w.alloc (.cells (stCs root num mt nu).toArray 35)) w.heap.size 35 (stCs root num mt nu) := Blk.new w _ _
  have hB : Below w.heap.size w (w.alloc (.cells (stCs root num mt nu).toArray 35)) := (Below.refl _ _).alloc (Nat.le_refl _) _
  have hs : (w.alloc (.cells (stCs root num mt nu).toArray 35)).heap.size = w.heap.size + 1 := by simp
  have c3 : ∀ wx, Blk wx w.heap.size 35 (stCs root num mt nu) → wx.cell? ⟨w.heap.size, 0, none⟩ = some (.int .i64 root) ∧ wx.cell? ⟨w.heap.size, 1, none⟩ = some (.int .u64 num) ∧ wx.cell? ⟨w.heap.size, 2, none⟩ = some (.string ⟨mt.toArray⟩) := fun wx h => ⟨h.cell 0, h.cell 1, h.cell 2⟩
  go_enter Tryd.func43, Tryd.ntmps43
  go_wp2_with (first
    | ((with_reducible refine is_alloc 85 ?_); refine wp_allocN (w.heap.size + 1) hs _ arrPg ?_; intro w2 k2 b2 s2; go_frame; have kP := hP.below b2 (by omega); have hB2 := hB.trans (b2.mono (by omega)); obtain ⟨z0, z1, z2⟩ := c3 _ kP; clear hP hB)
    | (at_make; go_loud (refine wp_make _ rfl _ _ 40 rfl w2.heap.size 5 _ 1 bytesT rfl .i64 .i64 _ _ (108 + mt.length + 128) rfl rfl (by go_num) (by go_num) (by omega) (by unfold maxLen; omega) (Nat.le_refl _) ?_); intro w5 hown5 r5; go_frame; have k5 := own_blk hown5; have kP5 := kP.grown r5 (by simp); have kR5 := k2.grown r5 (by simp); have hB5 := hB2.grown r5 hB2.size (fun z hz => by cases hz); have s5 := r5.size; generalize w2.heap.size = GB at *; have S2 := hid s2; clear s2; clear z0 z1 z2; obtain ⟨z0, z1, z2⟩ := c3 _ kP5; clear kP k2 r5 hown5 b2 hB2 hs))
  have n5 : (List.replicate (108 + mt.length + 128) (Value.int IntKind.u8 0)).length = 108 + mt.length + 128 := List.length_replicate
  have by5 : ∀ u ∈ List.replicate (108 + mt.length + 128) (Value.int IntKind.u8 0), ∃ x, u = byV x := by
    intro u hu
    exact ⟨0, (List.eq_of_mem_replicate hu)⟩
  obtain ⟨C5, hC5⟩ : ∃ z, List.replicate (108 + mt.length + 128) (Value.int IntKind.u8 0) = z := ⟨_, rfl⟩
  rw [hC5] at n5 by5 k5
  have HC5 := hid hC5
  clear hC5
  refine (put_any _ 0 _ _ root _ C5 _ k5 (by omega) (by omega) (by omega) by5).mono ?_
  rintro e w6 ⟨rfl, k6, r6⟩
  have S2' := S2.out
  have kP6 := kP5.grown r6 (by simp; omega)
  have kR6 := kR5.grown r6 (by simp; omega)
  have hB6 := hB5.grown r6 hB5.size (fun z hz => by cases hz; omega)
  clear z0 z1 z2 S2'
  obtain ⟨z0, z1, z2⟩ := c3 _ kP6
  clear r6 hB5 kR5 kP5 k5 s5 c3
  have ks2 : ∀ wx, (Instr.slice 40 (.slice (some ⟨GB, 0, none⟩) (108 + mt.length + 128) (108 + mt.length + 128)) (some (.int .i64 2)) none none).run Tryd.prog wx = .ok (.slice (some ⟨GB, 2, none⟩) (106 + mt.length + 128) (106 + mt.length + 128)) wx := fun wx => by
    have := run_from (P := Tryd.prog) 40 5 Tryd.underlying40 oneByte (some ⟨GB, 0, none⟩) (108 + mt.length + 128) (108 + mt.length + 128) 2 .i64 2 rfl (by omega) wx
    rw [if_neg (by omega), show 108 + mt.length + 128 - 2 = 106 + mt.length + 128 by omega] at this
    simpa [add_spot] using this
  go_wp2_with fail
  go_still_tail 5, (by kernel_rfl)
  clear ks2
  have by6 : ∀ u ∈ (C5.set 0 (byV (UInt8.ofNat root))).set (0 + 1) (byV (UInt8.ofNat (root / 256))), ∃ x, u = byV x := by
    intro u hu
    rcases List.mem_or_eq_of_mem_set hu with hu | rfl
    · rcases List.mem_or_eq_of_mem_set hu with hu | rfl
      · exact by5 u hu
      · exact ⟨_, rfl⟩
    · exact ⟨_, rfl⟩
  have n6 : ((C5.set 0 (byV (UInt8.ofNat root))).set (0 + 1) (byV (UInt8.ofNat (root / 256)))).length = 108 + mt.length + 128 := by simp [n5]
  go_wp2_with fail
  refine (put_any GB 2 (106 + mt.length + 128) _ mt.length _ _ w6.drew (show Blk w6.drew _ _ _ from k6) (by omega) (by omega) (by omega) by6).mono ?_
  rintro e w7 ⟨rfl, k7, r7⟩
  have S2' := S2.out
  have kP7 := Blk.grown (show Blk w6.drew _ _ _ from kP6) r7 (by simp; omega)
  have kR7 := Blk.grown (show Blk w6.drew _ _ _ from kR6) r7 (by simp; omega)
  have hB7 := hB6.drew.grown r7 hB6.size (fun z hz => by cases hz; omega)
  clear S2' kP6 kR6 k6 r7 hB6
  generalize hC7 : ((((C5.set 0 (byV (UInt8.ofNat root))).set (0 + 1) (byV (UInt8.ofNat (root / 256)))).set 2 (byV (UInt8.ofNat mt.length))).set (2 + 1) (byV (UInt8.ofNat (mt.length / 256)))) = C7 at k7
  have n7 : C7.length = 108 + mt.length + 128 := by rw [← hC7]; simp [n5]
  have HC7 := hid hC7
  clear hC7 by5 by6 n6 n5
  have c7 := kP7
  have z0 : w7.cell? ⟨w.heap.size, 0, none⟩ = some (.int .i64 root) := kP7.cell 0
  have z1 : w7.cell? ⟨w.heap.size, 1, none⟩ = some (.int .u64 num) := kP7.cell 1
  have z2 : w7.cell? ⟨w.heap.size, 2, none⟩ = some (.string ⟨mt.toArray⟩) := kP7.cell 2
  clear c7
  have ks2 : ∀ wx, (Instr.slice 40 (.slice (some ⟨GB, 0, none⟩) (108 + mt.length + 128) (108 + mt.length + 128)) (some (.int .i64 108)) none none).run Tryd.prog wx = .ok (.slice (some ⟨GB, 108, none⟩) (mt.length + 128) (mt.length + 128)) wx := fun wx => by
    have := run_from (P := Tryd.prog) 40 5 Tryd.underlying40 oneByte (some ⟨GB, 0, none⟩) (108 + mt.length + 128) (108 + mt.length + 128) 108 .i64 108 rfl (by omega) wx
    rw [if_neg (by omega), show 108 + mt.length + 128 - 108 = mt.length + 128 by omega] at this
    simpa [add_spot] using this
  go_wp2_with fail
  go_still_tail 4, (by kernel_rfl)
  clear ks2
  refine wp_copyS GB 108 (mt.length + 128) (mt.length + 128) 5 _ _ (show Blk w7.drew _ _ _ from k7) bytesT.1 bytesN mt rfl rfl (by omega) (by omega) (fun w8 k8 r8 => ?_)
  go_frame
  have S2' := S2.out
  have kP8 := Blk.grown (show Blk w7.drew _ _ _ from kP7) r8 (by simp; omega)
  have kR8 := Blk.grown (show Blk w7.drew _ _ _ from kR7) r8 (by simp; omega)
  have hB8 := hB7.drew.grown r8 hB7.size (fun z hz => by cases hz; omega)
  clear S2' kP7 kR7 k7 r8 hB7 z0 z1 z2
  generalize hC8 : List.take 108 C7 ++ List.map byV mt ++ List.drop (108 + mt.length) C7 = C8 at k8
  have n8 : C8.length = 108 + mt.length + 128 := by rw [← hC8]; simp [n7]; omega
  have HC8 := hid hC8
  clear hC8
  have z0 : w8.cell? ⟨w.heap.size, 0, none⟩ = some (.int .i64 root) := kP8.cell 0
  have z1 : w8.cell? ⟨w.heap.size, 1, none⟩ = some (.int .u64 num) := kP8.cell 1
  have z2 : w8.cell? ⟨w.heap.size, 2, none⟩ = some (.string ⟨mt.toArray⟩) := kP8.cell 2
  have e1 := IntWalk.i64_in (108 + (mt.length : Int)) (by omega)
  have ks2 : ∀ wx, (Instr.slice 40 (.slice (some ⟨GB, 0, none⟩) (108 + mt.length + 128) (108 + mt.length + 128)) (some (.int .i64 (108 + (mt.length : Int)))) none none).run Tryd.prog wx = .ok (.slice (some ⟨GB, 108 + mt.length, none⟩) 128 128) wx := fun wx => by
    have := run_from (P := Tryd.prog) 40 5 Tryd.underlying40 oneByte (some ⟨GB, 0, none⟩) (108 + mt.length + 128) (108 + mt.length + 128) (108 + mt.length) .i64 (108 + (mt.length : Int)) (by omega) (by omega) wx
    rw [if_neg (by omega), show 108 + mt.length + 128 - (108 + mt.length) = 128 by omega] at this
    simpa [add_spot] using this
  go_wp2_with fail
  go_still_tail 8, (by kernel_rfl)
  clear ks2
  have hsr : RL w8.drew 1 (some ⟨w.heap.size, 3, none⟩) 128 (nu.map byV) := by
    have := Blk.rl (show Blk w8.drew _ _ _ from kP8) 3 128 1 (by simp [stCs, h4])
    rw [show ((stCs root num mt nu).drop 3).take (128 * 1) = nu.map byV by unfold stCs; exact (List.take_of_length_le (by simp [h4]))] at this
    exact this
  refine wp_copyB GB (108 + mt.length) 128 128 5 _ _ (show Blk w8.drew _ _ _ from k8) bytesT.1 bytesN (some ⟨w.heap.size, 3, none⟩) 128 128 (nu.map byV) hsr (byV_one _) rfl rfl (by omega) (fun w9 k9 r9 => ?_)
  go_frame
  have HF := hid (root_cells root mt nu C5 C7 C8 h4 HC5.out HC7.out HC8.out)
  rw [HF.out] at k9
  have S2' := S2.out
  have kP9 := Blk.grown (show Blk w8.drew _ _ _ from kP8) r9 (by simp; omega)
  have kR9 := Blk.grown (show Blk w8.drew _ _ _ from kR8) r9 (by simp; omega)
  have hB9 := hB8.drew.grown r9 hB8.size (fun z hz => by cases hz; omega)
  clear S2' kP8 kR8 k8 r9 hB8 z0 z1 z2 HF HC5 HC7 HC8 n7 n8 hsr e1
  have z0 : w9.cell? ⟨w.heap.size, 0, none⟩ = some (.int .i64 root) := kP9.cell 0
  have z1 : w9.cell? ⟨w.heap.size, 1, none⟩ = some (.int .u64 num) := kP9.cell 1
  have z2 : w9.cell? ⟨w.heap.size, 2, none⟩ = some (.string ⟨mt.toArray⟩) := kP9.cell 2
  have lP := kP9.lt
  have lR := kR9.lt
  have hlen := rootBody_len root mt nu
  rw [h4] at hlen
  obtain ⟨RBd, hRB⟩ : ∃ z, rootBody root mt nu = z := ⟨_, rfl⟩
  rw [hRB] at k9 hlen
  have HRB := hid hRB
  clear hRB
  go_wp2_with ((with_reducible refine is_store 85 ?_); refine wp_storeB (w.heap.size + 1) _ _ [.int .i64 0, .int .u64 num, .int .i64 2, .slice (some ⟨GB, 0, none⟩) (108 + mt.length + 128) (108 + mt.length + 128)] kR9 pageN rfl (by simp [Value.oneCell']) rfl rfl ?_; intro w10 k10 r10; go_frame)
  have S2' := S2.out
  obtain ⟨a0, a1, a2, a3⟩ := k10.c4
  refine bodyPost_ret (v := pageV 0 num 2 (some ⟨GB, 0, none⟩) (108 + mt.length + 128) (108 + mt.length + 128)) (by simp [results, Tryd.results43, go_sem, a0, a1, a2, a3]; rfl) rfl ⟨⟨0, num, 2, some ⟨GB, 0, none⟩, 108 + mt.length + 128, 108 + mt.length + 128, RBd⟩, rfl, ?_, rfl, rfl, rfl, HRB.out.symm, hB9.grown r10 hB9.size (fun z hz => by cases hz; omega)⟩
  have hrb := (Blk.list (k9.grown r10 (by simp; omega)) (n := 108 + mt.length + 128) (by simp [hlen]))
  exact ⟨hrb, Nat.le_refl _, by show 108 + mt.length + 128 ≤ _; omega, h2, by simp, by simp, by simp, by simp⟩
end Go.Proofs.YtanglofabkbllaaDoor
