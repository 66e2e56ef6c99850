/- Read of package page, walked. Conditions: the disk reads; the table of remainders is laid. -/
import Derived.Test.YtanglofabkbllaaDoorPgW
import Derived.Test.YtanglofabkbllaaDoorBytes
set_option linter.unusedSimpArgs false
set_option linter.unusedVariables false
namespace Go.Proofs.YtanglofabkbllaaDoor
open Go.RowKit

/-- the bytes of k sectors -/
def secs (f : Secs) (s k : Nat) : List UInt8 := (List.range k).flatMap fun i => f (s + i)
theorem secs_len (f : Secs) (s : Nat) : ∀ k, (∀ i, i < k → (f (s + i)).length = 128) → (secs f s k).length = k * 128
  | 0, _ => rfl
  | k + 1, h => by
    unfold secs
    rw [List.range_succ, List.flatMap_append, List.length_append]
    have := secs_len f s k (fun i hi => h i (by omega))
    unfold secs at this
    rw [this]
    simp [h k (by omega)]
    omega
theorem secs_next (f : Secs) (s k : Nat) : secs f s (k + 1) = secs f s k ++ f (s + k) := by
  unfold secs
  rw [List.range_succ, List.flatMap_append]
  simp
theorem arr1024 : ArrT Tryd.prog 130 ((zeroB 1024).map byV) := by
  unfold ArrT
  kernel_rfl

/-- bytes do not lie in a block that holds none -/
theorem RB.apart {w w' : World} {A : Option Addr} {n : Nat} {l : List UInt8} {g : Nat} {t : TypeId} {cs : List Value} (h : RB w A n l) (hk : Blk w g t cs) (hno : ∀ v ∈ cs, ∀ x, v ≠ byV x) (hr : w.grownBy w' (some g)) : RB w' A n l := by
  refine RL.grown h hr (fun g' hg' hn b o hA hbg => ?_)
  cases hg'
  subst hbg
  obtain ⟨b', o', x, e', _, hx, hc⟩ := RB.at h hn
  rw [hA] at e'
  cases e'
  rw [hk.cell] at hc
  exact hno _ (List.mem_of_getElem? hc) x rfl
theorem Reads.apart {w w' : World} {p : Pg} {d : Dec} {g : Nat} {t : TypeId} {cs : List Value} (h : Reads w p d) (hk : Blk w g t cs) (hno : ∀ v ∈ cs, ∀ x, v ≠ byV x) (hr : w.grownBy w' (some g)) : Reads w' p d :=
  ⟨⟨RB.apart h.ok.rb hk hno hr, h.ok.nc, h.ok.cm, h.ok.s, h.ok.i0, h.ok.i1, h.ok.k0, h.ok.k1⟩, h.id, h.stamp, h.kind, h.body⟩
theorem noPg_no : ∀ v ∈ noPg.cs, ∀ x, v ≠ byV x := by
  intro v hv x
  simp only [Pg.cs, List.mem_cons, List.not_mem_nil, or_false] at hv
  rcases hv with rfl | rfl | rfl | rfl <;> (unfold byV; intro h; cases h)
theorem pread_bad (d : DV) (s : Int) (w : World) (h : s < 0 ∨ (d.n : Int) < s + 8) (hn : d.n ≤ 16384) (h0 : -9223372036854775808 ≤ s) (hs : s ≤ 9223372036854775807) :
    Calls Tryd.prog 49 #[d.v, .int .i64 s] w fun e w' => e = .returned (.tuple #[noPg.v, .int .i64 3]) ∧ Below w.heap.size w w' := by
  have HI := hid (fun w' => inside_no d s w' h hn h0 hs)
  unfold DV.v at HI
  clear h h0 hs
  rw [show d.v = Value.agg #[.int .i64 d.n, .pointer d.s, .pointer d.c, .pointer d.l, .int .i64 d.m] from rfl]
  go_enter Tryd.func49, Tryd.ntmps49
  go_wp2_with fail
  generalize hw1 : World.alloc (World.alloc w _) _ = w1
  have hx : Below (w.heap.size + 1 + 1) (World.alloc (World.alloc w (.cells #[.int .i64 d.n, .pointer d.s, .pointer d.c, .pointer d.l, .int .i64 d.m] 27)) (.cells #[.int .i64 0, .int .u64 0, .int .i64 0, .slice none 0 0] 85)) w1 := by
    rw [← hw1]; exact Below.refl _ _
  obtain ⟨kd, kr, hB⟩ := two_boxes (cs1 := [.int .i64 d.n, .pointer d.s, .pointer d.c, .pointer d.l, .int .i64 d.m]) (cs2 := noPg.cs) hx
  clear hw1 hx
  refine (HI.out _).mono ?_
  rintro e w2 ⟨rfl, b2⟩
  have kr2 := kr.keep b2
  have B2 := hB.trans (b2.mono hB.size)
  go_wp2_with ((with_reducible refine is_store 85 ?_); refine wp_storeB _ _ _ noPg.cs kr2 pageN rfl (by decide) rfl rfl ?_; intro w9 kr9 r9; go_frame)
  obtain ⟨e0, e1, e2, e3⟩ := kr9.c4
  refine bodyPost_ret (v := .tuple #[noPg.v, .int .i64 3]) (by simp [results, Tryd.results49, go_sem, e0, e1, e2, e3]; rfl) rfl ⟨rfl, B2.grown r9 B2.size (fun k hk => by cases hk; omega)⟩

set_option maxRecDepth 100000 in
set_option maxHeartbeats 2000000 in
theorem pread_good (d : DV) (D : Dk) (s : Nat) (w : World) (hT : Tab w) (hd : DkV w d D) (h : s + 8 ≤ D.n) :
    Calls Tryd.prog 49 #[d.v, .int .i64 s] w fun e w' => ∃ p : Pg, e = .returned (.tuple #[p.v, .int .i64 (decoded (secs D.cur s 8)).err]) ∧ Reads w' p (decoded (secs D.cur s 8)) ∧ Below w.heap.size w w' := by
  have hdn := hd.hn
  have HI := hid (fun w' => inside_yes d s w' (by rw [hd.n]; exact h) (by rw [hd.n]; exact hdn))
  have HR : Hid (∀ (k : Nat) w', k < 8 → Below w.heap.size w w' → Calls Tryd.prog 27 #[d.v, .int .i64 ((s : Int) + k)] w' fun e w'' => ∃ g, e = .returned (.tuple #[.slice (some ⟨g, 0, none⟩) 128 128, .int .i64 0]) ∧ w''.ownsRow w'.heap.size 5 1 (.slice (some ⟨g, 0, none⟩) 128 128) 128 ((D.cur (s + k)).map byV) ∧ Below w'.heap.size w' w'') := fun k w' hk hb => by
    have := read_good d D (s + k) w' (hd.keep hb) (by omega)
    rwa [Int.natCast_add] at this
  have HS : Hid (∀ k, k ≤ 8 → (secs D.cur s k).length = k * 128) := fun k hk => secs_len _ _ _ fun i hi => hd.len (by omega)
  unfold DV.v at HI HR
  rw [show d.v = Value.agg #[.int .i64 d.n, .pointer d.s, .pointer d.c, .pointer d.l, .int .i64 d.m] from rfl]
  go_enter Tryd.func49, Tryd.ntmps49
  go_wp2_with fail
  generalize hw1 : World.alloc (World.alloc w _) _ = w1
  have hx : Below (w.heap.size + 1 + 1) (World.alloc (World.alloc w (.cells #[.int .i64 d.n, .pointer d.s, .pointer d.c, .pointer d.l, .int .i64 d.m] 27)) (.cells #[.int .i64 0, .int .u64 0, .int .i64 0, .slice none 0 0] 85)) w1 := by
    rw [← hw1]; exact Below.refl _ _
  obtain ⟨kd, kr, hB⟩ := two_boxes (cs1 := [.int .i64 d.n, .pointer d.s, .pointer d.c, .pointer d.l, .int .i64 d.m]) (cs2 := noPg.cs) hx
  clear hw1 hx
  refine (HI.out _).mono ?_
  rintro e w2 ⟨rfl, b2⟩
  have kr2 := kr.keep b2
  have kd2 := kd.keep b2
  have B2 := hB.trans (b2.mono hB.size)
  clear HI kd kr hB b2
  go_wp2_with ((with_reducible refine is_alloc 130 ?_); refine wp_allocB _ arr1024 ?_; intro w3 k3 b3 s3; go_frame)
  have kr3 := kr2.keep b3
  have kd3 := kd2.keep b3
  have B3 := B2.trans (b3.mono B2.size)
  have hgs := kr2.lt
  generalize w2.heap.size = g at *
  clear kr2 kd2 b3 s3 B2
  go_loopw [7, 8, 9, 15] (fun _ _ _ i wr => ∃ k : Nat, k ≤ 8 ∧ i = .int .i64 k ∧ Blk wr w.heap.size 27 [.int .i64 d.n, .pointer d.s, .pointer d.c, .pointer d.l, .int .i64 d.m] ∧ Blk wr (w.heap.size + 1) 85 noPg.cs ∧ BlkB wr g 130 (secs D.cur s k ++ zeroB (1024 - k * 128)) ∧ Below w.heap.size w wr) (fun _ _ _ i _ => 8 - (intOf i).toNat)
  case atStart => exact ⟨0, by omega, rfl, kd3, kr3, k3, B3⟩
  case round =>
    obtain ⟨k, hk, rfl, kd4, kr4, k4, hbel⟩ := hrel
    clear kd3 kr3 k3 B3
    by_cases hlt : k < 8
    · obtain ⟨x0, x1, x2, x3, x4⟩ := kd4.c5
      go_wp2_with fail
      refine (HR.out k _ hlt hbel).mono ?_
      rintro e w5 ⟨g5, rfl, hown, b5⟩
      have hr5 : RB w5 (some ⟨g5, 0, none⟩) 128 (D.cur (s + k)) := RL.of_own hown
      have HL5 := hid hr5.len
      have k5 := Blk.keep k4 b5
      have kd5 := kd4.keep b5
      have kr5 := kr4.keep b5
      have B5 := hbel.trans (b5.mono hbel.size)
      have ks : ∀ wx, (Instr.sliceAt 130 (.pointer (some ⟨g, 0, none⟩)) (some (.int .i64 ((k : Int) * 128))) none none).run Tryd.prog wx = .ok (.slice (some ⟨g, k * 128, none⟩) (1024 - k * 128) (1024 - k * 128)) wx := fun wx => by
        have := run_arr_from (P := Tryd.prog) 130 5 1024 Tryd.underlying130 bytesN g 0 (k * 128) .i64 ((k : Int) * 128) (by omega) (by omega) wx
        simpa using this
      go_wp2_with ((with_reducible refine is_copy ?_); refine wp_copyF g (k * 128) (1024 - k * 128) (1024 - k * 128) _ _ (secs D.cur s k) (1024 - k * 128) k5 (HS.out k hk) Tryd.underlying40 bytesN (some ⟨g5, 0, none⟩) 128 128 _ hr5 rfl rfl (Nat.le_refl _) ?_; intro w6 k6 r6; go_frame)
      have ep : secs D.cur s k ++ (D.cur (s + k)).take (min 128 (1024 - k * 128)) ++ zeroB (1024 - k * 128 - min 128 (1024 - k * 128)) = secs D.cur s (k + 1) ++ zeroB (1024 - (k + 1) * 128) := by
        rw [secs_next, Nat.min_eq_left (by omega), List.take_of_length_le (by rw [HL5.out]; exact Nat.le_refl _), show 1024 - k * 128 - 128 = 1024 - (k + 1) * 128 by omega]
      rw [ep] at k6
      have EP := hid ep
      clear ep ks
      go_roundw
      case rel => exact ⟨k + 1, by omega, by go_num, kd5.grown r6 (by simp; omega), kr5.grown r6 (by simp; omega), k6, B5.grown r6 B5.size (fun q hq => by cases hq; omega)⟩
      case measure => simp [intOf]; omega
    · obtain rfl : k = 8 := by omega
      have k8 : BlkB wr g 130 (secs D.cur s 8) := by
        have := k4
        rw [show zeroB (1024 - 8 * 128) = [] from rfl, List.append_nil] at this
        exact this
      have hrb := k8.cells (n := 1024) (HS.out 8 (by omega))
      go_wp2_with fail
      refine (decode_any (some ⟨g, 0, none⟩) 1024 1024 (secs D.cur s 8) _ (hT.keep hbel) hrb (by omega) (by omega)).mono ?_
      rintro e w9 ⟨p, rfl, hp, b9⟩
      have kr9 := kr4.keep b9
      have B9 := hbel.trans (b9.mono hbel.size)
      simp only [Pg.v, pageV]
      go_wp2_with ((with_reducible refine is_store 85 ?_); refine wp_storeB _ _ _ [.int .i64 p.id, .int .u64 p.stamp, .int .i64 p.kind, .slice p.A p.n p.c] kr9 pageN rfl (by simp [Value.oneCell']) rfl rfl ?_; intro w10 kr10 r10; go_frame)
      obtain ⟨e0, e1, e2, e3⟩ := kr10.c4
      refine bodyPost_ret (v := .tuple #[pageV p.id p.stamp p.kind p.A p.n p.c, .int .i64 (decoded (secs D.cur s 8)).err]) (by simp [results, Tryd.results49, go_sem, e0, e1, e2, e3]; rfl) rfl ⟨p, rfl, Reads.apart hp kr9 noPg_no r10, B9.grown r10 B9.size (fun k hk => by cases hk; omega)⟩
end Go.Proofs.YtanglofabkbllaaDoor
