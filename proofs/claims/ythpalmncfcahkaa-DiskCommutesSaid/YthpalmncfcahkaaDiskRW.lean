/- Read and Write of package disk, walked. Conditions: the disk reads. -/
import Derived.Test.YthpalmncfcahkaaDisk
import Derived.Handy
set_option linter.unusedSimpArgs false
set_option linter.unusedVariables false
namespace Go.Proofs.Ythpalmncfcahkaa
open Go.RowKit

theorem bytesN : (Try.prog.info? 5).map (·.size) = some 1 := by kernel_rfl
theorem copied (xs cur : List Value) (n : Nat) (h : xs.length = n) (h2 : cur.length = n) : List.take 0 cur ++ List.take (min n n) xs ++ List.drop (0 + min n n) cur = xs := by
  rw [Nat.min_self, List.take_zero, List.nil_append, List.take_of_length_le (by omega), List.drop_of_length_le (by omega), List.append_nil]

set_option maxRecDepth 100000 in
set_option maxHeartbeats 1000000 in
theorem read_good (d : DV) (D : Dk) (i : Nat) (w : World) (h : DkV w d D) (hi : i < D.n) :
    Calls Try.prog 12 #[d.v, .int .i64 i] w fun e w' => ∃ g, e = .returned (.tuple #[.slice (some ⟨g, 0, none⟩) 128 128, .int .i64 0]) ∧ w'.ownsRow w.heap.size 5 1 (.slice (some ⟨g, 0, none⟩) 128 128) 128 ((D.cur i).map byV) ∧ Below w.heap.size w w' := by
  have hl := h.len hi
  have h1 : ¬ ((i : Int) ≥ d.n) := by rw [h.n]; omega
  have hn := h.hn
  have HF : Hid (∀ w', Below w.heap.size w w' → Calls Try.prog 25 #[.pointer d.c, .int .i64 i] w' fun e w'' => e = .returned (.agg ((D.cur i).map byV).toArray) ∧ Below w'.heap.size w' w'') := fun w' hb => find_any d.c D.cur i w' (h.c.keep hb) (by omega)
  generalize D.cur i = s at *
  have HL := hid hl
  clear hl h
  unfold DV.v
  go_enter Try.func12, Try.ntmps12
  go_wp2_with fail
  have hP : Blk (w.alloc (.cells #[.int .i64 d.n, .pointer d.s, .pointer d.c, .pointer d.l, .int .i64 d.m] 25)) w.heap.size 25 [.int .i64 d.n, .pointer d.s, .pointer d.c, .pointer d.l, .int .i64 d.m] := Blk.new w _ _
  have hB : Below w.heap.size w (w.alloc (.cells #[.int .i64 d.n, .pointer d.s, .pointer d.c, .pointer d.l, .int .i64 d.m] 25)) := (Below.refl _ _).alloc (Nat.le_refl _) _
  have hS : (w.alloc (.cells #[.int .i64 d.n, .pointer d.s, .pointer d.c, .pointer d.l, .int .i64 d.m] 25)).heap.size = w.heap.size + 1 := by simp
  generalize (w.alloc (.cells #[.int .i64 d.n, .pointer d.s, .pointer d.c, .pointer d.l, .int .i64 d.m] 25)) = w1 at hP hB hS ⊢
  refine (HF.out _ hB).mono ?_
  rintro e w2 ⟨rfl, b2⟩
  have B2 := hB.trans (b2.mono hB.size)
  clear hP hB hS HF
  go_wp2_with (first
    | ((with_reducible refine is_alloc 65 ?_); refine wp_allocB _ arrSec ?_; intro w3 k3 b3 s3; go_frame)
    | ((with_reducible refine is_store 65 ?_); refine wp_storeB _ _ _ _ k3 (arrSecN.trans (by rw [List.length_map, HL.out])) (by rw [List.length_map, List.length_map, HL.out, zero128_len]) (byV_one _) rfl rfl ?_; intro w4 k4 r4; go_frame)
    | (at_make; refine wp_make _ rfl _ _ 31 rfl w4.heap.size 5 _ 1 bytesT rfl .i64 .i64 _ _ 128 rfl rfl rfl rfl (by omega) (by unfold maxLen; omega) (Nat.le_refl _) ?_; intro w5 k5 r5; go_frame)
    | ((with_reducible refine is_copy ?_); refine wp_copyB w4.heap.size 0 128 128 5 _ _ (own_blk k5) bytesT.1 bytesN (some ⟨w2.heap.size, 0, none⟩) 128 128 _ ((k4.grown r5 (by intro h; cases h)).list (n := 128) (by rw [List.length_map, HL.out])) (byV_one _) rfl rfl (by simp) ?_; intro w6 k6 r6; go_frame))
  rw [copied _ _ 128 (by rw [List.length_map, HL.out]) (by simp)] at k6
  go_ret2
  have B4 := (B2.trans (b3.mono B2.size)).grown r4 (B2.trans (b3.mono B2.size)).size (fun k hk => by cases hk; exact B2.size)
  have B5 := B4.grown r5 B4.size (fun k hk => by cases hk)
  exact ⟨_, rfl, own_of_blk k6 B4.size (by rw [List.length_map, HL.out]) (by omega), B5.grown r6 B5.size (fun k hk => by cases hk; exact B4.size)⟩

theorem write_bad (d : DV) (A : Option Addr) (n c : Nat) (i : Int) (w : World) (h : i < 0 ∨ (d.n : Int) ≤ i) :
    Calls Try.prog 15 #[d.v, .int .i64 i, .slice A n c] w fun e w' => e = .returned (.tuple #[d.v, .int .i64 3]) ∧ Below w.heap.size w w' := by
  unfold DV.v
  by_cases h1 : i < 0
  · clear h
    go_enter Try.func15, Try.ntmps15
    go_wp2_with fail
    refine bodyPost_ret (v := .tuple #[d.v, .int .i64 3]) (by simp [results, Try.results15, go_sem]; rfl) rfl ⟨rfl, ((Below.refl _ _).alloc (Nat.le_refl _) _).alloc (by simp) _⟩
  · have h2 : i ≥ (d.n : Int) := by omega
    clear h
    go_enter Try.func15, Try.ntmps15
    go_wp2_with fail
    refine bodyPost_ret (v := .tuple #[d.v, .int .i64 3]) (by simp [results, Try.results15, go_sem]; rfl) rfl ⟨rfl, ((Below.refl _ _).alloc (Nat.le_refl _) _).alloc (by simp) _⟩
theorem write_arg (d : DV) (A : Option Addr) (n c : Nat) (i : Nat) (w : World) (h : i < d.n) (hn : n ≠ 128) :
    Calls Try.prog 15 #[d.v, .int .i64 i, .slice A n c] w fun e w' => e = .returned (.tuple #[d.v, .int .i64 1]) ∧ Below w.heap.size w w' := by
  unfold DV.v
  have h1 : ¬ ((i : Int) ≥ d.n) := by omega
  have h2 : ((n : Int) != 128) = true := by rw [bne_iff_ne]; omega
  have h3 : ((n : Int) == 128) = false := by rw [beq_eq_false_iff_ne]; omega
  go_enter Try.func15, Try.ntmps15
  go_wp2_with fail
  refine bodyPost_ret (v := .tuple #[d.v, .int .i64 1]) (by simp [results, Try.results15, go_sem]; rfl) rfl ⟨rfl, ((Below.refl _ _).alloc (Nat.le_refl _) _).alloc (by simp) _⟩

theorem two_boxes {w w3 : World} {T1 T2 : TypeId} {cs1 cs2 : List Value} (b3 : Below (w.heap.size + 1 + 1) ((w.alloc (.cells cs1.toArray T1)).alloc (.cells cs2.toArray T2)) w3) :
    Blk w3 w.heap.size T1 cs1 ∧ Blk w3 (w.heap.size + 1) T2 cs2 ∧ Below w.heap.size w w3 := by
  refine ⟨((Blk.new w T1 cs1).keep ((Below.refl _ _).alloc (Nat.le_refl _) _)).below b3 (by omega), ?_, (((Below.refl _ _).alloc (Nat.le_refl _) _).alloc (by simp) _).trans (b3.mono (by omega))⟩
  have := Blk.new (w.alloc (.cells cs1.toArray T1)) T2 cs2
  rw [show (w.alloc (.cells cs1.toArray T1)).heap.size = w.heap.size + 1 by simp] at this
  exact this.below b3 (by omega)
theorem one1 : (Try.prog.info? 23).map (·.size) = some 1 ∧ (Try.prog.info? 22).map (·.size) = some 1 ∧ (Try.prog.info? 3).map (·.size) = some 1 := ⟨by kernel_rfl, by kernel_rfl, by kernel_rfl⟩

set_option maxRecDepth 100000 in
set_option maxHeartbeats 1000000 in
theorem write_good (d : DV) (D : Dk) (A : Option Addr) (c : Nat) (b : List UInt8) (i : Nat) (w : World) (h : DkV w d D) (hi : i < D.n) (hb : RB w A 128 b) (hm : D.W.length < 4611686018427387904) :
    Calls Try.prog 15 #[d.v, .int .i64 i, .slice A 128 c] w fun e w' => ∃ d' : DV, e = .returned (.tuple #[d'.v, .int .i64 0]) ∧ DkV w' d' (D.write i b) ∧ Below w.heap.size w w' := by
  have h1 : ¬ ((i : Int) ≥ d.n) := by rw [h.n]; omega
  have hdm : d.m < 4611686018427387904 := by rw [h.m]; exact hm
  have HL := hid hb.len
  have hn := h.hn
  rw [show d.v = Value.agg #[.int .i64 d.n, .pointer d.s, .pointer d.c, .pointer d.l, .int .i64 d.m] from rfl]
  go_enter Try.func15, Try.ntmps15
  go_wp2_with (first
    | ((with_reducible refine is_alloc 65 ?_); refine wp_allocN (w.heap.size + 1 + 1) (by simp) _ arrSec ?_; intro w3 k3 b3 s3; go_frame; obtain ⟨kd, kr, B3⟩ := two_boxes (cs1 := [.int .i64 d.n, .pointer d.s, .pointer d.c, .pointer d.l, .int .i64 d.m]) (cs2 := DV.zero.cs) b3; clear b3 s3)
    | ((with_reducible refine is_copy ?_); refine wp_copyB (w.heap.size + 1 + 1) 0 128 128 5 _ _ k3 bytesT.1 bytesN A 128 c _ (hb.below B3) (byV_one _) rfl rfl (by simp [zero128_len]) ?_; intro w4 k4 r4; go_frame; have kd4 := kd.grown r4 (by simp; omega); have kr4 := kr.grown r4 (by simp); have B4 := B3.grown r4 B3.size (fun k hk => by cases hk; omega); clear kd kr B3 k3 r4; obtain ⟨c0, c1, c2, c3, c4⟩ := kd4.c5)
    | ((with_reducible refine is_store 23 ?_); refine wp_store1 w.heap.size 3 _ _ (.pointer (some ⟨w4.heap.size, 0, none⟩)) (kd4.keep ((Below.refl _ _).alloc (Nat.le_refl _) _)) rfl one1.1 (by simp) rfl rfl rfl ?_; intro w5 kd5 r5; go_frame; obtain ⟨c0, c1, c2, c3, c4⟩ := kd5.c5))
  rw [copied _ _ 128 (by rw [List.length_map, HL.out]) (by simp [zero128_len])] at k4
  have l4 := kd4.lt
  have kw5 := (Blk.new w4 70 [.pointer d.l, .int .i64 i, .pointer (some ⟨w.heap.size + 1 + 1, 0, none⟩)]).grown r5 (by simp; omega)
  have kr5 := (kr4.keep ((Below.refl _ _).alloc (Nat.le_refl _) (.cells #[.pointer d.l, .int .i64 i, .pointer (some ⟨w.heap.size + 1 + 1, 0, none⟩)] 70))).grown r5 (by simp)
  have ks5 : BlkB w5 (w.heap.size + 1 + 1) 65 b := (Blk.keep k4 ((Below.refl _ _).alloc (Nat.le_refl _) (.cells #[.pointer d.l, .int .i64 i, .pointer (some ⟨w.heap.size + 1 + 1, 0, none⟩)] 70))).grown r5 (by simp; omega)
  have B5 := (B4.alloc B4.size (.cells #[.pointer d.l, .int .i64 i, .pointer (some ⟨w.heap.size + 1 + 1, 0, none⟩)] 70)).grown r5 (by have := B4.size; simp; omega) (fun k hk => by cases hk; exact Nat.le_refl _)
  dsimp only [List.set_cons_succ, List.set_cons_zero] at kd5
  have h5 := h.keep B5
  clear k4 kd4 kr4 B4 r5 c0 c1 c2 c3 c4 h hb
  generalize w4.heap.size = gw at *
  refine (with_any d.c D.cur i _ b w5 h5.c (by omega) ks5 HL.out).mono ?_
  rintro e w6 ⟨gt, rfl, ht, b6⟩
  have kd6 := kd5.keep b6
  have kr6 := kr5.keep b6
  have kw6 := kw5.keep b6
  have ks6 := Blk.keep ks5 b6
  have h6 := h5.keep b6
  have B6 := B5.trans (b6.mono B5.size)
  clear kd5 kr5 kw5 ks5 h5 b6 B5
  obtain ⟨c0, c1, c2, c3, c4⟩ := kd6.c5
  go_wp2_with (first
    | ((with_reducible refine is_store 22 ?_); refine wp_store1 w.heap.size 2 _ _ (.pointer (some ⟨gt, 0, none⟩)) kd6 rfl one1.2.1 (by simp) rfl rfl rfl ?_; intro w7 kd7 r7; go_frame; obtain ⟨c0, c1, c2, c3, c4⟩ := kd7.c5)
    | ((with_reducible refine is_store 3 ?_); refine wp_store1 w.heap.size 4 _ _ (.int .i64 ((d.m : Int) + 1)) kd7 rfl one1.2.2 (by simp) rfl rfl rfl ?_; intro w8 kd8 r8; go_frame; obtain ⟨c0, c1, c2, c3, c4⟩ := kd8.c5)
    | ((with_reducible refine is_store 25 ?_); refine wp_storeB _ _ _ [.int .i64 d.n, .pointer d.s, .pointer (some ⟨gt, 0, none⟩), .pointer (some ⟨gw, 0, none⟩), .int .i64 ((d.m : Int) + 1)] ((kr6.grown r7 (by simp)).grown r8 (by simp)) diskN rfl (by simp [Value.oneCell']) rfl rfl ?_; intro w9 kr9 r9; go_frame))
  have K9 : Kept w6 w9 := ((Kept.grown r7 kd6 notDk).trans (Kept.grown r8 kd7 notDk)).trans (Kept.grown r9 ((kr6.grown r7 (by simp)).grown r8 (by simp)) notDk)
  have B9 := ((B6.grown r7 B6.size (fun k hk => by cases hk; exact Nat.le_refl _)).grown r8 (by have := r7.size; have := B6.size; omega) (fun k hk => by cases hk; exact Nat.le_refl _)).grown r9 (by have := r8.size; have := r7.size; have := B6.size; omega) (fun k hk => by cases hk; omega)
  clear c0 c1 c2 c3 c4
  obtain ⟨c0, c1, c2, c3, c4⟩ := kr9.c5
  refine bodyPost_ret (v := .tuple #[(⟨d.n, d.s, some ⟨gt, 0, none⟩, some ⟨gw, 0, none⟩, d.m + 1⟩ : DV).v, .int .i64 0]) (by simp [results, Try.results15, go_sem, c0, c1, c2, c3, c4]; rfl) rfl ⟨_, rfl, ?_, B9⟩
  have h9 := h6.kept K9
  refine ⟨h9.n, h9.hn, h9.s, ht.kept K9, ⟨gw, d.l, w.heap.size + 1 + 1, rfl, K9.blk _ _ _ (.inr (.inr (.inr (.inr rfl)))) kw6, K9.blk _ _ _ (.inr (.inr (.inr (.inl rfl)))) ks6, HL.out, h9.l⟩, ?_, ?_⟩
  · show d.m + 1 = _
    rw [h9.m]; rfl
  · intro x hx
    rcases List.mem_cons.1 hx with rfl | hx
    · exact hi
    · exact h9.b x hx
end Go.Proofs.Ythpalmncfcahkaa
