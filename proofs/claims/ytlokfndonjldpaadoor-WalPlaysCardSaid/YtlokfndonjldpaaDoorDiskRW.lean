/- Read and Write of package disk, walked. Conditions: the disk reads. Small facts on lists. No program in sight. slices.Reverse at the list of writes, walked. Conditions: the row is the call's own or its caller's. The unsynced writes in their order, walked. Conditions: the disk reads. Crash of package disk, walked. Conditions: the disk reads. -/
import Derived.Test.YtlokfndonjldpaaDoorDisk
set_option linter.unusedSimpArgs false
set_option linter.unusedVariables false
namespace Go.Proofs.YtlokfndonjldpaaDoor
open Go.RowKit

theorem bytesN : (Tryd.prog.info? 5).map (·.size) = some 1 := by kernel_rfl
theorem copied (xs cur : List Value) (n : Nat) (h : xs.length = n) (h2 : cur.length = n) : List.take 0 cur ++ List.take (min n n) xs ++ List.drop (0 + min n n) cur = xs := by
  rw [Nat.min_self, List.take_zero, List.nil_append, List.take_of_length_le (by omega), List.drop_of_length_le (by omega), List.append_nil]

set_option maxRecDepth 100000 in
set_option maxHeartbeats 1000000 in
theorem read_good (d : DV) (D : Dk) (i : Nat) (w : World) (h : DkV w d D) (hi : i < D.n) :
    Calls Tryd.prog 38 #[d.v, .int .i64 i] w fun e w' => ∃ g, e = .returned (.tuple #[.slice (some ⟨g, 0, none⟩) 128 128, .int .i64 0]) ∧ w'.ownsRow w.heap.size 5 1 (.slice (some ⟨g, 0, none⟩) 128 128) 128 ((D.cur i).map byV) ∧ Below w.heap.size w w' := by
  have hl := h.len hi
  have h1 : ¬ ((i : Int) ≥ d.n) := by rw [h.n]; omega
  have hn := h.hn
  have HF : Hid (∀ w', Below w.heap.size w w' → Calls Tryd.prog 50 #[.pointer d.c, .int .i64 i] w' fun e w'' => e = .returned (.agg ((D.cur i).map byV).toArray) ∧ Below w'.heap.size w' w'') := fun w' hb => find_any d.c D.cur i w' (h.c.keep hb) (by omega)
  generalize D.cur i = s at *
  have HL := hid hl
  clear hl h
  unfold DV.v
  go_enter Tryd.func38, Tryd.ntmps38
  go_wp2_with fail
  have hP : Blk (w.alloc (.cells #[.int .i64 d.n, .pointer d.s, .pointer d.c, .pointer d.l, .int .i64 d.m] 38)) w.heap.size 38 [.int .i64 d.n, .pointer d.s, .pointer d.c, .pointer d.l, .int .i64 d.m] := Blk.new w _ _
  have hB : Below w.heap.size w (w.alloc (.cells #[.int .i64 d.n, .pointer d.s, .pointer d.c, .pointer d.l, .int .i64 d.m] 38)) := (Below.refl _ _).alloc (Nat.le_refl _) _
  have hS : (w.alloc (.cells #[.int .i64 d.n, .pointer d.s, .pointer d.c, .pointer d.l, .int .i64 d.m] 38)).heap.size = w.heap.size + 1 := by simp
  generalize (w.alloc (.cells #[.int .i64 d.n, .pointer d.s, .pointer d.c, .pointer d.l, .int .i64 d.m] 38)) = w1 at hP hB hS ⊢
  refine (HF.out _ hB).mono ?_
  rintro e w2 ⟨rfl, b2⟩
  have B2 := hB.trans (b2.mono hB.size)
  clear hP hB hS HF
  go_wp2_with (first
    | ((with_reducible refine is_alloc 84 ?_); refine wp_allocB _ arrSec ?_; intro w3 k3 b3 s3; go_frame)
    | ((with_reducible refine is_store 84 ?_); refine wp_storeB _ _ _ _ k3 (arrSecN.trans (by rw [List.length_map, HL.out])) (by rw [List.length_map, List.length_map, HL.out, zero128_len]) (byV_one _) rfl rfl ?_; intro w4 k4 r4; go_frame)
    | (at_make; refine wp_make _ rfl _ _ 25 rfl w4.heap.size 5 _ 1 bytesT rfl .i64 .i64 _ _ 128 rfl rfl rfl rfl (by omega) (by unfold maxLen; omega) (Nat.le_refl _) ?_; intro w5 k5 r5; go_frame)
    | ((with_reducible refine is_copy ?_); refine wp_copyB w4.heap.size 0 128 128 5 _ _ (own_blk k5) bytesT.1 bytesN (some ⟨w2.heap.size, 0, none⟩) 128 128 _ ((k4.grown r5 (by intro h; cases h)).list (n := 128) (by rw [List.length_map, HL.out])) (byV_one _) rfl rfl (by simp) ?_; intro w6 k6 r6; go_frame))
  rw [copied _ _ 128 (by rw [List.length_map, HL.out]) (by simp)] at k6
  go_ret2
  have B4 := (B2.trans (b3.mono B2.size)).grown r4 (B2.trans (b3.mono B2.size)).size (fun k hk => by cases hk; exact B2.size)
  have B5 := B4.grown r5 B4.size (fun k hk => by cases hk)
  exact ⟨_, rfl, own_of_blk k6 B4.size (by rw [List.length_map, HL.out]) (by omega), B5.grown r6 B5.size (fun k hk => by cases hk; exact B4.size)⟩

theorem write_bad (d : DV) (A : Option Addr) (n c : Nat) (i : Int) (w : World) (h : i < 0 ∨ (d.n : Int) ≤ i) :
    Calls Tryd.prog 14 #[d.v, .int .i64 i, .slice A n c] w fun e w' => e = .returned (.tuple #[d.v, .int .i64 3]) ∧ Below w.heap.size w w' := by
  unfold DV.v
  by_cases h1 : i < 0
  · clear h
    go_enter Tryd.func14, Tryd.ntmps14
    go_wp2_with fail
    refine bodyPost_ret (v := .tuple #[d.v, .int .i64 3]) (by simp [results, Tryd.results14, go_sem]; rfl) rfl ⟨rfl, ((Below.refl _ _).alloc (Nat.le_refl _) _).alloc (by simp) _⟩
  · have h2 : i ≥ (d.n : Int) := by omega
    clear h
    go_enter Tryd.func14, Tryd.ntmps14
    go_wp2_with fail
    refine bodyPost_ret (v := .tuple #[d.v, .int .i64 3]) (by simp [results, Tryd.results14, go_sem]; rfl) rfl ⟨rfl, ((Below.refl _ _).alloc (Nat.le_refl _) _).alloc (by simp) _⟩
theorem write_arg (d : DV) (A : Option Addr) (n c : Nat) (i : Nat) (w : World) (h : i < d.n) (hn : n ≠ 128) :
    Calls Tryd.prog 14 #[d.v, .int .i64 i, .slice A n c] w fun e w' => e = .returned (.tuple #[d.v, .int .i64 1]) ∧ Below w.heap.size w w' := by
  unfold DV.v
  have h1 : ¬ ((i : Int) ≥ d.n) := by omega
  have h2 : ((n : Int) != 128) = true := by rw [bne_iff_ne]; omega
  have h3 : ((n : Int) == 128) = false := by rw [beq_eq_false_iff_ne]; omega
  go_enter Tryd.func14, Tryd.ntmps14
  go_wp2_with fail
  refine bodyPost_ret (v := .tuple #[d.v, .int .i64 1]) (by simp [results, Tryd.results14, go_sem]; rfl) rfl ⟨rfl, ((Below.refl _ _).alloc (Nat.le_refl _) _).alloc (by simp) _⟩

theorem two_boxes {w w3 : World} {T1 T2 : TypeId} {cs1 cs2 : List Value} (b3 : Below (w.heap.size + 1 + 1) ((w.alloc (.cells cs1.toArray T1)).alloc (.cells cs2.toArray T2)) w3) :
    Blk w3 w.heap.size T1 cs1 ∧ Blk w3 (w.heap.size + 1) T2 cs2 ∧ Below w.heap.size w w3 := by
  refine ⟨((Blk.new w T1 cs1).keep ((Below.refl _ _).alloc (Nat.le_refl _) _)).below b3 (by omega), ?_, (((Below.refl _ _).alloc (Nat.le_refl _) _).alloc (by simp) _).trans (b3.mono (by omega))⟩
  have := Blk.new (w.alloc (.cells cs1.toArray T1)) T2 cs2
  rw [show (w.alloc (.cells cs1.toArray T1)).heap.size = w.heap.size + 1 by simp] at this
  exact this.below b3 (by omega)
theorem one1 : (Tryd.prog.info? 36).map (·.size) = some 1 ∧ (Tryd.prog.info? 35).map (·.size) = some 1 ∧ (Tryd.prog.info? 3).map (·.size) = some 1 := ⟨by kernel_rfl, by kernel_rfl, by kernel_rfl⟩

set_option maxRecDepth 100000 in
set_option maxHeartbeats 1000000 in
theorem write_good (d : DV) (D : Dk) (A : Option Addr) (c : Nat) (b : List UInt8) (i : Nat) (w : World) (h : DkV w d D) (hi : i < D.n) (hb : RB w A 128 b) (hm : D.W.length < 4611686018427387904) :
    Calls Tryd.prog 14 #[d.v, .int .i64 i, .slice A 128 c] w fun e w' => ∃ d' : DV, e = .returned (.tuple #[d'.v, .int .i64 0]) ∧ DkV w' d' (D.write i b) ∧ Below w.heap.size w w' := by
  have h1 : ¬ ((i : Int) ≥ d.n) := by rw [h.n]; omega
  have hdm : d.m < 4611686018427387904 := by rw [h.m]; exact hm
  have HL := hid hb.len
  have hn := h.hn
  rw [show d.v = Value.agg #[.int .i64 d.n, .pointer d.s, .pointer d.c, .pointer d.l, .int .i64 d.m] from rfl]
  go_enter Tryd.func14, Tryd.ntmps14
  go_wp2_with (first
    | ((with_reducible refine is_alloc 84 ?_); refine wp_allocN (w.heap.size + 1 + 1) (by simp) _ arrSec ?_; intro w3 k3 b3 s3; go_frame; obtain ⟨kd, kr, B3⟩ := two_boxes (cs1 := [.int .i64 d.n, .pointer d.s, .pointer d.c, .pointer d.l, .int .i64 d.m]) (cs2 := DV.zero.cs) b3; clear b3 s3)
    | ((with_reducible refine is_copy ?_); refine wp_copyB (w.heap.size + 1 + 1) 0 128 128 5 _ _ k3 bytesT.1 bytesN A 128 c _ (hb.below B3) (byV_one _) rfl rfl (by simp [zero128_len]) ?_; intro w4 k4 r4; go_frame; have kd4 := kd.grown r4 (by simp; omega); have kr4 := kr.grown r4 (by simp); have B4 := B3.grown r4 B3.size (fun k hk => by cases hk; omega); clear kd kr B3 k3 r4; obtain ⟨c0, c1, c2, c3, c4⟩ := kd4.c5)
    | ((with_reducible refine is_store 36 ?_); refine wp_store1 w.heap.size 3 _ _ (.pointer (some ⟨w4.heap.size, 0, none⟩)) (kd4.keep ((Below.refl _ _).alloc (Nat.le_refl _) _)) rfl one1.1 (by simp) rfl rfl rfl ?_; intro w5 kd5 r5; go_frame; obtain ⟨c0, c1, c2, c3, c4⟩ := kd5.c5))
  rw [copied _ _ 128 (by rw [List.length_map, HL.out]) (by simp [zero128_len])] at k4
  have l4 := kd4.lt
  have kw5 := (Blk.new w4 87 [.pointer d.l, .int .i64 i, .pointer (some ⟨w.heap.size + 1 + 1, 0, none⟩)]).grown r5 (by simp; omega)
  have kr5 := (kr4.keep ((Below.refl _ _).alloc (Nat.le_refl _) (.cells #[.pointer d.l, .int .i64 i, .pointer (some ⟨w.heap.size + 1 + 1, 0, none⟩)] 87))).grown r5 (by simp)
  have ks5 : BlkB w5 (w.heap.size + 1 + 1) 84 b := (Blk.keep k4 ((Below.refl _ _).alloc (Nat.le_refl _) (.cells #[.pointer d.l, .int .i64 i, .pointer (some ⟨w.heap.size + 1 + 1, 0, none⟩)] 87))).grown r5 (by simp; omega)
  have B5 := (B4.alloc B4.size (.cells #[.pointer d.l, .int .i64 i, .pointer (some ⟨w.heap.size + 1 + 1, 0, none⟩)] 87)).grown r5 (by have := B4.size; simp; omega) (fun k hk => by cases hk; exact Nat.le_refl _)
  dsimp only [List.set_cons_succ, List.set_cons_zero] at kd5
  have h5 := h.keep B5
  clear k4 kd4 kr4 B4 r5 c0 c1 c2 c3 c4 h hb
  generalize w4.heap.size = gw at *
  refine (with_any d.c D.cur i _ b w5 h5.c (by omega) ks5 HL.out).mono ?_
  rintro e w6 ⟨gt, rfl, ht, b6⟩
  have kd6 := kd5.keep b6
  have kr6 := kr5.keep b6
  have kw6 := kw5.keep b6
  have ks6 := Blk.keep ks5 b6
  have h6 := h5.keep b6
  have B6 := B5.trans (b6.mono B5.size)
  clear kd5 kr5 kw5 ks5 h5 b6 B5
  obtain ⟨c0, c1, c2, c3, c4⟩ := kd6.c5
  go_wp2_with (first
    | ((with_reducible refine is_store 35 ?_); refine wp_store1 w.heap.size 2 _ _ (.pointer (some ⟨gt, 0, none⟩)) kd6 rfl one1.2.1 (by simp) rfl rfl rfl ?_; intro w7 kd7 r7; go_frame; obtain ⟨c0, c1, c2, c3, c4⟩ := kd7.c5)
    | ((with_reducible refine is_store 3 ?_); refine wp_store1 w.heap.size 4 _ _ (.int .i64 ((d.m : Int) + 1)) kd7 rfl one1.2.2 (by simp) rfl rfl rfl ?_; intro w8 kd8 r8; go_frame; obtain ⟨c0, c1, c2, c3, c4⟩ := kd8.c5)
    | ((with_reducible refine is_store 38 ?_); refine wp_storeB _ _ _ [.int .i64 d.n, .pointer d.s, .pointer (some ⟨gt, 0, none⟩), .pointer (some ⟨gw, 0, none⟩), .int .i64 ((d.m : Int) + 1)] ((kr6.grown r7 (by simp)).grown r8 (by simp)) diskN rfl (by simp [Value.oneCell']) rfl rfl ?_; intro w9 kr9 r9; go_frame))
  have K9 : Kept w6 w9 := ((Kept.grown r7 kd6 notDk).trans (Kept.grown r8 kd7 notDk)).trans (Kept.grown r9 ((kr6.grown r7 (by simp)).grown r8 (by simp)) notDk)
  have B9 := ((B6.grown r7 B6.size (fun k hk => by cases hk; exact Nat.le_refl _)).grown r8 (by have := r7.size; have := B6.size; omega) (fun k hk => by cases hk; exact Nat.le_refl _)).grown r9 (by have := r8.size; have := r7.size; have := B6.size; omega) (fun k hk => by cases hk; omega)
  clear c0 c1 c2 c3 c4
  obtain ⟨c0, c1, c2, c3, c4⟩ := kr9.c5
  refine bodyPost_ret (v := .tuple #[(⟨d.n, d.s, some ⟨gt, 0, none⟩, some ⟨gw, 0, none⟩, d.m + 1⟩ : DV).v, .int .i64 0]) (by simp [results, Tryd.results14, go_sem, c0, c1, c2, c3, c4]; rfl) rfl ⟨_, rfl, ?_, B9⟩
  have h9 := h6.kept K9
  refine ⟨h9.n, h9.hn, h9.s, ht.kept K9, ⟨gw, d.l, w.heap.size + 1 + 1, rfl, K9.blk _ _ _ (.inr (.inr (.inr (.inr rfl)))) kw6, K9.blk _ _ _ (.inr (.inr (.inr (.inl rfl)))) ks6, HL.out, h9.l⟩, ?_, ?_⟩
  · show d.m + 1 = _
    rw [h9.m]; rfl
  · intro x hx
    rcases List.mem_cons.1 hx with rfl | hx
    · exact hi
    · exact h9.b x hx
end Go.Proofs.YtlokfndonjldpaaDoor
set_option linter.unusedVariables false
namespace Go.Proofs.YtlokfndonjldpaaDoor
theorem drop_one {α : Type} {l : List α} {q : Nat} {x : α} (h : l[q]? = some x) : l.drop q = x :: l.drop (q + 1) := by
  obtain ⟨h1, h2⟩ := List.getElem?_eq_some_iff.1 h
  rw [List.drop_eq_getElem_cons h1, h2]
end Go.Proofs.YtlokfndonjldpaaDoor
set_option linter.unusedSimpArgs false
set_option linter.unusedVariables false
namespace Go.Proofs.YtlokfndonjldpaaDoor
open Go.RowKit

/-- the first k and the last k exchanged -/
def rv (xs : List Value) (k : Nat) : List Value := (List.range xs.length).map fun p => if p < k ∨ xs.length - k ≤ p then xs.getD (xs.length - 1 - p) undef else xs.getD p undef
theorem rv_len (xs : List Value) (k : Nat) : (rv xs k).length = xs.length := by simp [rv]
theorem rv_at (xs : List Value) (k p : Nat) (hp : p < xs.length) : (rv xs k)[p]? = some (if p < k ∨ xs.length - k ≤ p then xs.getD (xs.length - 1 - p) undef else xs.getD p undef) := by simp [rv, hp]
theorem rv_zero (xs : List Value) : rv xs 0 = xs := by
  apply List.ext_getElem?
  intro p
  by_cases hp : p < xs.length
  · rw [rv_at _ _ _ hp, if_neg (by omega), List.getD_eq_getElem?_getD, List.getElem?_eq_getElem hp]; rfl
  · rw [List.getElem?_eq_none (by rw [rv_len]; omega), List.getElem?_eq_none (by omega)]
theorem rv_end (xs : List Value) (k : Nat) (hk : xs.length ≤ 2 * k + 1) : rv xs k = xs.reverse := by
  apply List.ext_getElem?
  intro p
  by_cases hp : p < xs.length
  · rw [rv_at _ _ _ hp, List.getElem?_reverse hp, List.getD_eq_getElem?_getD, List.getD_eq_getElem?_getD, List.getElem?_eq_getElem (show xs.length - 1 - p < xs.length by omega), List.getElem?_eq_getElem hp]
    split
    · rfl
    · have : xs.length - 1 - p = p := by omega
      simp only [Option.getD_some, this]
  · rw [List.getElem?_eq_none (by rw [rv_len]; omega), List.getElem?_eq_none (by rw [List.length_reverse]; omega)]
theorem rv_next (xs : List Value) (k : Nat) (hk : 2 * k + 1 < xs.length) (x y : Value) (hx : (rv xs k)[k]? = some x) (hy : (rv xs k)[xs.length - 1 - k]? = some y) :
    ((rv xs k).set k y).set (xs.length - 1 - k) x = rv xs (k + 1) := by
  rw [rv_at _ _ _ (by omega), if_neg (by omega)] at hx hy
  apply List.ext_getElem?
  intro p
  rw [List.getElem?_set, List.length_set, rv_len, List.getElem?_set, rv_len]
  by_cases hp : p < xs.length
  · rw [rv_at _ (k + 1) _ hp]
    by_cases h1 : xs.length - 1 - k = p
    · rw [if_pos h1, if_pos (by omega), if_pos (by omega), ← hx]
      congr 2
      omega
    · rw [if_neg h1]
      by_cases h2 : k = p
      · rw [if_pos h2, if_pos (by omega), if_pos (by omega), ← hy]
        congr 2
        omega
      · rw [if_neg h2, rv_at _ _ _ hp]
        by_cases h3 : p < k ∨ xs.length - k ≤ p
        · rw [if_pos h3, if_pos (by omega)]
        · rw [if_neg h3, if_neg (by omega)]
  · rw [List.getElem?_eq_none (by rw [rv_len]; omega), if_neg (by omega), if_neg (by omega), List.getElem?_eq_none (by rw [rv_len]; omega)]

set_option maxRecDepth 100000 in
set_option maxHeartbeats 1000000 in
theorem rev_any (base : Nat) (A : Option Addr) (n c : Nat) (xs : List Value) (w : World) (hown : w.ownsRow base 36 1 (.slice A n c) n xs) (hbase : base ≤ w.heap.size) (hp : ∀ v ∈ xs, ∃ p, v = .pointer p) :
    Calls Tryd.prog 57 #[.slice A n c] w fun e w' => e = .returned (.tuple #[]) ∧ w'.ownsRow base 36 1 (.slice A n c) n xs.reverse ∧ Below base w w' := by
  have HL : Hid (xs.length = n) := by have := hown.1; show _ = _; omega
  have hn : n ≤ 9223372036854775807 := by
    obtain ⟨A', c', e, _, h1, h2⟩ := own_form hown
    cases e
    omega
  go_enter Tryd.func57, Tryd.ntmps57
  go_wp2_with fail
  go_loopw [2, 3] (fun i j wr => ∃ k : Nat, i = .int .i64 k ∧ j = .int .i64 ((n : Int) - 1 - k) ∧ k ≤ n ∧ 2 * k ≤ n + 1 ∧ wr.ownsRow base 36 1 (.slice A n c) n (rv xs k) ∧ Below base w wr) (fun i j _ => (intOf j + 1 - intOf i).toNat)
  case atStart =>
    refine ⟨0, rfl, ?_, Nat.zero_le _, by omega, by rw [rv_zero]; exact hown, Below.refl _ _⟩
    congr 1
    omega
  case round =>
    obtain ⟨k, rfl, rfl, hk, hk2, hown2, hbel⟩ := hrel
    by_cases hlt : 2 * k + 1 < n
    · have hlt2 : (k : Int) < (n : Int) - 1 - k := by omega
      obtain ⟨g, rfl, hg, hgl, x1, f1, s1⟩ := own_set hown2 (k := k) (by omega)
      obtain ⟨g', eg, _, _, x2, f2, s2⟩ := own_set hown2 (k := n - 1 - k) (by omega)
      cases eg
      obtain ⟨x, hx⟩ : ∃ x, (rv xs k)[k]? = some x := ⟨_, List.getElem?_eq_getElem (by rw [rv_len, HL.out]; omega)⟩
      obtain ⟨y, hy⟩ : ∃ y, (rv xs k)[n - 1 - k]? = some y := ⟨_, List.getElem?_eq_getElem (by rw [rv_len, HL.out]; omega)⟩
      have hpx : ∃ p, x = .pointer p := by
        rw [rv_at _ _ _ (by rw [HL.out]; omega), HL.out, if_neg (by omega), List.getD_eq_getElem?_getD, List.getElem?_eq_getElem (by rw [HL.out]; omega)] at hx
        exact hp x (by rw [← Option.some.inj hx]; exact List.getElem_mem _)
      have hpy : ∃ p, y = .pointer p := by
        rw [rv_at _ _ _ (by rw [HL.out]; omega), HL.out, if_neg (by omega), List.getD_eq_getElem?_getD, List.getElem?_eq_getElem (by rw [HL.out]; omega)] at hy
        exact hp y (by rw [← Option.some.inj hy]; exact List.getElem_mem _)
      obtain ⟨px, rfl⟩ := hpx
      obtain ⟨py, rfl⟩ := hpy
      rw [hx] at x1
      rw [hy] at x2
      have HX := hid hx
      have HY := hid hy
      have HS1 := hid s1
      clear s1 s2 hx hy
      have i1 : (0 : Int) ≤ (k : Int) := by omega
      have i2 : (k : Int) < (n : Int) := by omega
      have i3 : (0 : Int) ≤ (n : Int) - 1 - k := by omega
      have i4 : (n : Int) - 1 - k < (n : Int) := by omega
      have i5 : ((n : Int) - 1 - k).toNat = n - 1 - k := by omega
      have i6 : (k : Int) ≤ (n : Int) - 1 := by omega
      have HP := hid hp
      clear hp
      have ne : ¬ k = n - 1 - k := by omega
      have ne2 : ¬ n - 1 - k = k := by omega
      go_wp2_with fail
      go_region
      have S1 := hid (HS1.out (.pointer py))
      have S2 := hid (S1.out.1.stored (n - 1 - k) (.pointer px))
      have HN := hid (rv_next xs k (by rw [HL.out]; exact hlt) _ _ HX.out (by rw [HL.out]; exact HY.out))
      clear i1 i2 i3 i4 i5 i6 ne ne2 x1 x2 f1 f2
      go_wp2_with fail
      go_roundw
      case rel =>
        refine ⟨k + 1, by go_num, ?_, by omega, by omega, ?_, ?_⟩
        · congr 1
          omega
        · rw [← HN.out, HL.out]
          exact S2.out.1
        · exact ((hbel.grown S1.out.2 (by omega) (fun q hq => by cases hq; exact hg)).grown S2.out.2 (by have := S1.out.2.size; omega) (fun q hq => by cases hq; exact hg)).drew
      case measure => simp [intOf]; omega
    · have hlt2 : ¬ (k : Int) < (n : Int) - 1 - k := by omega
      go_wp2_with fail
      (first | refine bodyPost_ret (results_none rfl _ _ _) rfl ?_ | refine bodyPost_end (results_none rfl _ _ _) rfl ?_)
      rw [rv_end _ _ (by rw [HL.out]; omega)] at hown2
      exact ⟨rfl, hown2, hbel⟩
end Go.Proofs.YtlokfndonjldpaaDoor
set_option linter.unusedSimpArgs false
set_option linter.unusedVariables false
namespace Go.Proofs.YtlokfndonjldpaaDoor
open Go.RowKit

theorem wrT : OneC Tryd.prog 109 36 (.pointer none) 8 :=
  ⟨Tryd.underlying109, info_parts (by kernel_rfl : (Tryd.prog.info? 36).map (fun i => (i.zero, i.size, i.bytes)) = some (some (.pointer none), 1, 8)), rfl⟩
theorem notWr : ¬ dkT 36 := by unfold dkT; decide
def ptrV (g : Nat) : Value := .pointer (some ⟨g, 0, none⟩)
/-- the write in block g -/
def WrAt (w : World) (g : Nat) (x : Nat × List UInt8) : Prop := ∃ q gs, Blk w g 87 [.pointer q, .int .i64 x.1, .pointer (some ⟨gs, 0, none⟩)] ∧ BlkB w gs 84 x.2 ∧ x.2.length = 128
theorem WrAt.kept {w w' : World} {g : Nat} {x : Nat × List UInt8} (h : WrAt w g x) (hb : Kept w w') : WrAt w' g x := by
  obtain ⟨q, gs, h1, h2, h3⟩ := h
  exact ⟨q, gs, hb.blk _ _ _ (.inr (.inr (.inr (.inr rfl)))) h1, hb.blk _ _ _ (.inr (.inr (.inr (.inl rfl)))) h2, h3⟩
/-- the writes in the blocks ps -/
def WrL (w : World) : List Nat → List (Nat × List UInt8) → Prop
  | [], [] => True
  | g :: ps, x :: l => WrAt w g x ∧ WrL w ps l
  | _, _ => False
theorem WrL.kept {w w' : World} (hb : Kept w w') : ∀ {ps : List Nat} {l : List (Nat × List UInt8)}, WrL w ps l → WrL w' ps l
  | [], [], _ => trivial
  | _ :: _, _ :: _, h => ⟨h.1.kept hb, WrL.kept hb h.2⟩
theorem WrL.len {w : World} : ∀ {ps : List Nat} {l : List (Nat × List UInt8)}, WrL w ps l → ps.length = l.length
  | [], [], _ => rfl
  | _ :: _, _ :: _, h => by simp [WrL.len h.2]
theorem WrL.snoc {w : World} {g : Nat} {x : Nat × List UInt8} : ∀ {ps : List Nat} {l : List (Nat × List UInt8)}, WrL w ps l → WrAt w g x → WrL w (ps ++ [g]) (l ++ [x])
  | [], [], _, h => ⟨h, trivial⟩
  | _ :: _, _ :: _, h, k => ⟨h.1, WrL.snoc h.2 k⟩
theorem WrL.rev {w : World} : ∀ {ps : List Nat} {l : List (Nat × List UInt8)}, WrL w ps l → WrL w ps.reverse l.reverse
  | [], [], _ => trivial
  | g :: ps, x :: l, h => by
    rw [List.reverse_cons, List.reverse_cons]
    exact WrL.snoc (WrL.rev h.2) h.1
theorem WrL.at {w : World} : ∀ {ps : List Nat} {l : List (Nat × List UInt8)}, WrL w ps l → ∀ {k : Nat} {x : Nat × List UInt8}, l[k]? = some x → ∃ g, ps[k]? = some g ∧ WrAt w g x
  | g :: ps, y :: l, h, 0, x, hx => by
    simp at hx
    exact ⟨g, rfl, hx ▸ h.1⟩
  | g :: ps, y :: l, h, k + 1, x, hx => WrL.at h.2 (k := k) (by simpa using hx)
  | [], [], _, _, _, hx => by simp at hx
theorem ptrV_one (l : List Nat) : ∀ u ∈ l.map ptrV, u.oneCell' = true := by
  intro u hu
  obtain ⟨_, _, rfl⟩ := List.mem_map.1 hu
  rfl

set_option maxHeartbeats 1000000 in
theorem writes_any (d : DV) (D : Dk) (w : World) (h : DkV w d D) (hm : D.W.length ≤ 1000000) :
    Calls Tryd.prog 49 #[d.v] w fun e w' => ∃ A c ps, e = .returned (.slice A D.W.length c) ∧ RL w' 1 A D.W.length (ps.map ptrV) ∧ D.W.length ≤ c ∧ c ≤ 9223372036854775807 ∧ WrL w' ps D.W.reverse ∧ Below w.heap.size w w' := by
  have hdm : (d.m : Int) = (D.W.length : Int) := by rw [h.m]
  obtain ⟨n, hn⟩ : ∃ n, D.W.length = n := ⟨_, rfl⟩
  rw [show d.v = Value.agg #[.int .i64 d.n, .pointer d.s, .pointer d.c, .pointer d.l, .int .i64 D.W.length] from by unfold DV.v; rw [hdm]]
  rw [hn]
  have hm2 : n ≤ 1000000 := by omega
  have HN := hid hn
  clear hdm hn
  go_enter Tryd.func49, Tryd.ntmps49
  have hB : Below w.heap.size w (w.alloc (.cells #[.int .i64 d.n, .pointer d.s, .pointer d.c, .pointer d.l, .int .i64 n] 38)) := (Below.refl _ _).alloc (Nat.le_refl _) _
  go_wp2_with (at_make; refine wp_make0 _ rfl _ _ 109 rfl w.heap.size 36 _ 8 wrT .i64 .i64 _ n rfl rfl rfl (by omega) (by unfold maxLen; omega) (by simp) ?_; intro w2 hown r2; go_frame; have B2 := hB.grown r2 hB.size (fun k hk => by cases hk); have kd := (Blk.new w 38 [.int .i64 d.n, .pointer d.s, .pointer d.c, .pointer d.l, .int .i64 n]).grown r2 (by intro h; cases h); obtain ⟨c0, c1, c2, c3, c4⟩ := kd.c5)
  go_loopw [3, 4] (fun o p wr => ∃ (k : Nat) (pp : Option Addr) (ps : List Nat) (A : Option Addr) (c : Nat), k ≤ n ∧ p = .pointer pp ∧ o = .slice A k c ∧ wr.ownsRow w.heap.size 36 1 (.slice A k c) k (ps.map ptrV) ∧ WrL w ps (D.W.take k) ∧ Wl w pp (D.W.drop k) ∧ Below w.heap.size w wr) (fun o _ _ => match o with | .slice _ m _ => n - m | _ => 0)
  case atStart =>
    refine ⟨0, d.l, [], _, _, Nat.zero_le _, rfl, rfl, hown, trivial, ?_, B2⟩
    exact h.l
  case round =>
    obtain ⟨k, pp, ps, A, c, hk, rfl, rfl, hown2, hps, hwl, hbel⟩ := hrel
    clear hown r2 B2 kd c0 c1 c2 c3 c4 hB
    by_cases hlt : k < n
    · obtain ⟨x, hx⟩ : ∃ x, D.W[k]? = some x := ⟨_, List.getElem?_eq_getElem (by rw [HN.out]; exact hlt)⟩
      rw [drop_one hx] at hwl
      obtain ⟨i, s⟩ := x
      obtain ⟨g, q, gs, rfl, kb, ks, hs, hwl2⟩ := hwl
      have hat : WrAt w g (i, s) := ⟨q, gs, kb, ks, hs⟩
      have HX := hid hx
      clear hx
      go_wp2_with (at_builtin; refine wp_app _ rfl _ _ 109 rfl w.heap.size 36 _ 8 wrT _ _ _ (hown2.alloc _) rfl _ 1 1 _ (RL.new wr _ _ _ 1 1 rfl) rfl (one_only rfl) (by unfold maxLen; omega) (by omega) (by have := hbel.size; simp; omega) ?_; intro v3 w3 hown3 r3 a3; go_frame; have B3 := (hbel.alloc hbel.size (.cells #[.pointer (some ⟨g, 0, none⟩)] 36)).grown r3 (by have := hbel.size; simp; omega) (fun q hq => (hown2.lt q hq).1); obtain ⟨c0, _, _⟩ := (kb.keep B3).c3)
      obtain ⟨A3, c3, rfl, _, _, _⟩ := own_form hown3
      have T1 := hid (show D.W.take (k + 1) = D.W.take k ++ [(i, s)] by rw [List.take_add_one, HX.out]; rfl)
      go_roundw
      case rel =>
        refine ⟨k + 1, q, ps ++ [g], A3, c3, by omega, rfl, rfl, ?_, ?_, hwl2, B3⟩
        · rw [List.map_append]
          exact hown3
        · rw [T1.out]
          exact WrL.snoc hps hat
      case measure =>
        show n - (k + 1) < n - k
        omega
    · obtain rfl : k = n := by omega
      rw [List.drop_of_length_le (by rw [HN.out]; exact Nat.le_refl _)] at hwl
      rw [List.take_of_length_le (by rw [HN.out]; exact Nat.le_refl _)] at hps
      obtain rfl : pp = none := hwl
      obtain ⟨_, _, hav, hrl, hnc, hcm⟩ := own_form hown2
      cases hav
      go_wp2_with fail
      refine (rev_any w.heap.size A k c _ _ hown2 hbel.size (fun v hv => by obtain ⟨g, _, rfl⟩ := List.mem_map.1 hv; exact ⟨_, rfl⟩)).mono ?_
      rintro e w4 ⟨rfl, hown4, B4⟩
      go_wp2_with fail
      go_ret
      obtain ⟨_, _, hav, hr4, _, _⟩ := own_form hown4
      cases hav
      rw [← List.map_reverse] at hr4
      exact ⟨A, c, ps.reverse, rfl, hr4, hnc, hcm, WrL.kept (.below (hbel.trans B4)) (WrL.rev hps), hbel.trans B4⟩
end Go.Proofs.YtlokfndonjldpaaDoor
set_option linter.unusedSimpArgs false
set_option linter.unusedVariables false
namespace Go.Proofs.YtlokfndonjldpaaDoor
open Go.RowKit

def digit (ch j : Nat) : Nat := ch / 3 ^ j % 3
def tear (f : Secs) (x : Nat × List UInt8) (d : Nat) : Secs := if d = 1 then upd f x.1 x.2 else if d = 2 then upd f x.1 (x.2.take 64 ++ (f x.1).drop 64) else f
def crun (ch : Nat) : Nat → Secs → List (Nat × List UInt8) → Secs
  | _, f, [] => f
  | k, f, x :: l => crun ch (k + 1) (tear f x (digit ch (k % 40))) l
def Dk.crash (D : Dk) (ch : Nat) : Dk := ⟨D.n, crun ch 0 D.S D.W.reverse, []⟩
theorem crun_snoc (ch : Nat) (x : Nat × List UInt8) : ∀ (l : List (Nat × List UInt8)) (k : Nat) (f : Secs), crun ch k f (l ++ [x]) = tear (crun ch k f l) x (digit ch ((k + l.length) % 40))
  | [], k, f => rfl
  | y :: l, k, f => by
    simp only [List.cons_append, crun, crun_snoc ch x l]
    congr 2
    simp only [List.length_cons]
    congr 1
    omega
theorem digit_lt (ch j : Nat) : digit ch j < 3 := Nat.mod_lt _ (by omega)
/-- the fates, the first j of them set -/
def fates (ch j : Nat) : List Value := (List.range 40).map fun k => .int .i64 (if k < j then (digit ch k : Int) else 0)
theorem fates_len (ch j : Nat) : (fates ch j).length = 40 := by simp [fates]
theorem fates_at (ch j k : Nat) (hk : k < 40) : (fates ch j)[k]? = some (.int .i64 (if k < j then (digit ch k : Int) else 0)) := by simp [fates, hk]
theorem fates_next (ch j : Nat) (hj : j < 40) : (fates ch j).set j (.int .i64 (digit ch j)) = fates ch (j + 1) := by
  apply List.ext_getElem?
  intro k
  rw [List.getElem?_set, fates_len]
  by_cases hk : k < 40
  · rw [fates_at _ _ _ hk, fates_at _ _ _ hk]
    by_cases hjk : j = k
    · subst hjk
      rw [if_pos rfl, if_pos hk, if_pos (by omega)]
    · rw [if_neg hjk]
      by_cases h1 : k < j
      · rw [if_pos h1, if_pos (by omega)]
      · rw [if_neg h1, if_neg (by omega)]
  · rw [List.getElem?_eq_none (by rw [fates_len]; omega), List.getElem?_eq_none (by rw [fates_len]; omega), if_neg (by omega)]
theorem arrFates : ArrT Tryd.prog 108 (fates 0 0) := (by kernel_rfl : (Tryd.prog.info? 108).map (fun i => (i.zero, i.size)) = some (some (.agg (fates 0 0).toArray), 40))
theorem fates_zero (ch : Nat) : fates 0 0 = fates ch 0 := by
  unfold fates
  simp

set_option maxRecDepth 100000 in
set_option maxHeartbeats 2000000 in
theorem crash_any (d : DV) (D : Dk) (ch : Nat) (w : World) (h : DkV w d D) (hm : D.W.length ≤ 1000000) (hch : ch < 18446744073709551616) :
    Calls Tryd.prog 29 #[d.v, .int .u64 ch] w fun e w' => ∃ d' : DV, e = .returned d'.v ∧ DkV w' d' (D.crash ch) ∧ Below w.heap.size w w' := by
  have HW : Hid (∀ w', Below w.heap.size w w' → Calls Tryd.prog 49 #[d.v] w' fun e w'' => ∃ A c ps, e = .returned (.slice A D.W.length c) ∧ RL w'' 1 A D.W.length (ps.map ptrV) ∧ D.W.length ≤ c ∧ c ≤ 9223372036854775807 ∧ WrL w'' ps D.W.reverse ∧ Below w'.heap.size w' w'') := fun w' hb => writes_any d D w' (h.keep hb) hm
  unfold DV.v at HW
  rw [show d.v = Value.agg #[.int .i64 d.n, .pointer d.s, .pointer d.c, .pointer d.l, .int .i64 d.m] from rfl]
  go_enter Tryd.func29, Tryd.ntmps29
  go_wp2_with ((with_reducible refine is_alloc 108 ?_); refine wp_allocN (w.heap.size + 1 + 1) (by simp) _ arrFates ?_; intro w3 k3 b3 s3; go_frame; obtain ⟨kd, kr, B3⟩ := two_boxes (cs1 := [.int .i64 d.n, .pointer d.s, .pointer d.c, .pointer d.l, .int .i64 d.m]) (cs2 := DV.zero.cs) b3; clear b3 s3)
  rw [fates_zero ch] at k3
  go_loopw [1, 6, 11] (fun c _ j wr => ∃ q : Nat, q ≤ 40 ∧ j = .int .i64 q ∧ c = .int .u64 ((ch / 3 ^ q : Nat) : Int) ∧ Blk wr w.heap.size 38 [.int .i64 d.n, .pointer d.s, .pointer d.c, .pointer d.l, .int .i64 d.m] ∧ Blk wr (w.heap.size + 1) 38 DV.zero.cs ∧ Blk wr (w.heap.size + 1 + 1) 108 (fates ch q) ∧ Below w.heap.size w wr) (fun _ _ j _ => 40 - (intOf j).toNat)
  case atStart => exact ⟨0, by omega, rfl, by simp, kd, kr, k3, B3⟩
  case round =>
    obtain ⟨q, hq, rfl, rfl, kd2, kr2, kf2, hbel⟩ := hrel
    clear kd kr k3 B3
    by_cases hlt : q < 40
    · have hc : ch / 3 ^ q < 18446744073709551616 := Nat.lt_of_le_of_lt (Nat.div_le_self _ _) hch
      have E1 : ch / 3 ^ (q + 1) = ch / 3 ^ q / 3 := by rw [Nat.div_div_eq_div_mul, Nat.pow_succ]
      have hd : digit ch q = ch / 3 ^ q % 3 := rfl
      have HE := hid E1
      have HD := hid hd
      clear E1 hd
      have cf := kf2.cell q
      rw [fates_at _ _ _ hlt] at cf
      have ff := kf2.frozen q
      generalize ch / 3 ^ q = y at *
      go_wp2_with fail
      have ev : Value.int .i64 ((y : Int) % 3) = .int .i64 ((digit ch q : Nat) : Int) := by rw [HD.out]; rfl
      rw [ev]
      have S := hid (kf2.setg q (.int .i64 (digit ch q)))
      go_roundw
      case rel =>
        refine ⟨q + 1, by omega, by go_num, by rw [HE.out]; rfl, kd2.grown S.out (by simp; omega), kr2.grown S.out (by simp), ?_, hbel.grown S.out hbel.size (fun k hk => by cases hk; omega)⟩
        rw [← fates_next ch q hlt]
        exact kf2.set_ q _
      case measure => simp [intOf]; omega
    · obtain rfl : q = 40 := by omega
      obtain ⟨c0, c1, c2, c3, c4⟩ := kd2.c5
      go_wp2_with fail
      refine (HW.out _ hbel).mono ?_
      rintro e w5 ⟨A, c, ps, rfl, hr, hnc, hcm, hwl, b5⟩
      have kd5 := kd2.keep b5
      have kr5 := kr2.keep b5
      have kf5 := kf2.keep b5
      have B5 := hbel.trans (b5.mono hbel.size)
      have h5 := h.keep B5
      have hin : ∀ x ∈ D.W.reverse, x.1 < D.n := fun x hx => h.b x (List.mem_reverse.1 hx)
      have HI := hid hin
      have hn := h.hn
      obtain ⟨L, hL⟩ : ∃ L, D.W.reverse = L := ⟨_, rfl⟩
      have hLn : L.length = D.W.length := by rw [← hL, List.length_reverse]
      rw [hL] at hwl HI
      have HL := hid hL
      clear hL HW kd2 kr2 kf2 hbel b5 h c0 c1 c2 c3 c4 hin
      obtain ⟨n, hn2⟩ : ∃ n, D.W.length = n := ⟨_, rfl⟩
      rw [hn2] at hr hnc hLn hm ⊢
      have HLn := hid hLn
      have HN := hid hn2
      clear hLn hn2
      go_wp2_with fail
      go_loopw [7, 27] (fun now i wr => ∃ (k : Nat) (pp : Option Addr), k ≤ n ∧ i = .int .i64 k ∧ now = .pointer pp ∧ Tree wr pp (crun ch 0 D.S (L.take k)) ∧ Below w5.heap.size w5 wr) (fun _ i _ => n - (intOf i).toNat)
      case atStart => exact ⟨0, d.s, Nat.zero_le _, rfl, rfl, h5.s, Below.refl _ _⟩
      case round =>
        obtain ⟨k, pp, hk, rfl, rfl, ht, hbel⟩ := hrel
        by_cases hlt : k < n
        · obtain ⟨x, hx⟩ : ∃ x, L[k]? = some x := ⟨_, List.getElem?_eq_getElem (by rw [HLn.out]; exact hlt)⟩
          obtain ⟨g, hg, q, gs, kb, ks, hs⟩ := hwl.at hx
          have hxn : x.1 < D.n := HI.out x (List.mem_of_getElem? hx)
          have T1 := hid (show crun ch 0 D.S (L.take (k + 1)) = tear (crun ch 0 D.S (L.take k)) x (digit ch (k % 40)) by
            rw [List.take_add_one, hx, Option.toList_some, crun_snoc, List.length_take, HLn.out, Nat.min_eq_left hk, Nat.zero_add])
          clear hx
          obtain ⟨i, s⟩ := x
          dsimp only at kb ks hs hxn
          obtain ⟨b0, o0, rfl, hb0, hcell⟩ := hr.2 (by omega)
          have cl : wr.cell? ⟨b0, o0 + k, none⟩ = some (.pointer (some ⟨g, 0, none⟩)) := (hbel.cell hb0).trans (hcell k _ (by rw [List.getElem?_map, hg]; rfl))
          have kf6 := kf5.keep hbel
          have cf := kf6.cell (k % 40)
          rw [fates_at _ _ _ (Nat.mod_lt _ (by omega)), if_pos (Nat.mod_lt _ (by omega))] at cf
          have hdl := digit_lt ch (k % 40)
          generalize hdg : digit ch (k % 40) = dg at *
          have kb6 := kb.keep hbel
          have ks6 := Blk.keep ks hbel
          obtain ⟨x0, x1, x2⟩ := kb6.c3
          have HG := hid hg
          clear hcell hg kb ks hdg
          obtain rfl | rfl | rfl : dg = 0 ∨ dg = 1 ∨ dg = 2 := by omega
          · have HT : Hid (crun ch 0 D.S (L.take (k + 1)) = crun ch 0 D.S (L.take k)) := by
              rw [T1.out]; exact rfl
            go_wp2_with fail
            go_roundw
            case rel => exact ⟨k + 1, pp, by omega, by go_num, rfl, by rw [HT.out]; exact ht, hbel⟩
            case measure => simp [intOf]; omega
          · have HT : Hid (crun ch 0 D.S (L.take (k + 1)) = upd (crun ch 0 D.S (L.take k)) i s) := by
              rw [T1.out]; exact rfl
            go_wp2_with fail
            go_still_tail 9, (by kernel_rfl)
            go_wp2_with fail
            have bd : Below wr.heap.size wr wr.drew := (Below.refl _ _).drew
            refine (with_any pp _ i gs s wr.drew (ht.keep bd) (by omega) (Blk.keep ks6 bd) hs).mono ?_
            rintro e w7 ⟨g7, rfl, ht7, b7⟩
            have B7 := hbel.trans ((bd.trans b7).mono hbel.size)
            go_wp2_with fail
            go_roundw
            case rel => exact ⟨k + 1, _, by omega, by go_num, rfl, by rw [HT.out]; exact ht7, B7⟩
            case measure => simp [intOf]; omega
          · have HT : Hid (crun ch 0 D.S (L.take (k + 1)) = upd (crun ch 0 D.S (L.take k)) i (s.take 64 ++ (crun ch 0 D.S (L.take k) i).drop 64)) := by
              rw [T1.out]; exact rfl
            have hfl := ht.len i (by omega)
            go_wp2_with fail
            refine (find_any pp _ i wr ht (by omega)).mono ?_
            rintro e w7 ⟨rfl, b7⟩
            have HFL := hid hfl
            have ht7 := ht.keep b7
            have ks7 := Blk.keep ks6 b7
            have kb7 := kb6.keep b7
            have B7 := hbel.trans (b7.mono hbel.size)
            clear ht b7 hbel ks6 kb6 x0 x1 x2 cf hfl
            generalize hF : crun ch 0 D.S (L.take k) = F at *
            clear hF
            go_wp2_with (first
              | ((with_reducible refine is_alloc 84 ?_); refine wp_allocB _ arrSec ?_; intro w8 k8 b8 s8; go_frame; have ht8 := ht7.keep b8; have ks8 := Blk.keep ks7 b8; have kb8 := kb7.keep b8)
              | ((with_reducible refine is_store 84 ?_); refine wp_storeB _ _ _ _ k8 (arrSecN.trans (by rw [List.length_map, HFL.out])) (by rw [List.length_map, List.length_map, HFL.out, zero128_len]) (byV_one _) rfl rfl ?_; intro w9 k9 r9; go_frame))
            have b9 := b8.grown r9 b8.size (fun k hk => by cases hk; exact Nat.le_refl _)
            have kb9 := kb7.keep b9
            have ks9 := Blk.keep ks7 b9
            clear ht8 ks8 kb8 k8 r9 b8 s8
            obtain ⟨x0, x1, x2⟩ := kb9.c3
            go_still_tail 7, (by kernel_rfl)
            have hs64 : ((s.take 64).map byV).length = 64 := by simp [hs]
            refine wp_copyB w7.heap.size 0 64 128 5 _ _ (show Blk w9.drew _ _ _ from k9) bytesT.1 bytesN (some ⟨gs, 0, none⟩) 64 128 ((s.take 64).map byV) (show RL w9.drew 1 _ _ _ by
              have := BlkB.rb (show BlkB w9.drew gs _ s from ks9) 0 64 (by omega)
              simpa [RB] using this) (byV_one _) rfl rfl (by rw [List.length_map, HFL.out]; omega) (fun w10 k10 r10 => ?_)
            go_frame
            have ec : List.take 0 ((F i).map byV) ++ List.take (min 64 64) ((s.take 64).map byV) ++ List.drop (0 + min 64 64) ((F i).map byV) = (s.take 64 ++ (F i).drop 64).map byV := by
              rw [Nat.min_self, List.take_zero, List.nil_append, Nat.zero_add, List.take_of_length_le (by rw [hs64]; exact Nat.le_refl _), ← List.map_drop, ← List.map_append]
            rw [ec] at k10
            have b10 := b9.drew.grown r10 b9.size (fun k hk => by cases hk; exact Nat.le_refl _)
            have kb10 := kb7.keep b10
            obtain ⟨y0, y1, y2⟩ := kb10.c3
            have ht10 := ht7.keep b10
            clear ec k9 r10 kb9 ks9 x0 x1 x2 b9 hs64
            go_wp2_with fail
            refine (with_any pp F i w7.heap.size (s.take 64 ++ (F i).drop 64) w10 ht10 (by omega) k10 (by simp [hs, HFL.out])).mono ?_
            rintro e w11 ⟨g11, rfl, ht11, b11⟩
            have B11 := (B7.trans (b10.mono B7.size)).trans (b11.mono (B7.trans (b10.mono B7.size)).size)
            go_wp2_with fail
            go_roundw
            case rel => exact ⟨k + 1, _, by omega, by go_num, rfl, by rw [HT.out]; exact ht11, B11⟩
            case measure => simp [intOf]; omega
        · obtain rfl : k = n := by omega
          have kd6 := kd5.keep hbel
          have kr6 := kr5.keep hbel
          have B6 := B5.trans (hbel.mono B5.size)
          obtain ⟨c0, c1, c2, c3, c4⟩ := kd6.c5
          rw [List.take_of_length_le (by rw [HLn.out]; exact Nat.le_refl _)] at ht
          go_wp2_with ((with_reducible refine is_store 38 ?_); refine wp_storeB _ _ _ [.int .i64 d.n, .pointer pp, .pointer pp, .pointer none, .int .i64 0] kr6 diskN rfl (by simp [Value.oneCell']) rfl rfl ?_; intro w9 kr9 r9; go_frame)
          obtain ⟨e0, e1, e2, e3, e4⟩ := kr9.c5
          have K9 := Kept.grown r9 kr6 notDk
          refine bodyPost_ret (v := (⟨d.n, pp, pp, none, 0⟩ : DV).v) (by simp [results, Tryd.results29, go_sem, e0, e1, e2, e3, e4]; rfl) rfl ⟨_, rfl, ?_, B6.grown r9 B6.size (fun k hk => by cases hk; omega)⟩
          have ht9 := ht.kept K9
          rw [← HL.out] at ht9
          exact ⟨h5.n, h5.hn, ht9, ht9, rfl, rfl, fun x hx => by cases hx⟩
end Go.Proofs.YtlokfndonjldpaaDoor
