/- intact of package wal, walked. Conditions: the sectors read; the table of remainders is laid. -/
import Derived.Test.YtlokfndonjldpaaDoorHdr
import Derived.Test.YtlokfndonjldpaaDoorTag
import Derived.Test.YtlokfndonjldpaaDoorSls
set_option linter.unusedSimpArgs false
set_option linter.unusedVariables false
namespace Go.Proofs.YtlokfndonjldpaaDoor
open Go.RowKit

/-- a slice of sectors that reads -/
structure SecL (w : World) (A : Option Addr) (n : Nat) (fs : List (List UInt8)) : Prop where
  len : fs.length = n
  l128 : ∀ s ∈ fs, s.length = 128
  r : ∃ ss : List Sl, RL w 1 A n (ss.map Sl.v) ∧ Sls (fun _ => True) w ss fs
section
variable {w w' : World} {A : Option Addr} {n : Nat} {fs : List (List UInt8)}
theorem SecL.keep (h : SecL w A n fs) (hb : Below w.heap.size w w') : SecL w' A n fs :=
  ⟨h.len, h.l128, h.r.elim fun ss h => ⟨ss, h.1.below hb, h.2.keep hb⟩⟩
theorem SecL.at (h : SecL w A n fs) {i : Nat} (hi : i < n) : ∃ b off b' o' c' s, A = some ⟨b, off, none⟩ ∧ b < w.heap.size ∧ fs[i]? = some s ∧ s.length = 128 ∧ w.cell? ⟨b, off + i, none⟩ = some (.slice (some ⟨b', o', none⟩) 128 c') ∧
    RB w (some ⟨b', o', none⟩) 128 s ∧ 128 ≤ c' ∧ c' ≤ 9223372036854775807 := by
  obtain ⟨ss, h1, h2⟩ := h.r
  obtain ⟨b, off, e, hb, hc⟩ := h1.2 (by omega)
  have hs : fs[i]? = some (fs[i]'(by rw [h.len]; exact hi)) := List.getElem?_eq_getElem _
  have hl := h.l128 _ (List.mem_of_getElem? hs)
  obtain ⟨sl, hsl, hr⟩ := h2.at hs
  generalize fs[i]'(by rw [h.len]; exact hi) = s at *
  have hn : sl.n = 128 := by have := hr.len; omega
  obtain ⟨A', n', c'⟩ := sl
  dsimp only at hn
  subst hn
  have hrb := hr.rb
  obtain ⟨b', o', x, e', _⟩ := RB.at hrb (k := 0) (show 0 < 128 by decide)
  dsimp only at e' hrb
  subst e'
  exact ⟨b, off, b', o', c', s, e, hb, hs, hl, hc i _ (by rw [List.getElem?_map, hsl]; rfl), hrb, hr.nc, hr.cm⟩
theorem SecL.pre (h : SecL w A n fs) {k : Nat} (hk : k ≤ n) : SecL w A k (fs.take k) := by
  obtain ⟨ss, h1, h2⟩ := h.r
  refine ⟨by rw [List.length_take, h.len]; exact Nat.min_eq_left hk, fun s hs => h.l128 s (List.mem_of_mem_take hs), ss.take k, ?_, ?_⟩
  · have := h1.pre hk
    rwa [Nat.mul_one, ← List.map_take] at this
  · refine ⟨by rw [List.length_take, List.length_take, h2.1], fun i s l ha hb => ?_⟩
    rw [List.getElem?_take] at ha hb
    split at ha
    · rw [if_pos (by assumption)] at hb
      exact h2.2 i s l ha hb
    · cases ha
theorem SecL.cut (h : SecL w A n fs) {k c : Nat} (hk : k ≤ n) (hc : n ≤ c) : SecL w (if c = k then A else A.map (·.add k)) (n - k) (fs.drop k) := by
  obtain ⟨ss, h1, h2⟩ := h.r
  refine ⟨by rw [List.length_drop, h.len], fun s hs => h.l128 s (List.mem_of_mem_drop hs), ss.drop k, ?_, ?_⟩
  · have := h1.cut hk hc
    rwa [Nat.mul_one, ← List.map_drop] at this
  · refine ⟨by rw [List.length_drop, List.length_drop, h2.1], fun i s l ha hb => ?_⟩
    rw [List.getElem?_drop] at ha hb
    exact h2.2 _ s l ha hb
end
/-- tags are equal if their numbers are -/
theorem tag_eq {l r : List UInt8} (hl : 24 ≤ l.length) (hr : 24 ≤ r.length) : (tE l = tE r ∧ tG l = tG r ∧ tL l = tL r) ↔ l.take 24 = r.take 24 := by
  have e : ∀ x : List UInt8, tE (x.take 24) = tE x ∧ tG (x.take 24) = tG x ∧ tL (x.take 24) = tL x := fun x => by
    unfold tE tG tL
    rw [List.take_take, List.drop_take, List.drop_take, List.take_take, List.take_take]
    exact ⟨rfl, rfl, rfl⟩
  constructor
  · rintro ⟨h1, h2, h3⟩
    rw [← tagB_of (l.take 24) (by simp; omega), ← tagB_of (r.take 24) (by simp; omega), (e l).1, (e l).2.1, (e l).2.2, (e r).1, (e r).2.1, (e r).2.2, h1, h2, h3]
  · intro h
    rw [← (e l).1, ← (e l).2.1, ← (e l).2.2, ← (e r).1, ← (e r).2.1, ← (e r).2.2, h]
    exact ⟨rfl, rfl, rfl⟩
theorem tagV_take (l : List UInt8) : tagV (l.take 24) = tagV l := by
  unfold tagV tE tG tL
  rw [List.take_take, List.drop_take, List.drop_take, List.take_take, List.take_take]
  rfl
theorem part_take {s : List UInt8} (h : s.length = 128) (j : Nat) (hj : j < 2) : (part s).take (40 * j) ++ (s.drop (64 * j + 24)).take 40 = (part s).take (40 * (j + 1)) := by
  have q1 : ((s.drop 24).take 40).length = 40 := by simp [h]
  have q2 : (s.drop 88).length = 40 := by simp [h]
  unfold part
  rcases j with _ | _ | j
  · show ((s.drop 24).take 40 ++ s.drop 88).take 0 ++ (s.drop 24).take 40 = ((s.drop 24).take 40 ++ s.drop 88).take 40
    rw [List.take_zero, List.nil_append, List.take_left' q1]
  · show ((s.drop 24).take 40 ++ s.drop 88).take 40 ++ (s.drop 88).take 40 = ((s.drop 24).take 40 ++ s.drop 88).take 80
    rw [List.take_left' q1, List.take_of_length_le (show (s.drop 88).length ≤ 40 by omega), List.take_of_length_le (show ((s.drop 24).take 40 ++ s.drop 88).length ≤ 80 by rw [List.length_append]; omega)]
  · omega
theorem parts_succ {fs : List (List UInt8)} {i : Nat} {s : List UInt8} (h : fs[i]? = some s) : parts (fs.take (i + 1)) = parts (fs.take i) ++ part s := by
  unfold parts
  rw [List.take_add_one, h, List.flatMap_append]
  simp

def intactE : Option (List UInt8 × List UInt8 × Nat) → Ending → World → World → Prop
  | none, e, w, w' => e = .returned (.tuple #[.slice none 0 0, .agg tagZ.toArray, .int .i64 0]) ∧ Below w.heap.size w w'
  | some (t, p, k), e, w, w' => ∃ s : Sl, e = .returned (.tuple #[s.v, tagV t, .int .i64 k]) ∧ SlR (fun b => w.heap.size ≤ b) w' s p ∧ Below w.heap.size w w'

set_option maxRecDepth 100000 in
set_option maxHeartbeats 2000000 in
theorem intact_no (A : Option Addr) (n c : Nat) (fs : List (List UInt8)) (w : World) (h : SecL w A n fs) (h1 : 1 ≤ n) (hnc : n ≤ c) (hcm : c ≤ 9223372036854775807) (hno : 8192 < recLen fs ∨ n < cnt (recLen fs)) :
    Calls Tryd.prog 42 #[.slice A n c] w fun e w' => intactE (intactP fs) e w w' := by
  have hP : intactP fs = none := by
    unfold intactP
    rw [if_neg]
    rintro ⟨a, b, _⟩
    rw [h.len] at b
    omega
  rw [hP]
  obtain ⟨b, off, b0, o0, c0, s0, rfl, hb, hs0, hl0, hcell, hrb, hc1, hc2⟩ := h.at (i := 0) (by omega)
  have hL : num ((s0.drop 24).take 4) = recLen fs := by
    unfold recLen
    cases fs with
    | nil => cases hs0
    | cons x r => cases hs0; rfl
  rw [← hL] at hno
  rw [Nat.add_zero] at hcell
  have n24 : ¬ c0 = 24 := by omega
  have n0 : ¬ n = 0 := by omega
  have HT := hid (fun w' (hb : Below w.heap.size w w') => tagOf_any b0 o0 128 c0 s0 w' (hrb.below hb) (by omega) hc1 hc2)
  have HV := hid (fun w' (hb : Below w.heap.size w w') => value_any (some ⟨b0, o0 + 24, none⟩) 4 (c0 - 24) _ w' ((hrb.below hb).sub 24 4 (by omega)) (by omega))
  go_enter Tryd.func42, Tryd.ntmps42
  go_wp2_with ((with_reducible refine is_alloc 95 ?_); refine wp_allocB (w := w) _ arrTag ?_; intro w1 k1 b1 s1; go_frame; have hcell := (b1.cell (p := ⟨b, off, none⟩) hb).trans hcell)
  refine (HT.out _ b1).mono ?_
  rintro e w2 ⟨rfl, b2⟩
  have k2 := k1.keep b2
  have B2 := b1.trans (b2.mono b1.size)
  have hc2' := (b2.cell (p := ⟨b, off, none⟩) (by have := b1.size; show b < w1.heap.size; omega)).trans hcell
  clear hcell k1 b1 s1 b2 HT
  unfold tagV
  go_wp2_with (first
    | ((with_reducible refine is_alloc 95 ?_); refine wp_allocB (w := w2) _ arrTag ?_; intro w3 k3 b3 s3; go_frame)
    | ((with_reducible refine is_store 95 ?_); refine wp_storeB w2.heap.size _ _ (tagCs s0) k3 tagN rfl (tag_one s0) rfl rfl ?_; intro w4 k4 r4; go_frame; have hc4 : w4.cell? ⟨b, off, none⟩ = some (.slice (some ⟨b0, o0, none⟩) 128 c0) := (World.cell?_of_block (r4.block b (by have := B2.size; have := b3.size; omega) (by have := B2.size; simp; omega))).trans ((b3.cell (p := ⟨b, off, none⟩) (by have := B2.size; show b < w2.heap.size; omega)).trans hc2')))
  have k3' := (k2.keep b3).grown r4 (by have := k2.lt; simp; omega)
  have B4 := (B2.trans (b3.mono B2.size)).grown r4 (B2.trans (b3.mono B2.size)).size (fun k hk => by cases hk; exact B2.size)
  refine (HV.out _ B4).mono ?_
  rintro e w' ⟨rfl, rfl⟩
  rw [hL] at hno ⊢
  have hLm : recLen fs < 4294967296 := by
    rw [← hL]
    have := num_lt ((s0.drop 24).take 4)
    rwa [show ((s0.drop 24).take 4).length = 4 by simp [hl0]] at this
  generalize recLen fs = L at *
  clear hc4 hc2' HV k3 k2 r4 b3 s3
  by_cases hbig : 8192 < L
  · have t1 : (L : Int) > 8192 := by omega
    clear hno
    go_wp2_with ((with_reducible refine is_store 95 ?_); refine wp_storeB w.heap.size _ _ tagZ k3' tagN rfl (by decide) rfl rfl ?_; intro w5 k5 r5; go_frame)
    obtain ⟨e0, e1, e2⟩ := k5.c3
    refine bodyPost_ret (v := .tuple #[.slice none 0 0, .agg tagZ.toArray, .int .i64 0]) (by simp [results, Tryd.results42, go_sem, e0, e1, e2]; rfl) rfl ⟨rfl, B4.grown r5 B4.size (fun k hk => by cases hk; exact Nat.le_refl _)⟩
  · have t1 : ¬ (L : Int) > 8192 := by omega
    have hK : n < cnt L := by omega
    have e1 : ((L : Int) + 8 + 80 - 1) / 80 = (cnt L : Int) := by unfold cnt; omega
    have t2 : (cnt L : Int) > (n : Int) := by omega
    clear hno
    go_wp2_with ((with_reducible refine is_store 95 ?_); refine wp_storeB w.heap.size _ _ tagZ k3' tagN rfl (by decide) rfl rfl ?_; intro w5 k5 r5; go_frame)
    obtain ⟨e0, e1, e2⟩ := k5.c3
    refine bodyPost_ret (v := .tuple #[.slice none 0 0, .agg tagZ.toArray, .int .i64 0]) (by simp [results, Tryd.results42, go_sem, e0, e1, e2]; rfl) rfl ⟨rfl, B4.grown r5 B4.size (fun k hk => by cases hk; exact Nat.le_refl _)⟩
end Go.Proofs.YtlokfndonjldpaaDoor
