/- The reference's Intact, walked. Conditions: the bytes read. -/
import Derived.Test.YtlokfndonjldpaaDoorRefRec
import Derived.Test.YtlokfndonjldpaaDoorIntB
import Derived.Test.YtlokfndonjldpaaDoorApp0
import Derived.Test.YtlokfndonjldpaaDoorHead
set_option linter.unusedSimpArgs false
set_option linter.unusedVariables false
namespace Go.Proofs.YtlokfndonjldpaaDoor
open Go.RowKit

/-- an entry as a value -/
structure En where
  (e g l : Nat) (p : Sl) (k : Nat)
def En.cs (x : En) : List Value := [.int .u64 x.e, .int .u64 x.g, .int .u64 x.l, x.p.v, .int .i64 x.k]
def En.v (x : En) : Value := .agg #[.int .u64 x.e, .int .u64 x.g, .int .u64 x.l, x.p.v, .int .i64 x.k]
def En.zero : En := ⟨0, 0, 0, ⟨none, 0, 0⟩, 0⟩
theorem en_one (x : En) : ∀ v ∈ x.cs, v.oneCell' = true := by
  intro v hv
  simp only [En.cs, List.mem_cons, List.not_mem_nil, or_false] at hv
  rcases hv with rfl | rfl | rfl | rfl | rfl <;> rfl
theorem arrEn : ArrT Tryd.prog 102 En.zero.cs := (by kernel_rfl : (Tryd.prog.info? 102).map (fun i => (i.zero, i.size)) = some (some (.agg En.zero.cs.toArray), 5))
theorem enN : (Tryd.prog.info? 102).map (·.size) = some 5 := by kernel_rfl
/-- what Intact of the reference gives -/
def rintE (r : Option (List UInt8 × List UInt8 × Nat)) (e : Ending) (w w' : World) : Prop :=
  ∃ E : En, e = .returned (.tuple #[E.v, .bool r.isSome]) ∧ Below w.heap.size w w' ∧ ∀ t p k, r = some (t, p, k) → E.e = tE t ∧ E.g = tG t ∧ E.l = tL t ∧ E.k = k ∧ SlR (fun b => w.heap.size ≤ b) w' E.p p
theorem recLen_at {fs : List (List UInt8)} {j : Nat} {s : List UInt8} (h : fs[j]? = some s) : recLen (fs.drop j) = num ((s.drop 24).take 4) ∧ tag1 (fs.drop j) = s.take 24 := by
  obtain ⟨hlt, he⟩ := List.getElem?_eq_some_iff.1 h
  unfold recLen tag1
  rw [List.drop_eq_getElem_cons hlt, he]
  exact ⟨rfl, rfl⟩
theorem parts_at : ∀ {gs : List (List UInt8)} {q : Nat} {s : List UInt8}, (∀ s ∈ gs, s.length = 128) → gs[q]? = some s → ((parts gs).drop (80 * q)).take 80 = part s
  | [], q, s, _, h => by simp at h
  | x :: r, 0, s, hl, h => by
    simp at h
    subst h
    have := part_len (hl x (List.mem_cons_self ..))
    unfold parts
    rw [List.flatMap_cons, Nat.mul_zero, List.drop_zero, List.take_left' this]
  | x :: r, q + 1, s, hl, h => by
    have h1 := part_len (hl x (List.mem_cons_self ..))
    have ih := parts_at (gs := r) (q := q) (s := s) (fun y hy => hl y (List.mem_cons_of_mem _ hy)) (by simpa using h)
    unfold parts at *
    rw [List.flatMap_cons, show 80 * (q + 1) = 80 + 80 * q by omega, ← List.drop_drop, List.drop_left' h1, ih]
/-- the data of half a sector -/
theorem half_at {fs : List (List UInt8)} (h : ∀ s ∈ fs, s.length = 128) {j K i : Nat} (hK : j + K ≤ fs.length) (hi : i < 2 * K) :
    (fs.flatten.drop (128 * j + 64 * i + 24)).take 40 = ((parts ((fs.drop j).take K)).drop (40 * i)).take 40 := by
  obtain ⟨q, b, hb, rfl⟩ : ∃ q b, b < 2 ∧ i = 2 * q + b := ⟨i / 2, i % 2, Nat.mod_lt _ (by omega), by omega⟩
  have hs : fs[j + q]? = some (fs[j + q]'(by omega)) := List.getElem?_eq_getElem _
  generalize fs[j + q]'(by omega) = s at hs
  have hsl := h s (List.mem_of_getElem? hs)
  have hg : ((fs.drop j).take K)[q]? = some s := by rw [List.getElem?_take, if_pos (by omega), List.getElem?_drop]; exact hs
  have hp := parts_at (fun x hx => h x (List.mem_of_mem_drop (List.mem_of_mem_take hx))) hg
  have e1 := flat_in h hs (64 * b + 24) 40 (by omega)
  rw [show 128 * (j + q) + (64 * b + 24) = 128 * j + 64 * (2 * q + b) + 24 by omega] at e1
  rw [e1]
  have e2 : ((parts ((fs.drop j).take K)).drop (40 * (2 * q + b))).take 40 = (((parts ((fs.drop j).take K)).drop (80 * q)).take 80 |>.drop (40 * b)).take 40 := by
    rw [List.drop_take, List.drop_drop, List.take_take, show 80 * q + 40 * b = 40 * (2 * q + b) by omega, Nat.min_eq_left (by omega)]
  rw [e2, hp]
  rcases b with _ | _ | b
  · unfold part
    rw [Nat.mul_zero, List.drop_zero, List.take_left' (by simp [hsl]), Nat.zero_add]
  · unfold part
    rw [Nat.mul_one, List.drop_left' (by simp [hsl])]
  · omega

set_option maxRecDepth 100000 in
set_option maxHeartbeats 4000000 in
theorem refIntact_out (A : Option Addr) (c : Nat) (fs : List (List UInt8)) (j : Nat) (w : World) (hr : RB w A (128 * fs.length) fs.flatten) (hn : fs.length ≤ 1000) (hj : fs.length ≤ j) (hjm : j ≤ 2000) :
    Calls Tryd.prog 45 #[.slice A (128 * fs.length) c, .int .i64 ((j : Int) * 128)] w fun e w' => rintE (intactP (fs.drop j)) e w w' := by
  have HP : Hid (intactP (fs.drop j) = none) := hid (by rw [List.drop_eq_nil_of_le hj]; exact intactP_nil)
  have t1 : ((j : Int) * 128 + 128) > 128 * (fs.length : Int) := by omega
  generalize fs.length = n at *
  go_enter Tryd.func45, Tryd.ntmps45
  go_wp2_with (first
    | ((with_reducible refine is_alloc 102 ?_); refine wp_allocB (w := w) _ arrEn ?_; intro w1 k1 b1 s1; go_frame)
    | ((with_reducible refine is_store 102 ?_); refine wp_storeB w.heap.size _ _ En.zero.cs k1 enN rfl (en_one _) rfl rfl ?_; intro w2 k2 r2; go_frame))
  obtain ⟨e0, e1, e2, e3, e4⟩ := k2.c5
  refine bodyPost_ret (v := .tuple #[En.zero.v, .bool false]) (by simp [results, Tryd.results45, go_sem, e0, e1, e2, e3, e4]; rfl) rfl ?_
  rw [HP.out]
  exact ⟨En.zero, rfl, b1.grown r2 b1.size (fun k hk => by cases hk; exact Nat.le_refl _), fun t p k h => by cases h⟩
set_option maxRecDepth 100000 in
set_option maxHeartbeats 4000000 in
theorem refIntact_no (A : Option Addr) (c : Nat) (fs : List (List UInt8)) (j : Nat) (w : World) (hr : RB w A (128 * fs.length) fs.flatten) (h128 : ∀ s ∈ fs, s.length = 128) (hn : fs.length ≤ 1000) (hj : j < fs.length)
    (hno : 8192 < recLen (fs.drop j) ∨ fs.length - j < cnt (recLen (fs.drop j))) :
    Calls Tryd.prog 45 #[.slice A (128 * fs.length) c, .int .i64 ((j : Int) * 128)] w fun e w' => rintE (intactP (fs.drop j)) e w w' := by
  have HP : Hid (intactP (fs.drop j) = none) := by
    show _ = _
    unfold intactP
    rw [if_neg]
    rintro ⟨a, b, _⟩
    rw [List.length_drop] at b
    omega
  have t1 : ¬ ((j : Int) * 128 + 128) > 128 * (fs.length : Int) := by omega
  obtain ⟨s, hs⟩ : ∃ s, fs[j]? = some s := ⟨_, List.getElem?_eq_getElem hj⟩
  have G := get_any A (128 * fs.length) c fs.flatten (128 * j + 24) 4 w hr (by omega) (by omega) (by omega)
  rw [flat_in h128 hs 24 4 (by omega), ← (recLen_at hs).1, show ((128 * j + 24 : Nat) : Int) = (j : Int) * 128 + 24 by omega] at G
  have hL : recLen (fs.drop j) < 4294967296 := by
    rw [(recLen_at hs).1]
    have h1 := num_lt ((s.drop 24).take 4)
    rwa [show ((s.drop 24).take 4).length = 4 by simp [h128 s (List.mem_of_getElem? hs)]] at h1
  have HG := hid (fun w' (hb : Below w.heap.size w w') => by
    have G := get_any A (128 * fs.length) c fs.flatten (128 * j + 24) 4 w' (hr.below hb) (by omega) (by omega) (by omega)
    rw [flat_in h128 hs 24 4 (by omega), ← (recLen_at hs).1, show ((128 * j + 24 : Nat) : Int) = (j : Int) * 128 + 24 by omega] at G
    exact G)
  have HSe := hid (fun w' => refSectors_any (recLen (fs.drop j)) w' (by omega))
  clear G hs
  generalize recLen (fs.drop j) = L at *
  have hjn : (j : Int) < (fs.length : Int) := by omega
  go_enter Tryd.func45, Tryd.ntmps45
  go_wp2_with ((with_reducible refine is_alloc 102 ?_); refine wp_allocB (w := w) _ arrEn ?_; intro w1 k1 b1 s1; go_frame)
  refine (HG.out w1 b1).mono ?_
  rintro e w' ⟨rfl, rfl⟩
  by_cases hbig : 8192 < L
  · have t2 : (L : Int) > 8192 := by omega
    clear hno
    go_wp2_with ((with_reducible refine is_store 102 ?_); refine wp_storeB w.heap.size _ _ En.zero.cs k1 enN rfl (en_one _) rfl rfl ?_; intro w2 k2 r2; go_frame)
    obtain ⟨e0, e1, e2, e3, e4⟩ := k2.c5
    refine bodyPost_ret (v := .tuple #[En.zero.v, .bool false]) (by simp [results, Tryd.results45, go_sem, e0, e1, e2, e3, e4]; rfl) rfl ?_
    rw [HP.out]
    exact ⟨En.zero, rfl, b1.grown r2 b1.size (fun k hk => by cases hk; exact Nat.le_refl _), fun t p k h => by cases h⟩
  · have t2 : ¬ (L : Int) > 8192 := by omega
    have hno2 : fs.length - j < cnt L := by omega
    have hK : cnt L ≤ 103 := by unfold cnt; omega
    have t3 : ((j : Int) * 128 + 128 * (cnt L : Int)) > 128 * (fs.length : Int) := by omega
    clear hno
    generalize cnt L = K at *
    go_wp2_with fail
    refine (HSe.out w1).mono ?_
    rintro e w' ⟨rfl, rfl⟩
    go_wp2_with ((with_reducible refine is_store 102 ?_); refine wp_storeB w.heap.size _ _ En.zero.cs k1 enN rfl (en_one _) rfl rfl ?_; intro w2 k2 r2; go_frame)
    obtain ⟨e0, e1, e2, e3, e4⟩ := k2.c5
    refine bodyPost_ret (v := .tuple #[En.zero.v, .bool false]) (by simp [results, Tryd.results45, go_sem, e0, e1, e2, e3, e4]; rfl) rfl ?_
    rw [HP.out]
    exact ⟨En.zero, rfl, b1.grown r2 b1.size (fun k hk => by cases hk; exact Nat.le_refl _), fun t p k h => by cases h⟩
end Go.Proofs.YtlokfndonjldpaaDoor
