/- What a scan finds: whole records, and records of which a crash kept halves. No program in sight. A log through appends, syncs, resets, crashes and openings: what the disk holds. No program in sight. What the laws of layer 12 say of plain logs. No program in sight. -/
import Derived.Test.YtlokfndonjldpaaDoorWalP
import Derived.Test.YtlokfndonjldpaaDoorCreate
import Derived.Test.YtlokfndonjldpaaDoorDiskRW
set_option linter.unusedSimpArgs false
set_option linter.unusedVariables false
namespace Go.Proofs.YtlokfndonjldpaaDoor

/-- records (generation, payload) in sectors, from a sequence number on -/
def lay (e : Nat) : Nat → List (Nat × List UInt8) → List (List UInt8)
  | _, [] => []
  | l, r :: rs => recSecs (tagB e r.1 l) r.2 ++ lay e (l + 1) rs
theorem lay_append (e : Nat) : ∀ (l : Nat) (a b : List (Nat × List UInt8)), lay e l (a ++ b) = lay e l a ++ lay e (l + a.length) b
  | l, [], b => rfl
  | l, r :: a, b => by
    rw [List.cons_append, lay, lay, lay_append e (l + 1) a b, List.append_assoc, List.length_cons, show l + 1 + a.length = l + (a.length + 1) by omega]
theorem rs_len (t p : List UInt8) : (recSecs t p).length = cnt p.length := by simp [recSecs]
theorem rs_128 {t : List UInt8} (ht : t.length = 24) (p : List UInt8) : ∀ s ∈ recSecs t p, s.length = 128 := by
  intro s hs
  unfold recSecs at hs
  rw [List.mem_map] at hs
  obtain ⟨i, hi, rfl⟩ := hs
  have := List.mem_range.1 hi
  exact recSec_len ht (by rw [recData_len]; omega)
theorem rs_tags {t : List UInt8} (ht : t.length = 24) (p : List UInt8) : ∀ s ∈ recSecs t p, s.take 24 = t ∧ (s.drop 64).take 24 = t := by
  intro s hs
  unfold recSecs at hs
  rw [List.mem_map] at hs
  obtain ⟨i, hi, rfl⟩ := hs
  have hi := List.mem_range.1 hi
  constructor
  · unfold recSec halfR
    rw [List.append_assoc, List.take_left' ht]
  · have q : ((List.drop (40 * (2 * i)) (recData p)).take 40).length = 40 := by simp; omega
    unfold recSec halfR
    rw [List.drop_left' (by simp only [List.length_append, ht, q]), List.take_left' ht]
theorem lay_128 (e : Nat) : ∀ (l : Nat) (rs : List (Nat × List UInt8)), ∀ s ∈ lay e l rs, s.length = 128
  | _, [], _, h => by cases h
  | l, r :: rs, s, h => by
    rw [lay, List.mem_append] at h
    rcases h with h | h
    · exact rs_128 (tagB_len _ _ _) _ _ h
    · exact lay_128 e _ rs s h
theorem lay_tags (e : Nat) : ∀ (l : Nat) (rs : List (Nat × List UInt8)), ∀ s ∈ lay e l rs, ∃ r ∈ rs, ∃ n, l ≤ n ∧ n < l + rs.length ∧ s.take 24 = tagB e r.1 n ∧ (s.drop 64).take 24 = tagB e r.1 n
  | _, [], _, h => by cases h
  | l, r :: rs, s, h => by
    rw [lay, List.mem_append] at h
    rcases h with h | h
    · obtain ⟨a, b⟩ := rs_tags (tagB_len e r.1 l) r.2 s h
      exact ⟨r, List.mem_cons_self .., l, Nat.le_refl _, by simp, a, b⟩
    · obtain ⟨r', hr, n, h1, h2, h3⟩ := lay_tags e _ rs s h
      exact ⟨r', List.mem_cons_of_mem _ hr, n, by omega, by simp; omega, h3⟩
theorem lay_ge (e : Nat) : ∀ (l : Nat) (rs : List (Nat × List UInt8)), rs.length ≤ (lay e l rs).length
  | _, [] => Nat.le_refl _
  | l, r :: rs => by
    have := lay_ge e (l + 1) rs
    have := cnt_pos r.2.length
    rw [lay, List.length_append, rs_len, List.length_cons]
    omega
theorem tE_take (s : List UInt8) : tE (s.take 24) = tE s := by unfold tE; rw [List.take_take]; rfl
theorem tG_take (s : List UInt8) : tG (s.take 24) = tG s := by
  unfold tG
  rw [List.drop_take, List.take_take]
  rfl
theorem tL_take (s : List UInt8) : tL (s.take 24) = tL s := by
  unfold tL
  rw [List.drop_take, List.take_take]
  rfl
/-- the record at the front is found -/
theorem intactP_rec {t p : List UInt8} (Z : List (List UInt8)) (ht : t.length = 24) (hp : p.length ≤ 8192) : intactP (recSecs t p ++ Z) = some (t, p, cnt p.length) := by
  have hc := cnt_pos p.length
  obtain ⟨k, hk⟩ : ∃ k, cnt p.length = k + 1 := ⟨cnt p.length - 1, by omega⟩
  have hd : 80 ≤ (recData p).length := by rw [recData_len]; omega
  have hh : (recSecs t p ++ Z).headD [] = recSec t (recData p) 0 := by
    unfold recSecs
    rw [hk, List.range_succ_eq_map]
    rfl
  have h4 : (recData p).take 4 = le 4 p.length := by
    unfold recData sealed
    rw [List.append_assoc, List.append_assoc, List.take_left' (le_len 4 _)]
  have h40 : ((recData p).take 40).length = 40 := by simp; omega
  have e0 : recSec t (recData p) 0 = t ++ (recData p).take 40 ++ halfR t (recData p) 1 := by
    unfold recSec halfR
    simp
  have hl : recLen (recSecs t p ++ Z) = p.length := by
    unfold recLen
    rw [hh, e0, List.append_assoc, List.drop_left' ht, List.take_append_of_le_length (by omega), List.take_take, show min 4 40 = 4 from rfl, h4]
    exact num_le 4 _ (by omega)
  have ht1 : tag1 (recSecs t p ++ Z) = t := by
    unfold tag1
    rw [hh, e0, List.append_assoc, List.take_left' ht]
  have htk : (recSecs t p ++ Z).take (cnt p.length) = recSecs t p := List.take_left' (rs_len t p)
  have hpl : payl (recSecs t p ++ Z) = p := by
    unfold payl
    rw [hl, htk]
    have : parts (recSecs t p) = recData p := parts_recSecs ht _ _ (by rw [recData_len])
    rw [this]
    unfold recData sealed
    rw [List.append_assoc, List.append_assoc, List.drop_left' (le_len 4 _), List.take_left' rfl]
  unfold intactP
  rw [hl, ht1, hpl, htk, if_pos ⟨hp, by rw [List.length_append, rs_len]; omega, rfl⟩]
/-- what is found depends on its sectors alone -/
theorem intactP_front {fs gs : List (List UInt8)} {t p : List UInt8} {k : Nat} (h : intactP fs = some (t, p, k)) (he : gs.take k = fs.take k) : intactP gs = some (t, p, k) := by
  have hc := cnt_pos (recLen fs)
  unfold intactP at h
  split at h
  · rename_i hh
    simp only [Option.some.injEq, Prod.mk.injEq] at h
    obtain ⟨rfl, rfl, rfl⟩ := h
    have hH : gs.headD [] = fs.headD [] := by
      obtain ⟨k, hk⟩ : ∃ k, cnt (recLen fs) = k + 1 := ⟨cnt (recLen fs) - 1, by omega⟩
      rw [hk] at he
      have := congrArg (fun l => l.headD []) he
      cases fs with
      | nil => cases gs with
        | nil => rfl
        | cons y gs => simp at he
      | cons x fs => cases gs with
        | nil => simp at he
        | cons y gs => exact this
    have e1 : recLen gs = recLen fs := by unfold recLen; rw [hH]
    have e2 : tag1 gs = tag1 fs := by unfold tag1; rw [hH]
    have e3 : payl gs = payl fs := by unfold payl; rw [e1, he]
    have hlen : cnt (recLen fs) ≤ gs.length := by
      have := congrArg List.length he
      rw [List.length_take, List.length_take] at this
      omega
    unfold intactP
    rw [e1, e2, e3, he, if_pos ⟨hh.1, hlen, hh.2.2⟩]
  · cases h
theorem intactP_what {fs : List (List UInt8)} {t p : List UInt8} {k : Nat} (h128 : ∀ s ∈ fs, s.length = 128) (h : intactP fs = some (t, p, k)) : t.length = 24 ∧ p.length ≤ 8192 ∧ k = cnt p.length ∧ k ≤ fs.length ∧ fs.take k = recSecs t p := by
  unfold intactP at h
  split at h
  · rename_i hh
    simp only [Option.some.injEq, Prod.mk.injEq] at h
    obtain ⟨rfl, rfl, rfl⟩ := h
    have := payl_len h128 hh.2.1
    exact ⟨tag1_len h128 hh.2.1, by omega, by rw [this], hh.2.1, hh.2.2⟩
  · cases h
/-- the next record is none of this log's -/
def Stops (e l g : Nat) (fs : List (List UInt8)) : Prop := ∀ t p k, intactP fs = some (t, p, k) → ¬ (tE t = e ∧ tL t = l ∧ g ≤ tG t)
theorem scan_stops {e l g : Nat} {fs : List (List UInt8)} (f : Nat) (h : Stops e l g fs) : scan f e l g fs = ([], 0) := by
  cases f with
  | zero => rfl
  | succ f =>
    rw [scan]
    cases hi : intactP fs with
    | none => rfl
    | some x =>
      obtain ⟨t, p, k⟩ := x
      exact if_neg (h t p k hi)
def lastGen (g : Nat) (rs : List (Nat × List UInt8)) : Nat := rs.foldl (fun _ r => r.1) g
/-- generations that do not fall -/
def Rises : Nat → List (Nat × List UInt8) → Prop
  | _, [] => True
  | g, r :: rs => g ≤ r.1 ∧ Rises r.1 rs
theorem Rises.snoc : ∀ {g : Nat} {rs : List (Nat × List UInt8)} {r : Nat × List UInt8}, Rises g rs → lastGen g rs ≤ r.1 → Rises g (rs ++ [r])
  | _, [], _, _, h => ⟨h, trivial⟩
  | _, _ :: _, _, ⟨h1, h2⟩, h => ⟨h1, Rises.snoc h2 h⟩
theorem Rises.left : ∀ {g : Nat} {a b : List (Nat × List UInt8)}, Rises g (a ++ b) → Rises g a
  | _, [], _, _ => trivial
  | _, _ :: _, _, ⟨h1, h2⟩ => ⟨h1, Rises.left h2⟩
theorem Rises.right : ∀ {g : Nat} {a b : List (Nat × List UInt8)}, Rises g (a ++ b) → Rises (lastGen g a) b
  | _, [], _, h => h
  | _, r :: a, b, ⟨_, h2⟩ => Rises.right (g := r.1) (a := a) (b := b) h2
theorem lastGen_append (g : Nat) (a b : List (Nat × List UInt8)) : lastGen g (a ++ b) = lastGen (lastGen g a) b := by unfold lastGen; rw [List.foldl_append]
theorem lastGen_le : ∀ {g b : Nat} {rs : List (Nat × List UInt8)}, g ≤ b → (∀ r ∈ rs, r.1 ≤ b) → lastGen g rs ≤ b
  | _, _, [], h, _ => h
  | _, _, r :: rs, _, h => lastGen_le (rs := rs) (h r (List.mem_cons_self ..)) fun x hx => h x (List.mem_cons_of_mem _ hx)
/-- what a record must be -/
structure recOk (e : Nat) (rs : List (Nat × List UInt8)) : Prop where
  e : e < 18446744073709551616
  g : ∀ r ∈ rs, r.1 < 18446744073709551616
  p : ∀ r ∈ rs, r.2.length ≤ 8192
theorem recOk.tail {e : Nat} {r : Nat × List UInt8} {rs : List (Nat × List UInt8)} (h : recOk e (r :: rs)) : recOk e rs := ⟨h.e, fun x hx => h.g x (List.mem_cons_of_mem _ hx), fun x hx => h.p x (List.mem_cons_of_mem _ hx)⟩
theorem recOk.left {e : Nat} {a b : List (Nat × List UInt8)} (h : recOk e (a ++ b)) : recOk e a := ⟨h.e, fun x hx => h.g x (List.mem_append_left _ hx), fun x hx => h.p x (List.mem_append_left _ hx)⟩
theorem recOk.right {e : Nat} {a b : List (Nat × List UInt8)} (h : recOk e (a ++ b)) : recOk e b := ⟨h.e, fun x hx => h.g x (List.mem_append_right _ hx), fun x hx => h.p x (List.mem_append_right _ hx)⟩
/-- whole records are found, one after another -/
theorem scan_lay (e : Nat) : ∀ (rs : List (Nat × List UInt8)) (l g f : Nat) (Z : List (List UInt8)), recOk e rs → Rises g rs → l + rs.length < 18446744073709551616 →
    scan (f + rs.length) e l g (lay e l rs ++ Z) = (rs.map (·.2) ++ (scan f e (l + rs.length) (lastGen g rs) Z).1, (lay e l rs).length + (scan f e (l + rs.length) (lastGen g rs) Z).2)
  | [], l, g, f, Z, _, _, _ => by simp [lay, lastGen]
  | r :: rs, l, g, f, Z, hok, hg, hl => by
    rw [List.length_cons] at hl ⊢
    obtain ⟨t1, t2, t3⟩ := tag_parts e r.1 l hok.e (hok.g r (List.mem_cons_self ..)) (by omega)
    have hp := hok.p r (List.mem_cons_self ..)
    rw [show f + (rs.length + 1) = (f + rs.length) + 1 by omega, scan, lay, List.append_assoc, intactP_rec _ (tagB_len _ _ _) hp]
    show (if tE _ = e ∧ _ then _ else _) = _
    rw [t1, t2, t3, if_pos ⟨rfl, rfl, hg.1⟩, List.drop_left' (rs_len _ _), Nat.mod_eq_of_lt (show l + 1 < 18446744073709551616 by omega), scan_lay e rs (l + 1) r.1 f Z hok.tail hg.2 (by omega)]
    simp only [List.map_cons, List.cons_append, List.length_append, rs_len]
    rw [show l + 1 + rs.length = l + (rs.length + 1) by omega]
    refine Prod.ext rfl ?_
    show cnt _ + (_ + _) = _
    unfold lastGen
    simp only [List.foldl_cons]
    omega

/-- each half is the new one's or the old one's -/
inductive Torn : List (List UInt8) → List (List UInt8) → List (List UInt8) → Prop
  | nil (B : List (List UInt8)) : Torn B [] B
  | cons {y n b : List UInt8} {Y N B : List (List UInt8)} : (y.take 64 = n.take 64 ∨ y.take 64 = b.take 64) → (y.drop 64 = n.drop 64 ∨ y.drop 64 = b.drop 64) → Torn Y N B → Torn (y :: Y) (n :: N) (b :: B)
theorem Torn.len {Y N B : List (List UInt8)} (h : Torn Y N B) : Y.length = B.length ∧ N.length ≤ B.length := by
  induction h with
  | nil B => exact ⟨rfl, Nat.zero_le _⟩
  | cons _ _ _ ih => simp only [List.length_cons]; omega
def tagsAre (t s : List UInt8) : Prop := s.take 24 = t ∧ (s.drop 64).take 24 = t
def tagsNot (t s : List UInt8) : Prop := s.take 24 ≠ t ∧ (s.drop 64).take 24 ≠ t
theorem take24 (s : List UInt8) : (s.take 64).take 24 = s.take 24 := by rw [List.take_take]; rfl
theorem half_eq {y n : List UInt8} (h1 : y.take 64 = n.take 64) (h2 : y.drop 64 = n.drop 64) : y = n := by
  rw [← List.take_append_drop 64 y, h1, h2, List.take_append_drop]
theorem Torn.new {t : List UInt8} : ∀ {k : Nat} {Y N B : List (List UInt8)}, Torn Y N B → k ≤ Y.length → (∀ s ∈ Y.take k, tagsAre t s) → (∀ s ∈ B, tagsNot t s) → k ≤ N.length ∧ Y.take k = N.take k
  | 0, _, _, _, _, _, _, _ => ⟨Nat.zero_le _, rfl⟩
  | k + 1, _, _, _, .nil B, hk, hY, hB => by
    cases B with
    | nil => simp at hk
    | cons b B =>
      have h1 := hY b (by simp)
      exact absurd h1.1 (hB b (List.mem_cons_self ..)).1
  | k + 1, _, _, _, .cons (y := y) (n := n) (b := b) h1 h2 h, hk, hY, hB => by
    have hy := hY y (by simp)
    have hb := hB b (List.mem_cons_self ..)
    obtain ⟨i1, i2⟩ := Torn.new (k := k) h (by simpa using hk) (fun s hs => hY s (by simp [hs])) (fun s hs => hB s (List.mem_cons_of_mem _ hs))
    have a1 : y.take 64 = n.take 64 := by
      rcases h1 with h1 | h1
      · exact h1
      · refine absurd ?_ hb.1
        rw [← take24, ← h1, take24]; exact hy.1
    have a2 : y.drop 64 = n.drop 64 := by
      rcases h2 with h2 | h2
      · exact h2
      · refine absurd ?_ hb.2
        rw [← h2]; exact hy.2
    rw [List.length_cons, List.take_succ_cons, List.take_succ_cons, i2, half_eq a1 a2]
    exact ⟨by omega, rfl⟩
theorem Torn.old {t : List UInt8} : ∀ {k : Nat} {Y N B : List (List UInt8)}, Torn Y N B → (∀ s ∈ Y.take k, tagsAre t s) → (∀ s ∈ N, tagsNot t s) → Y.take k = B.take k
  | 0, _, _, _, _, _, _ => rfl
  | k + 1, _, _, _, .nil B, hY, hB => rfl
  | k + 1, _, _, _, .cons (y := y) (n := n) (b := b) h1 h2 h, hY, hN => by
    have hy := hY y (by simp)
    have hb := hN n (List.mem_cons_self ..)
    have i2 := Torn.old (k := k) h (fun s hs => hY s (by simp [hs])) (fun s hs => hN s (List.mem_cons_of_mem _ hs))
    have a1 : y.take 64 = b.take 64 := by
      rcases h1 with h1 | h1
      · refine absurd ?_ hb.1
        rw [← take24, ← h1, take24]; exact hy.1
      · exact h1
    have a2 : y.drop 64 = b.drop 64 := by
      rcases h2 with h2 | h2
      · refine absurd ?_ hb.2
        rw [← h2]; exact hy.2
      · exact h2
    rw [List.take_succ_cons, List.take_succ_cons, i2, half_eq a1 a2]
theorem Torn.drop : ∀ {k : Nat} {Y N B : List (List UInt8)}, Torn Y N B → Torn (Y.drop k) (N.drop k) (B.drop k)
  | 0, _, _, _, h => h
  | k + 1, _, _, _, .nil B => by rw [List.drop_nil]; exact .nil _
  | k + 1, _, _, _, .cons _ _ h => by
    rw [List.drop_succ_cons, List.drop_succ_cons, List.drop_succ_cons]
    exact h.drop
theorem Torn.head {y : List UInt8} {Y N B : List (List UInt8)} (h : Torn (y :: Y) N B) : (∃ n N', N = n :: N' ∧ y.take 64 = n.take 64) ∨ (∃ b B', B = b :: B' ∧ y.take 64 = b.take 64) := by
  cases h with
  | nil => exact .inr ⟨y, Y, rfl, rfl⟩
  | cons h1 h2 h =>
    rcases h1 with h1 | h1
    · exact .inl ⟨_, _, rfl, h1⟩
    · exact .inr ⟨_, _, rfl, h1⟩
/-- no half holds a generation of this epoch from G on -/
def Old (e G : Nat) (s : List UInt8) : Prop := (tE s = e → tG s < G) ∧ (tE (s.drop 64) = e → tG (s.drop 64) < G)
theorem Old.not {e G g l : Nat} {s : List UInt8} (h : Old e G s) (hg : G ≤ g) (he : e < 18446744073709551616) (h1 : g < 18446744073709551616) (h2 : l < 18446744073709551616) : tagsNot (tagB e g l) s := by
  obtain ⟨t1, t2, t3⟩ := tag_parts e g l he h1 h2
  constructor
  · intro hc
    have a := tE_take s
    have b := tG_take s
    rw [hc] at a b
    have := h.1 (by omega)
    omega
  · intro hc
    have a := tE_take (s.drop 64)
    have b := tG_take (s.drop 64)
    rw [hc] at a b
    have := h.2 (by omega)
    omega
/-- the main lemma: after a crash a scan finds a beginning of what was written -/
theorem scan_torn (e G : Nat) : ∀ (rest : List (Nat × List UInt8)) (l g f : Nat) (Y B : List (List UInt8)), Torn Y (lay e l rest) B → Y.length ≤ f → (∀ s ∈ Y, s.length = 128) → recOk e rest → (∀ r ∈ rest, G ≤ r.1) → (∀ b ∈ B, Old e G b) → Stops e l g B → l + rest.length < 18446744073709551616 →
    ∃ j, j ≤ rest.length ∧ scan f e l g Y = ((rest.take j).map (·.2), (lay e l (rest.take j)).length) ∧ Y.take (lay e l (rest.take j)).length = lay e l (rest.take j) ∧ Stops e (l + j) (lastGen g (rest.take j)) (Y.drop (lay e l (rest.take j)).length) ∧ Rises g (rest.take j)
  | [], l, g, f, Y, B, hT, hf, h128, hok, hG, hB, hS, hl => by
    cases hT
    exact ⟨0, Nat.le_refl _, scan_stops f hS, rfl, hS, trivial⟩
  | r :: rest, l, g, f, Y, B, hT, hf, h128, hok, hG, hB, hS, hl => by
    by_cases hst : Stops e l g Y
    · exact ⟨0, Nat.zero_le _, scan_stops f hst, rfl, hst, trivial⟩
    · unfold Stops at hst
      simp only [Classical.not_forall, Classical.not_not] at hst
      obtain ⟨t, p, k, hi, q1, q2, q3⟩ := hst
      obtain ⟨w1, w2, w3, w4, w5⟩ := intactP_what h128 hi
      have hkp : 1 ≤ k := by rw [w3]; exact cnt_pos _
      rw [List.length_cons] at hl
      have hg1 := hok.g r (List.mem_cons_self ..)
      have hp1 := hok.p r (List.mem_cons_self ..)
      have hG1 := hG r (List.mem_cons_self ..)
      obtain ⟨t1, t2, t3⟩ := tag_parts e r.1 l hok.e hg1 (by omega)
      have hY : ∀ s ∈ Y.take k, tagsAre t s := by rw [w5]; exact rs_tags w1 p
      have hTl := hT.len
      by_cases ht : t = tagB e r.1 l
      · -- the new record
        have hB2 : ∀ b ∈ B, tagsNot t b := fun b hb => by rw [ht]; exact (hB b hb).not hG1 hok.e hg1 (by omega)
        obtain ⟨n1, n2⟩ := hT.new w4 hY hB2
        have e1 := intactP_front (gs := lay e l (r :: rest)) hi n2.symm
        have e2 : intactP (lay e l (r :: rest)) = some (tagB e r.1 l, r.2, cnt r.2.length) := by rw [lay]; exact intactP_rec _ (tagB_len _ _ _) hp1
        rw [e2] at e1
        simp only [Option.some.injEq, Prod.mk.injEq] at e1
        obtain ⟨_, rfl, e3⟩ := e1
        have hNd : (lay e l (r :: rest)).drop k = lay e (l + 1) rest := by rw [lay, List.drop_left' (by rw [rs_len, e3])]
        have hNt : (lay e l (r :: rest)).take k = recSecs (tagB e r.1 l) r.2 := by rw [lay, List.take_left' (by rw [rs_len, e3])]
        have hT2 := hT.drop (k := k)
        rw [hNd] at hT2
        obtain ⟨f', rfl⟩ : ∃ f', f = f' + 1 := ⟨f - 1, by omega⟩
        have hBS : Stops e (l + 1) r.1 (B.drop k) := by
          intro t' p' k' hi' ⟨a1, a2, a3⟩
          have hb128 : ∀ s ∈ B.drop k, Old e G s := fun s hs => hB s (List.mem_of_mem_drop hs)
          have hk' := hi'
          unfold intactP at hk'
          split at hk'
          · rename_i hh
            simp only [Option.some.injEq, Prod.mk.injEq] at hk'
            obtain ⟨rfl, rfl, rfl⟩ := hk'
            have hc := cnt_pos (recLen (B.drop k))
            cases hbk : B.drop k with
            | nil => rw [hbk] at hh; have := hh.2.1; rw [List.length_nil] at this; rw [hbk] at hc; omega
            | cons b0 bs =>
              have ho := hb128 b0 (by rw [hbk]; exact List.mem_cons_self ..)
              rw [hbk] at a1 a3
              unfold tag1 at a1 a3
              rw [List.headD_cons, tE_take] at a1
              rw [List.headD_cons, tG_take] at a3
              have := ho.1 a1
              omega
          · cases hk'
        obtain ⟨j, j1, j2, j3, j4, j5⟩ := scan_torn e G rest (l + 1) r.1 f' (Y.drop k) (B.drop k) hT2 (by rw [List.length_drop]; omega) (fun s hs => h128 s (List.mem_of_mem_drop hs)) hok.tail (fun x hx => hG x (List.mem_cons_of_mem _ hx)) (fun b hb => hB b (List.mem_of_mem_drop hb)) hBS (by omega)
        have hlen : (recSecs (tagB e r.1 l) r.2).length = k := by rw [rs_len, e3]
        refine ⟨j + 1, by rw [List.length_cons]; omega, ?_, ?_, ?_, ?_⟩
        · rw [scan, hi]
          show (if tE _ = e ∧ _ then _ else _) = _
          rw [if_pos ⟨q1, q2, q3⟩, Nat.mod_eq_of_lt (show l + 1 < 18446744073709551616 by omega), show tG t = r.1 by rw [ht]; exact t2, j2, List.take_succ_cons, lay]
          refine Prod.ext rfl ?_
          show k + _ = (_ ++ _ : List (List UInt8)).length
          rw [List.length_append, hlen]
        · rw [List.take_succ_cons, lay, List.length_append, hlen, List.take_add, j3, n2, hNt]
        · rw [List.take_succ_cons, lay, List.length_append, hlen, ← List.drop_drop]
          have : lastGen g (r :: rest.take j) = lastGen r.1 (rest.take j) := rfl
          rw [this, show l + (j + 1) = l + 1 + j by omega]
          exact j4
        · rw [List.take_succ_cons]
          exact ⟨by rw [show tG t = r.1 by rw [ht]; exact t2] at q3; exact q3, j5⟩
      · -- an old one: it is rejected, as it was before
        exfalso
        have hN : ∀ s ∈ lay e l (r :: rest), tagsNot t s := by
          -- the first half of Y is an old one's
          obtain ⟨k', hk'⟩ : ∃ k', k = k' + 1 := ⟨k - 1, by omega⟩
          have hold : tE t = e → tG t < G := by
            intro he
            cases Y with
            | nil => rw [List.length_nil] at w4; omega
            | cons y Y' =>
              have hy := hY y (by rw [hk', List.take_succ_cons]; exact List.mem_cons_self ..)
              rcases hT.head with ⟨n, N', hn, h1⟩ | ⟨b, B', hb, h1⟩
              · exfalso
                apply ht
                have hin : n ∈ recSecs (tagB e r.1 l) r.2 := by
                  have hc := cnt_pos r.2.length
                  have hl0 := rs_len (tagB e r.1 l) r.2
                  cases hrs : recSecs (tagB e r.1 l) r.2 with
                  | nil => rw [hrs, List.length_nil] at hl0; omega
                  | cons s0 rs0 =>
                    rw [lay, hrs, List.cons_append] at hn
                    cases hn
                    exact List.mem_cons_self ..
                have := (rs_tags (tagB_len e r.1 l) r.2 n hin).1
                rw [← take24, ← h1, take24, hy.1] at this
                exact this
              · have ho := (hB b (by rw [hb]; exact List.mem_cons_self ..)).1
                have hyb : y.take 24 = b.take 24 := by rw [← take24 y, h1, take24]
                rw [hy.1] at hyb
                have a := tE_take b
                have c := tG_take b
                rw [← hyb] at a c
                have := ho (by omega)
                omega
          intro s hs
          obtain ⟨r', hr', n, n1, n2, n3, n4⟩ := lay_tags e l (r :: rest) s hs
          rw [List.length_cons] at n2
          obtain ⟨u1, u2, u3⟩ := tag_parts e r'.1 n hok.e (hok.g r' hr') (by omega)
          have hgr := hG r' hr'
          have hlt := hold q1
          refine ⟨fun hc => ?_, fun hc => ?_⟩
          · rw [n3] at hc
            rw [← hc, u2] at hlt
            omega
          · rw [n4] at hc
            rw [← hc, u2] at hlt
            omega
        have := hT.old hY hN
        exact hS t p k (intactP_front hi this.symm) ⟨q1, q2, q3⟩
end Go.Proofs.YtlokfndonjldpaaDoor
set_option linter.unusedSimpArgs false
set_option linter.unusedVariables false
namespace Go.Proofs.YtlokfndonjldpaaDoor

/-! sectors in a row -/
def seg (f : Secs) (a q : Nat) : List (List UInt8) := (List.range q).map fun i => f (a + i)
theorem regn_seg (f : Secs) (k : Nat) : regn f 2 k = seg f 3 (k - 1) := rfl
@[simp] theorem seg_len (f : Secs) (a q : Nat) : (seg f a q).length = q := by simp [seg]
theorem seg_succ (f : Secs) (a q : Nat) : seg f a (q + 1) = f a :: seg f (a + 1) q := by
  unfold seg
  rw [List.range_succ_eq_map, List.map_cons, List.map_map, Nat.add_zero]
  congr 1
  apply List.map_congr_left
  intro i _
  show f (a + (i + 1)) = f (a + 1 + i)
  congr 1; omega
theorem seg_drop (f : Secs) : ∀ (c a q : Nat), (seg f a q).drop c = seg f (a + c) (q - c)
  | 0, a, q => rfl
  | c + 1, a, 0 => by simp [seg]
  | c + 1, a, q + 1 => by
    rw [seg_succ, List.drop_succ_cons, seg_drop f c (a + 1) q, show a + 1 + c = a + (c + 1) by omega, show q + 1 - (c + 1) = q - c by omega]
theorem seg_congr {f g : Secs} {a q : Nat} (h : ∀ i, a ≤ i → i < a + q → f i = g i) : seg f a q = seg g a q := by
  unfold seg
  apply List.map_congr_left
  intro i hi
  have := List.mem_range.1 hi
  exact h _ (by omega) (by omega)
theorem seg_take (f : Secs) (c a q : Nat) (h : c ≤ q) : (seg f a q).take c = seg f a c := by
  unfold seg
  rw [← List.map_take, List.take_range, Nat.min_eq_left h]
theorem seg_split (f : Secs) (c a q : Nat) (h : c ≤ q) : seg f a q = seg f a c ++ seg f (a + c) (q - c) := by
  rw [← seg_take f c a q h, ← seg_drop, List.take_append_drop]
theorem seg_mem {f : Secs} {a q : Nat} {s : List UInt8} (h : s ∈ seg f a q) : ∃ i, a ≤ i ∧ i < a + q ∧ s = f i := by
  unfold seg at h
  rw [List.mem_map] at h
  obtain ⟨i, hi, rfl⟩ := h
  have := List.mem_range.1 hi
  exact ⟨a + i, by omega, by omega, rfl⟩
/-- numbered sectors -/
def nums : Nat → List (List UInt8) → List (Nat × List UInt8)
  | _, [] => []
  | a, s :: r => (a, s) :: nums (a + 1) r
theorem nums_append : ∀ (a : Nat) (x y : List (List UInt8)), nums a (x ++ y) = nums a x ++ nums (a + x.length) y
  | a, [], y => rfl
  | a, s :: r, y => by
    rw [List.cons_append, nums, nums, nums_append, List.length_cons, List.cons_append, show a + 1 + r.length = a + (r.length + 1) by omega]
theorem nums_ge : ∀ {a : Nat} {l : List (List UInt8)} {x : Nat × List UInt8}, x ∈ nums a l → a ≤ x.1 ∧ x.1 < a + l.length
  | _, [], _, h => by cases h
  | a, s :: r, x, h => by
    rw [nums, List.mem_cons] at h
    rw [List.length_cons]
    rcases h with rfl | h
    · exact ⟨Nat.le_refl _, by show a < _; omega⟩
    · have := nums_ge h
      omega
theorem putSecs_rev : ∀ (D : Dk) (a : Nat) (l : List (List UInt8)), (putSecs D a l).W.reverse = D.W.reverse ++ nums a l
  | D, a, [] => by rw [nums, List.append_nil]; rfl
  | D, a, s :: r => by
    rw [putSecs, putSecs_rev, nums]
    show ((a, s) :: D.W).reverse ++ _ = _
    rw [List.reverse_cons, List.append_assoc]
    rfl
theorem putSecs_S : ∀ (D : Dk) (a : Nat) (l : List (List UInt8)), (putSecs D a l).S = D.S
  | _, _, [] => rfl
  | D, a, s :: r => by rw [putSecs, putSecs_S]; rfl
/-- writes, the oldest first -/
def ups (f : Secs) (l : List (Nat × List UInt8)) : Secs := l.foldl (fun f x => upd f x.1 x.2) f
theorem cur_ups (D : Dk) : D.cur = ups D.S D.W.reverse := by
  unfold ups Dk.cur
  rw [List.foldl_reverse]
theorem ups_append (f : Secs) (x y : List (Nat × List UInt8)) : ups f (x ++ y) = ups (ups f x) y := by unfold ups; rw [List.foldl_append]
theorem upd_ne {f : Secs} {a i : Nat} {s : List UInt8} (h : i ≠ a) : upd f a s i = f i := by
  unfold upd
  rw [if_neg h]
theorem upd_eq {f : Secs} {a : Nat} {s : List UInt8} : upd f a s a = s := by
  unfold upd
  rw [if_pos rfl]
theorem ups_not : ∀ (l : List (Nat × List UInt8)) (f : Secs) (i : Nat), (∀ x ∈ l, x.1 ≠ i) → ups f l i = f i
  | [], _, _, _ => rfl
  | x :: l, f, i, h => by
    show ups (upd f x.1 x.2) l i = _
    rw [ups_not l _ i fun y hy => h y (List.mem_cons_of_mem _ hy), upd_ne fun e => h x (List.mem_cons_self ..) e.symm]
theorem ups_out (f : Secs) (a : Nat) (N : List (List UInt8)) (i : Nat) (h : i < a ∨ a + N.length ≤ i) : ups f (nums a N) i = f i :=
  ups_not _ _ _ fun x hx => by have := nums_ge hx; omega
theorem ups_in : ∀ (N : List (List UInt8)) (f : Secs) (a q : Nat), N.length ≤ q → seg (ups f (nums a N)) a q = N ++ seg f (a + N.length) (q - N.length)
  | [], f, a, q, _ => rfl
  | n :: N, f, a, q, h => by
    rw [List.length_cons] at h ⊢
    obtain ⟨q, rfl⟩ : ∃ p, q = p + 1 := ⟨q - 1, by omega⟩
    show seg (ups (upd f a n) (nums (a + 1) N)) a (q + 1) = _
    rw [seg_succ, ups_in N _ (a + 1) q (by omega), ups_out _ _ _ _ (.inl (by omega)), upd_eq, List.cons_append, show a + 1 + N.length = a + (N.length + 1) by omega, show q + 1 - (N.length + 1) = q - N.length by omega]
    congr 2
    exact seg_congr fun i h1 h2 => upd_ne (by omega)
theorem tear_ne {f : Secs} {x : Nat × List UInt8} {d i : Nat} (h : i ≠ x.1) : tear f x d i = f i := by
  unfold tear
  split
  · exact upd_ne h
  · split
    · exact upd_ne h
    · rfl
theorem crun_not (ch : Nat) : ∀ (l : List (Nat × List UInt8)) (c : Nat) (f : Secs) (i : Nat), (∀ x ∈ l, x.1 ≠ i) → crun ch c f l i = f i
  | [], _, _, _, _ => rfl
  | x :: l, c, f, i, h => by
    rw [crun, crun_not ch l _ _ i fun y hy => h y (List.mem_cons_of_mem _ hy), tear_ne fun e => h x (List.mem_cons_self ..) e.symm]
theorem crun_torn (ch : Nat) : ∀ (N : List (List UInt8)) (c : Nat) (f : Secs) (a q : Nat), N.length ≤ q → (∀ s ∈ N, s.length = 128) → (∀ i, a ≤ i → i < a + q → (f i).length = 128) → Torn (seg (crun ch c f (nums a N)) a q) N (seg f a q)
  | [], c, f, a, q, _, _, _ => .nil _
  | n :: N, c, f, a, q, h, hN, hf => by
    rw [List.length_cons] at h
    obtain ⟨q, rfl⟩ : ∃ p, q = p + 1 := ⟨q - 1, by omega⟩
    rw [nums, crun, seg_succ, seg_succ, crun_not ch _ _ _ a fun x hx => by have := nums_ge hx; omega]
    have hn := hN n (List.mem_cons_self ..)
    have hfa := hf a (Nat.le_refl _) (by omega)
    have ht := crun_torn ch N (c + 1) (tear f (a, n) (digit ch (c % 40))) (a + 1) q (by omega) (fun s hs => hN s (List.mem_cons_of_mem _ hs)) (fun i h1 h2 => by rw [tear_ne (by show i ≠ a; omega)]; exact hf i (by omega) (by omega))
    rw [seg_congr (f := tear f (a, n) (digit ch (c % 40))) (g := f) fun i h1 h2 => tear_ne (by show i ≠ a; omega)] at ht
    have h64 : (n.take 64).length = 64 := by simp [hn]
    refine .cons ?_ ?_ ht
    · unfold tear
      split
      · rw [upd_eq]; exact .inl rfl
      · split
        · rw [upd_eq, List.take_left' h64]
          exact .inl rfl
        · exact .inr rfl
    · unfold tear
      split
      · rw [upd_eq]; exact .inl rfl
      · split
        · rw [upd_eq, List.drop_left' h64]
          exact .inr rfl
        · exact .inr rfl

/-! the largest generation -/
theorem later_ge1 (e m : Nat) (h : List UInt8) : m ≤ later e m h := by unfold later; split <;> omega
theorem later_ge2 {e m : Nat} {h : List UInt8} (he : tE h = e) : tG h ≤ later e m h := by unfold later; rw [if_pos he]; omega
theorem later_le {e m b : Nat} {h : List UInt8} (hm : m ≤ b) (he : tE h = e → tG h ≤ b) : later e m h ≤ b := by
  unfold later
  split
  · rename_i q; have := he q; omega
  · exact hm
theorem late_aux_ge (e : Nat) : ∀ (fs : List (List UInt8)) (m : Nat), m ≤ fs.foldl (fun m s => later e (later e m s) (s.drop 64)) m
  | [], m => Nat.le_refl _
  | s :: fs, m => by
    rw [List.foldl_cons]
    have := late_aux_ge e fs (later e (later e m s) (s.drop 64))
    have := later_ge1 e (later e m s) (s.drop 64)
    have := later_ge1 e m s
    omega
theorem late_aux_mem (e : Nat) : ∀ (fs : List (List UInt8)) (m : Nat), ∀ s ∈ fs, (tE s = e → tG s ≤ fs.foldl (fun m s => later e (later e m s) (s.drop 64)) m) ∧ (tE (s.drop 64) = e → tG (s.drop 64) ≤ fs.foldl (fun m s => later e (later e m s) (s.drop 64)) m)
  | [], _, _, h => by cases h
  | x :: fs, m, s, h => by
    rw [List.foldl_cons]
    have h0 := late_aux_ge e fs (later e (later e m x) (x.drop 64))
    rcases List.mem_cons.1 h with rfl | h
    · constructor
      · intro he
        have := later_ge2 (m := m) he
        have := later_ge1 e (later e m s) (s.drop 64)
        omega
      · intro he
        have := later_ge2 (m := later e m s) he
        omega
    · exact late_aux_mem e fs _ s h
theorem late_mem {e : Nat} {fs : List (List UInt8)} {s : List UInt8} (h : s ∈ fs) : Old e (latest e fs + 1) s := by
  obtain ⟨a, b⟩ := late_aux_mem e fs 0 s h
  exact ⟨fun he => Nat.lt_succ_of_le (a he), fun he => Nat.lt_succ_of_le (b he)⟩
theorem late_aux_le {e b : Nat} : ∀ (fs : List (List UInt8)) (m : Nat), m ≤ b → (∀ s ∈ fs, Old e (b + 1) s) → fs.foldl (fun m s => later e (later e m s) (s.drop 64)) m ≤ b
  | [], m, h, _ => h
  | s :: fs, m, h, hs => by
    rw [List.foldl_cons]
    obtain ⟨a, c⟩ := hs s (List.mem_cons_self ..)
    exact late_aux_le fs _ (later_le (later_le h fun q => Nat.le_of_lt_succ (a q)) fun q => Nat.le_of_lt_succ (c q)) fun x hx => hs x (List.mem_cons_of_mem _ hx)
theorem late_le {e b : Nat} {fs : List (List UInt8)} (h : ∀ s ∈ fs, Old e (b + 1) s) : latest e fs ≤ b := late_aux_le fs 0 (Nat.zero_le _) h
theorem Old.mono {e G H : Nat} {s : List UInt8} (h : Old e G s) (hGH : G ≤ H) : Old e H s := ⟨fun q => Nat.lt_of_lt_of_le (h.1 q) hGH, fun q => Nat.lt_of_lt_of_le (h.2 q) hGH⟩
/-- no half is of a later epoch -/
def Ep (e : Nat) (s : List UInt8) : Prop := tE s ≤ e ∧ tE (s.drop 64) ≤ e
theorem Ep.old {e e' G : Nat} {s : List UInt8} (h : Ep e s) (he : e < e') : Old e' G s := ⟨fun q => by have := h.1; omega, fun q => by have := h.2; omega⟩
theorem tE64 (s : List UInt8) : tE (s.take 64) = tE s := by unfold tE; rw [List.take_take]; rfl
theorem tG64 (s : List UInt8) : tG (s.take 64) = tG s := by unfold tG; rw [List.drop_take, List.take_take]; rfl
/-- a fact of halves -/
theorem Torn.all {P : Nat → Nat → Prop} {Y N B : List (List UInt8)} (h : Torn Y N B) (hN : ∀ s ∈ N, P (tE s) (tG s) ∧ P (tE (s.drop 64)) (tG (s.drop 64))) (hB : ∀ s ∈ B, P (tE s) (tG s) ∧ P (tE (s.drop 64)) (tG (s.drop 64))) : ∀ s ∈ Y, P (tE s) (tG s) ∧ P (tE (s.drop 64)) (tG (s.drop 64)) := by
  induction h with
  | nil B => exact hB
  | @cons y n b Y N B h1 h2 h ih =>
    intro s hs
    rcases List.mem_cons.1 hs with rfl | hs
    · have hn := hN n (List.mem_cons_self ..)
      have hb := hB b (List.mem_cons_self ..)
      constructor
      · rw [← tE64, ← tG64]
        rcases h1 with h1 | h1
        · rw [h1, tE64, tG64]; exact hn.1
        · rw [h1, tE64, tG64]; exact hb.1
      · rcases h2 with h2 | h2
        · rw [h2]; exact hn.2
        · rw [h2]; exact hb.2
    · exact ih (fun x hx => hN x (List.mem_cons_of_mem _ hx)) (fun x hx => hB x (List.mem_cons_of_mem _ hx)) s hs
theorem Torn.l128 {Y N B : List (List UInt8)} (h : Torn Y N B) (hN : ∀ s ∈ N, s.length = 128) (hB : ∀ s ∈ B, s.length = 128) : ∀ s ∈ Y, s.length = 128 := by
  induction h with
  | nil B => exact hB
  | @cons y n b Y N B h1 h2 h ih =>
    intro s hs
    rcases List.mem_cons.1 hs with rfl | hs
    · have hn := hN n (List.mem_cons_self ..)
      have hb := hB b (List.mem_cons_self ..)
      have e1 : (s.take 64).length = 64 := by rcases h1 with h1 | h1 <;> rw [h1] <;> simp [hn, hb]
      have e2 : (s.drop 64).length = 64 := by rcases h2 with h2 | h2 <;> rw [h2] <;> simp [hn, hb]
      rw [← List.take_append_drop 64 s, List.length_append, e1, e2]
    · exact ih (fun x hx => hN x (List.mem_cons_of_mem _ hx)) (fun x hx => hB x (List.mem_cons_of_mem _ hx)) s hs
theorem stops_old {e G l g : Nat} {Z : List (List UInt8)} (h : ∀ b ∈ Z, Old e G b) (hg : G ≤ g) : Stops e l g Z := by
  intro t p k hi ⟨a1, a2, a3⟩
  have hk' := hi
  unfold intactP at hk'
  split at hk'
  · rename_i hh
    simp only [Option.some.injEq, Prod.mk.injEq] at hk'
    obtain ⟨rfl, rfl, rfl⟩ := hk'
    have hc := cnt_pos (recLen Z)
    cases Z with
    | nil => have := hh.2.1; rw [List.length_nil] at this; omega
    | cons b0 bs =>
      have ho := h b0 (List.mem_cons_self ..)
      unfold tag1 at a1 a3
      rw [List.headD_cons, tE_take] at a1
      rw [List.headD_cons, tG_take] at a3
      have := ho.1 a1
      omega
  · cases hk'
theorem lastGen_ge {G : Nat} : ∀ {g : Nat} {rs : List (Nat × List UInt8)}, rs ≠ [] → (∀ r ∈ rs, G ≤ r.1) → G ≤ lastGen g rs
  | _, [], h, _ => absurd rfl h
  | _, [r], _, h => h r (List.mem_cons_self ..)
  | g, r :: r' :: rs, _, h => lastGen_ge (g := r.1) (rs := r' :: rs) (by simp) fun x hx => h x (List.mem_cons_of_mem _ hx)
theorem lay_half {e l : Nat} {rs : List (Nat × List UInt8)} (hok : recOk e rs) (hl : l + rs.length < 18446744073709551616) : ∀ s ∈ lay e l rs, ∃ r ∈ rs, tE s = e ∧ tG s = r.1 ∧ tE (s.drop 64) = e ∧ tG (s.drop 64) = r.1 := by
  intro s hs
  obtain ⟨r, hr, n, n1, n2, n3, n4⟩ := lay_tags e l rs s hs
  obtain ⟨u1, u2, u3⟩ := tag_parts e r.1 n hok.e (hok.g r hr) (by omega)
  refine ⟨r, hr, ?_, ?_, ?_, ?_⟩
  · rw [← tE_take, n3]; exact u1
  · rw [← tG_take, n3]; exact u2
  · rw [← tE_take, n4]; exact u1
  · rw [← tG_take, n4]; exact u2

theorem lay_late {e l : Nat} {rs : List (Nat × List UInt8)} {fs : List (List UInt8)} (hok : recOk e rs) (hl : l + rs.length < 18446744073709551616) (hin : ∀ s ∈ lay e l rs, s ∈ fs) : ∀ r ∈ rs, r.1 ≤ latest e fs := by
  intro r hr
  obtain ⟨a, b, rfl⟩ := List.append_of_mem hr
  have hin2 : ∃ s0, s0 ∈ recSecs (tagB e r.1 (l + a.length)) r.2 := by
    have := rs_len (tagB e r.1 (l + a.length)) r.2
    have hc := cnt_pos r.2.length
    cases hrs : recSecs (tagB e r.1 (l + a.length)) r.2 with
    | nil => rw [hrs, List.length_nil] at this; omega
    | cons x y => exact ⟨x, List.mem_cons_self ..⟩
  obtain ⟨s0, hs0⟩ := hin2
  have hm : s0 ∈ fs := by
    apply hin
    rw [lay_append, List.mem_append]
    right
    rw [lay, List.mem_append]
    exact .inl hs0
  have ht := (rs_tags (tagB_len _ _ _) _ s0 hs0).1
  rw [List.length_append, List.length_cons] at hl
  obtain ⟨u1, u2, u3⟩ := tag_parts e r.1 (l + a.length) hok.e (hok.g r hr) (by omega)
  have a1 := tE_take s0
  have a2 := tG_take s0
  rw [ht] at a1 a2
  have := (late_mem (e := e) hm).1 (by omega)
  omega
/-! a log on its disk -/
/-- the records rs are on the disk, the first s of them synced; B: what lay there at the last crash, m records of it -/
structure Sv (i k : Nat) (D : Dk) (l : Lg) (first : Nat) (rs : List (Nat × List UInt8)) (B : List (List UInt8)) (m s G : Nat) : Prop where
  n : D.n = k + 3
  k2 : 2 ≤ k
  hd : D.S 2 = hdr l.e first
  lo : D.S 0 = zero128 ∧ D.S 1 = zero128
  S : seg D.S 3 (k - 1) = lay l.e first (rs.take s) ++ B.drop (lay l.e first (rs.take s)).length
  W : D.W.reverse = nums (3 + (lay l.e first (rs.take s)).length) (lay l.e (first + s) (rs.drop s))
  Bl : B.length = k - 1
  B8 : ∀ b ∈ B, b.length = 128
  mB : B.take (lay l.e first (rs.take m)).length = lay l.e first (rs.take m)
  ms : m ≤ s
  sr : s ≤ rs.length
  fit : (lay l.e first rs).length ≤ k - 1
  ok : recOk l.e rs
  up : Rises 1 rs
  old : ∀ b ∈ B, Old l.e G b
  ep : ∀ b ∈ B, Ep l.e b
  new : ∀ r ∈ rs.drop m, G ≤ r.1
  stop : Stops l.e (first + m) (lastGen 1 (rs.take m)) (B.drop (lay l.e first (rs.take m)).length)
  lf : l.from_ = 2
  ls : l.size = k
  ln : l.nx = first + rs.length
  la : l.at_ = 3 + (lay l.e first rs).length
  rg : ∀ r ∈ rs, r.1 ≤ l.g
  Gg : G ≤ l.g
  G1 : 1 ≤ G
  Gl : G ≤ latest l.e B + 1
  e1 : 1 ≤ l.e
  f1 : 1 ≤ first
  be : l.e ≤ i + 1
  bg : l.g ≤ i + 1
  bn : l.nx ≤ i + 1
  bi : i ≤ 1000
section
variable {i k : Nat} {D : Dk} {l : Lg} {first : Nat} {rs : List (Nat × List UInt8)} {B : List (List UInt8)} {m s G : Nat}
theorem Sv.next (h : Sv i k D l first rs B m s G) (hi : i + 1 ≤ 1000) : Sv (i + 1) k D l first rs B m s G :=
  { h with be := by have := h.be; omega, bg := by have := h.bg; omega, bn := by have := h.bn; omega, bi := hi }
theorem Sv.split (h : Sv i k D l first rs B m s G) : lay l.e first rs = lay l.e first (rs.take s) ++ lay l.e (first + s) (rs.drop s) := by
  have := lay_append l.e first (rs.take s) (rs.drop s)
  rw [List.take_append_drop, List.length_take, Nat.min_eq_left h.sr] at this
  exact this
theorem Sv.fitS (h : Sv i k D l first rs B m s G) : (lay l.e first (rs.take s)).length + (lay l.e (first + s) (rs.drop s)).length ≤ k - 1 := by
  have := h.fit
  rw [h.split, List.length_append] at this
  exact this
theorem Sv.lim (h : Sv i k D l first rs B m s G) : first + rs.length < 18446744073709551616 := by have := h.bn; have := h.bi; have := h.ln; omega
theorem Sv.dropS (h : Sv i k D l first rs B m s G) : seg D.S (3 + (lay l.e first (rs.take s)).length) (k - 1 - (lay l.e first (rs.take s)).length) = B.drop (lay l.e first (rs.take s)).length := by
  rw [← seg_drop, h.S, List.drop_left' rfl]
theorem Sv.takeS (h : Sv i k D l first rs B m s G) : seg D.S 3 (lay l.e first (rs.take s)).length = lay l.e first (rs.take s) := by
  have := h.fitS
  rw [← seg_take _ _ _ _ (show _ ≤ k - 1 by omega), h.S, List.take_left' rfl]
theorem Sv.low (h : Sv i k D l first rs B m s G) {j : Nat} (hj : j < 3) : D.cur j = D.S j := by
  rw [cur_ups, h.W, ups_out _ _ _ _ (.inl (by omega))]
/-- what the region holds -/
theorem Sv.cur (h : Sv i k D l first rs B m s G) : regn D.cur 2 k = lay l.e first rs ++ B.drop (lay l.e first rs).length := by
  have hf := h.fitS
  rw [regn_seg, cur_ups, h.W, seg_split _ (lay l.e first (rs.take s)).length _ _ (by omega), ups_in _ _ _ _ (by omega), h.split, List.append_assoc, List.length_append, ← List.drop_drop, ← h.dropS, seg_drop]
  congr 1
  refine Eq.trans ?_ h.takeS
  exact seg_congr fun i h1 h2 => ups_out _ _ _ _ (.inl (by omega))
theorem Sv.stopAt (h : Sv i k D l first rs B m s G) {n : Nat} (h1 : m ≤ n) (h2 : n ≤ rs.length) : Stops l.e (first + n) (lastGen 1 (rs.take n)) (B.drop (lay l.e first (rs.take n)).length) := by
  by_cases hn : n = m
  · subst hn; exact h.stop
  · refine stops_old (G := G) (fun b hb => h.old b (List.mem_of_mem_drop hb)) ?_
    have e : rs.take n = rs.take m ++ (rs.drop m).take (n - m) := by
      rw [← List.take_add, show m + (n - m) = n by omega]
    rw [e, lastGen_append]
    refine lastGen_ge ?_ fun r hr => h.new r (List.mem_of_mem_take hr)
    intro hc
    have := congrArg List.length hc
    rw [List.length_take, List.length_drop, List.length_nil] at this
    omega
theorem Sv.curHalf (h : Sv i k D l first rs B m s G) : ∀ b ∈ regn D.cur 2 k, Old l.e (l.g + 1) b ∧ Ep l.e b := by
  intro b hb
  rw [h.cur, List.mem_append] at hb
  rcases hb with hb | hb
  · obtain ⟨r, hr, h1, h2, h3, h4⟩ := lay_half h.ok h.lim b hb
    have := h.rg r hr
    exact ⟨⟨fun _ => by omega, fun _ => by omega⟩, by omega, by omega⟩
  · have hb := List.mem_of_mem_drop hb
    exact ⟨(h.old b hb).mono (by have := h.Gg; omega), h.ep b hb⟩
theorem Sv.cur8 (h : Sv i k D l first rs B m s G) : ∀ b ∈ regn D.cur 2 k, b.length = 128 := by
  intro b hb
  rw [h.cur, List.mem_append] at hb
  rcases hb with hb | hb
  · exact lay_128 _ _ _ b hb
  · exact h.B8 b (List.mem_of_mem_drop hb)
theorem Sv.late (h : Sv i k D l first rs B m s G) : latest l.e (regn D.cur 2 k) ≤ l.g := late_le fun b hb => (h.curHalf b hb).1
theorem Sv.genLate (h : Sv i k D l first rs B m s G) : (∀ r ∈ rs, r.1 ≤ latest l.e (regn D.cur 2 k)) ∧ G ≤ latest l.e (regn D.cur 2 k) + 1 := by
  have h1 : ∀ r ∈ rs, r.1 ≤ latest l.e (regn D.cur 2 k) := by
    exact lay_late h.ok h.lim fun s hs => by rw [h.cur]; exact List.mem_append_left _ hs
  refine ⟨h1, ?_⟩
  by_cases hn : m < rs.length
  · have hr : rs[m] ∈ rs.drop m := by
      rw [List.drop_eq_getElem_cons hn]
      exact List.mem_cons_self ..
    have := h.new _ hr
    have := h1 _ (List.mem_of_mem_drop hr)
    omega
  · have e : rs.take m = rs := List.take_of_length_le (by omega)
    have := h.mB
    rw [e] at this
    have hB : regn D.cur 2 k = B := by
      rw [h.cur]
      conv => lhs; lhs; rw [← this]
      exact List.take_append_drop _ _
    rw [hB]
    exact h.Gl
/-- opened without a crash -/
def Lg.opened (l : Lg) (g : Nat) : Lg := ⟨l.from_, l.size, l.e, g, l.nx, l.at_⟩
theorem Sv.open_ (h : Sv i k D l first rs B m s G) (hi : i + 1 ≤ 1000) : ∃ g, wopen D.cur 2 k = some (l.opened g, rs.map (·.2)) ∧ hdrF (D.cur 2) = first ∧ Sv (i + 1) k D (l.opened g) first rs B m s G := by
  have hlim := h.lim
  have hln := h.ln
  have hge := lay_ge l.e first rs
  have hfit := h.fit
  have hbi := h.bi
  have hbe := h.be
  have hbg := h.bg
  have hd := h.hd
  obtain ⟨p1, p2⟩ := hdr_parts l.e first (by omega) (by omega)
  have hcd : D.cur 2 = hdr l.e first := by rw [h.low (by omega), hd]
  have hok := hdrOk_hdr l.e first (by omega) (by omega) (by have := h.e1; omega) (by have := h.f1; omega)
  have hlate := h.late
  obtain ⟨hgl1, hgl2⟩ := h.genLate
  have hsc := scan_lay l.e rs first 1 (k - 1 - rs.length) (B.drop (lay l.e first rs).length) h.ok h.up hlim
  have hst := h.stopAt (n := rs.length) (Nat.le_trans h.ms h.sr) (Nat.le_refl _)
  rw [List.take_length] at hst
  rw [scan_stops _ hst, ← h.cur, show k - 1 - rs.length + rs.length = k - 1 by omega, List.append_nil, Nat.add_zero] at hsc
  refine ⟨latest l.e (regn D.cur 2 k) + 1, ?_, by rw [hcd]; exact p2, ?_⟩
  · unfold wopen
    rw [hcd, if_pos hok, p1, p2, hsc, List.length_map, Nat.mod_eq_of_lt hlim, Nat.mod_eq_of_lt (show latest l.e (regn D.cur 2 k) + 1 < 18446744073709551616 by omega)]
    unfold Lg.opened
    rw [h.lf, h.ls, h.ln, h.la]
  · have h' := h.next hi
    exact { h' with lf := h.lf, ls := h.ls, ln := h.ln, la := h.la, rg := fun r hr => by have := hgl1 r hr; show r.1 ≤ _ + 1; omega, Gg := hgl2, bg := by show _ + 1 ≤ _; omega }
theorem Sv.left (h : Sv i k D l first rs B m s G) : l.left + (lay l.e first rs).length = k - 1 := by
  have := h.fit
  have := h.k2
  unfold Lg.left
  rw [h.lf, h.ls, h.la]
  omega
theorem Sv.append (h : Sv i k D l first rs B m s G) (hi : i + 1 ≤ 1000) {p : List UInt8} (hp : p.length ≤ 8192) (hf : cnt p.length ≤ l.left) :
    Sv (i + 1) k (putSecs D l.at_ (recSecs (tagB l.e l.g l.nx) p)) (l.app p.length) first (rs ++ [(l.g, p)]) B m s G := by
  have hs := h.sr
  have hm := h.ms
  have hlim := h.lim
  have hln := h.ln
  have hbn := h.bn
  have hsp := h.split
  have hl := h.left
  have hlg := h.bg
  have hGg := h.Gg
  have hG1 := h.G1
  have t1 : (rs ++ [(l.g, p)]).take s = rs.take s := List.take_append_of_le_length hs
  have t2 : (rs ++ [(l.g, p)]).take m = rs.take m := List.take_append_of_le_length (by omega)
  have d1 : (rs ++ [(l.g, p)]).drop s = rs.drop s ++ [(l.g, p)] := List.drop_append_of_le_length hs
  have d2 : (rs ++ [(l.g, p)]).drop m = rs.drop m ++ [(l.g, p)] := List.drop_append_of_le_length (by omega)
  have hlay : lay l.e first (rs ++ [(l.g, p)]) = lay l.e first rs ++ recSecs (tagB l.e l.g l.nx) p := by
    rw [lay_append, hln]
    show _ ++ (_ ++ []) = _
    rw [List.append_nil]
  have hlen := congrArg List.length hlay
  rw [List.length_append, rs_len] at hlen
  have hsl := congrArg List.length hsp
  rw [List.length_append] at hsl
  refine ⟨by rw [putSecs_n]; exact h.n, h.k2, by rw [putSecs_S]; exact h.hd, by rw [putSecs_S]; exact h.lo, ?_, ?_, h.Bl, h.B8, ?_, hm, by rw [List.length_append]; omega, ?_, ?_, h.up.snoc ?_, h.old, h.ep, ?_, ?_, h.lf, h.ls, ?_, ?_, ?_, hGg, hG1, h.Gl, h.e1, h.f1, ?_, ?_, ?_, hi⟩
  · show seg _ 3 (k - 1) = lay l.e first _ ++ B.drop (lay l.e first _).length
    rw [putSecs_S, t1]; exact h.S
  · show _ = nums (3 + (lay l.e first _).length) (lay l.e (first + s) _)
    rw [putSecs_rev, t1, d1, lay_append, nums_append, ← h.W]
    congr 1
    rw [List.length_drop, show first + s + (rs.length - s) = l.nx by omega, h.la, hsl, Nat.add_assoc]
    show nums _ _ = nums _ (_ ++ [])
    rw [List.append_nil]
  · show B.take (lay l.e first _).length = lay l.e first _
    rw [t2]; exact h.mB
  · show (lay l.e first _).length ≤ _
    rw [hlen]; omega
  · refine ⟨h.ok.e, fun r hr => ?_, fun r hr => ?_⟩
    · rcases List.mem_append.1 hr with hr | hr
      · exact h.ok.g r hr
      · rw [List.mem_singleton] at hr
        subst hr
        show l.g < _
        have := h.bi
        omega
    · rcases List.mem_append.1 hr with hr | hr
      · exact h.ok.p r hr
      · rw [List.mem_singleton] at hr
        subst hr
        exact hp
  · exact lastGen_le (by omega) h.rg
  · intro r hr
    rw [d2] at hr
    rcases List.mem_append.1 hr with hr | hr
    · exact h.new r hr
    · rw [List.mem_singleton] at hr
      subst hr
      exact hGg
  · show Stops l.e (first + m) (lastGen 1 (List.take m (rs ++ [(l.g, p)]))) (B.drop (lay l.e first (List.take m (rs ++ [(l.g, p)]))).length)
    rw [t2]; exact h.stop
  · show (l.nx + 1) % 18446744073709551616 = first + _
    rw [List.length_append, List.length_singleton]
    have := h.bi
    omega
  · show l.at_ + cnt p.length = 3 + (lay l.e first _).length
    rw [hlen, h.la]; omega
  · intro r hr
    rcases List.mem_append.1 hr with hr | hr
    · exact h.rg r hr
    · rw [List.mem_singleton] at hr
      subst hr
      exact Nat.le_refl _
  · show l.e ≤ _
    have := h.be; omega
  · show l.g ≤ _
    omega
  · show (l.nx + 1) % 18446744073709551616 ≤ _
    have := h.bi
    omega
theorem Sv.sync (h : Sv i k D l first rs B m s G) (hi : i + 1 ≤ 1000) : Sv (i + 1) k D.sync l first rs B m rs.length G := by
  have h' := h.next hi
  have hc := h.cur
  rw [regn_seg] at hc
  refine { h' with hd := by rw [← h.hd]; exact h.low (by omega), lo := ⟨(h.low (by omega)).trans h.lo.1, (h.low (by omega)).trans h.lo.2⟩, S := ?_, W := ?_, ms := Nat.le_trans h.ms h.sr, sr := Nat.le_refl _ }
  · rw [List.take_length]; exact hc
  · rw [List.drop_length]; rfl
theorem Sv.reset (h : Sv i k D l first rs B m s G) (hi : i + 1 ≤ 1000) : Sv (i + 1) k (D.write 2 (hdr l.anew.e l.nx)).sync l.anew l.nx [] (regn D.cur 2 k) 0 0 1 := by
  have hbe := h.be
  have hbi := h.bi
  have hln := h.ln
  have hf1 := h.f1
  have he : l.anew.e = l.e + 1 := by show (l.e + 1) % _ = _; omega
  have hb := h.curHalf
  refine ⟨h.n, h.k2, by show upd D.cur 2 (hdr l.anew.e l.nx) 2 = _; exact upd_eq, ?_, ?_, rfl, by rw [regn_seg, seg_len], h.cur8, rfl, Nat.le_refl _, Nat.le_refl _, Nat.zero_le _, ⟨by omega, fun r hr => (by cases hr), fun r hr => (by cases hr)⟩, trivial, fun b hb' => (hb b hb').2.old (by omega), fun b hb' => ?_, fun r hr => (by cases hr), ?_, h.lf, h.ls, rfl, ?_, fun r hr => (by cases hr), Nat.le_refl _, Nat.le_refl _, by omega, by omega, by omega, by omega, by show 1 ≤ _; omega, ?_, hi⟩
  · constructor
    · show upd D.cur 2 (hdr l.anew.e l.nx) 0 = _
      rw [upd_ne (by omega), h.low (by omega)]; exact h.lo.1
    · show upd D.cur 2 (hdr l.anew.e l.nx) 1 = _
      rw [upd_ne (by omega), h.low (by omega)]; exact h.lo.2
  · show seg (upd D.cur 2 (hdr l.anew.e l.nx)) 3 (k - 1) = [] ++ List.drop 0 _
    rw [List.nil_append, List.drop_zero, regn_seg]
    exact seg_congr fun j h1 h2 => upd_ne (by omega)
  · have := (hb b hb').2
    exact ⟨by have := this.1; omega, by have := this.2; omega⟩
  · exact stops_old (fun b hb' => (hb b (List.mem_of_mem_drop hb')).2.old (by omega)) (Nat.le_refl _)
  · show l.from_ + 1 = 3 + 0
    rw [h.lf]
  · show l.nx ≤ _
    have := h.bn; omega
theorem Sv.crash (h : Sv i k D l first rs B m s G) (hi : i + 1 ≤ 1000) (ch : Nat) : ∃ j, s ≤ j ∧ j ≤ rs.length ∧ ∃ l' : Lg, ∃ X G', wopen (D.crash ch).cur 2 k = some (l', (rs.take j).map (·.2)) ∧ hdrF ((D.crash ch).cur 2) = first ∧ l'.nx = first + j ∧ Sv (i + 1) k (D.crash ch) l' first (rs.take j) X j j G' := by
  have hlim := h.lim
  have hln := h.ln
  have hbi := h.bi
  have hbe := h.be
  have hbg := h.bg
  have hbn := h.bn
  have hsr := h.sr
  have hfitS := h.fitS
  have hdS := h.dropS
  have htS := h.takeS
  have hgS := lay_ge l.e first (rs.take s)
  rw [List.length_take, Nat.min_eq_left hsr] at hgS
  obtain ⟨C, hC⟩ : ∃ z, (D.crash ch).cur = z := ⟨_, rfl⟩
  have hC2 : C = crun ch 0 D.S (nums (3 + (lay l.e first (rs.take s)).length) (lay l.e (first + s) (rs.drop s))) := by
    rw [← hC, ← h.W]; rfl
  have hlow : ∀ j, j < 3 → C j = D.S j := fun j hj => by rw [hC2]; exact crun_not _ _ _ _ _ fun x hx => by have := nums_ge hx; omega
  have hB8 : ∀ b ∈ B.drop (lay l.e first (rs.take s)).length, b.length = 128 := fun b hb => h.B8 b (List.mem_of_mem_drop hb)
  have hT : Torn (seg C (3 + (lay l.e first (rs.take s)).length) (k - 1 - (lay l.e first (rs.take s)).length)) (lay l.e (first + s) (rs.drop s)) (B.drop (lay l.e first (rs.take s)).length) := by
    rw [hC2, ← hdS]
    refine crun_torn ch _ 0 D.S _ _ (by omega) (lay_128 _ _ _) fun j h1 h2 => ?_
    refine hB8 _ ?_
    rw [← hdS]
    unfold seg
    rw [List.mem_map]
    exact ⟨j - (3 + (lay l.e first (rs.take s)).length), List.mem_range.2 (by omega), by congr 1; omega⟩
  have hX : seg C 3 (k - 1) = lay l.e first (rs.take s) ++ seg C (3 + (lay l.e first (rs.take s)).length) (k - 1 - (lay l.e first (rs.take s)).length) := by
    rw [seg_split C (lay l.e first (rs.take s)).length 3 (k - 1) (by omega)]
    congr 1
    refine Eq.trans ?_ htS
    exact seg_congr fun j h1 h2 => by rw [hC2]; exact crun_not _ _ _ _ _ fun x hx => by have := nums_ge hx; omega
  generalize hYd : seg C (3 + (lay l.e first (rs.take s)).length) (k - 1 - (lay l.e first (rs.take s)).length) = Y at hT hX
  have hYl : Y.length = k - 1 - (lay l.e first (rs.take s)).length := by rw [← hYd, seg_len]
  have hN8 := lay_128 l.e (first + s) (rs.drop s)
  have hY8 := hT.l128 hN8 hB8
  have hokd : recOk l.e (rs.drop s) := by
    have := h.ok
    rw [← List.take_append_drop s rs] at this
    exact this.right
  have hokt : recOk l.e (rs.take s) := by
    have := h.ok
    rw [← List.take_append_drop s rs] at this
    exact this.left
  have hupt : Rises 1 (rs.take s) := by
    have := h.up
    rw [← List.take_append_drop s rs] at this
    exact this.left
  have hnd : ∀ r ∈ rs.drop s, G ≤ r.1 := fun r hr => by
    refine h.new r ?_
    have hms := h.ms
    rw [show s = m + (s - m) by omega, ← List.drop_drop] at hr
    exact List.mem_of_mem_drop hr
  have hdl : first + s + (rs.drop s).length < 18446744073709551616 := by rw [List.length_drop]; omega
  obtain ⟨j, j1, j2, j3, j4, j5⟩ := scan_torn l.e G (rs.drop s) (first + s) (lastGen 1 (rs.take s)) (k - 1 - s) Y _ hT (by omega) hY8 hokd hnd (fun b hb => h.old b (List.mem_of_mem_drop hb)) (h.stopAt h.ms hsr) hdl
  rw [List.length_drop] at j1
  have htl : (rs.take s).length = s := by rw [List.length_take, Nat.min_eq_left hsr]
  have hsc := scan_lay l.e (rs.take s) first 1 (k - 1 - s) Y hokt hupt (by rw [htl]; omega)
  rw [htl, j2, ← hX, show k - 1 - s + s = k - 1 by omega] at hsc
  have htj : rs.take (s + j) = rs.take s ++ (rs.drop s).take j := List.take_add ..
  have hlj : lay l.e first (rs.take (s + j)) = lay l.e first (rs.take s) ++ lay l.e (first + s) ((rs.drop s).take j) := by rw [htj, lay_append, htl]
  have hljl := congrArg List.length hlj
  rw [List.length_append] at hljl
  have hjl : (rs.take (s + j)).length = s + j := by rw [List.length_take]; omega
  have hXt : (seg C 3 (k - 1)).take (lay l.e first (rs.take (s + j))).length = lay l.e first (rs.take (s + j)) := by
    rw [hX, hljl, List.take_append, List.take_of_length_le (by omega), hlj, Nat.add_sub_cancel_left, j3]
  have hXd : (seg C 3 (k - 1)).drop (lay l.e first (rs.take (s + j))).length = Y.drop (lay l.e (first + s) ((rs.drop s).take j)).length := by
    rw [hX, hljl, ← List.drop_drop, List.drop_left' rfl]
  have hX8 : ∀ b ∈ seg C 3 (k - 1), b.length = 128 := by
    intro b hb
    rw [hX, List.mem_append] at hb
    rcases hb with hb | hb
    · exact lay_128 _ _ _ b hb
    · exact hY8 b hb
  have hXh : ∀ b ∈ seg C 3 (k - 1), Old l.e (l.g + 1) b ∧ Ep l.e b := by
    intro b hb
    rw [hX, List.mem_append] at hb
    have hlay : ∀ (n : Nat) (q : List (Nat × List UInt8)), recOk l.e q → n + q.length < 18446744073709551616 → (∀ r ∈ q, r ∈ rs) → ∀ b ∈ lay l.e n q, (tE b ≤ l.e ∧ (tE b = l.e → tG b < l.g + 1)) ∧ (tE (b.drop 64) ≤ l.e ∧ (tE (b.drop 64) = l.e → tG (b.drop 64) < l.g + 1)) := by
      intro n q hq hn hin b hb
      obtain ⟨r, hr, h1, h2, h3, h4⟩ := lay_half hq hn b hb
      have := h.rg r (hin r hr)
      exact ⟨⟨by omega, fun _ => by omega⟩, ⟨by omega, fun _ => by omega⟩⟩
    have hPB : ∀ b ∈ B.drop (lay l.e first (rs.take s)).length, (tE b ≤ l.e ∧ (tE b = l.e → tG b < l.g + 1)) ∧ (tE (b.drop 64) ≤ l.e ∧ (tE (b.drop 64) = l.e → tG (b.drop 64) < l.g + 1)) := by
      intro b hb
      have hb := List.mem_of_mem_drop hb
      have ho := (h.old b hb).mono (show G ≤ l.g + 1 by have := h.Gg; omega)
      have he := h.ep b hb
      exact ⟨⟨he.1, ho.1⟩, ⟨he.2, ho.2⟩⟩
    have fin : (tE b ≤ l.e ∧ (tE b = l.e → tG b < l.g + 1)) ∧ (tE (b.drop 64) ≤ l.e ∧ (tE (b.drop 64) = l.e → tG (b.drop 64) < l.g + 1)) := by
      rcases hb with hb | hb
      · exact hlay first _ hokt (by rw [htl]; omega) (fun r hr => List.mem_of_mem_take hr) b hb
      · exact hT.all (P := fun e g => e ≤ l.e ∧ (e = l.e → g < l.g + 1)) (hlay (first + s) _ hokd hdl (fun r hr => List.mem_of_mem_drop hr)) hPB b hb
    exact ⟨⟨fin.1.2, fin.2.2⟩, ⟨fin.1.1, fin.2.1⟩⟩
  have hlate : latest l.e (seg C 3 (k - 1)) ≤ l.g := late_le fun b hb => (hXh b hb).1
  have hoks : recOk l.e (rs.take (s + j)) := by
    have := h.ok
    rw [← List.take_append_drop (s + j) rs] at this
    exact this.left
  have hups : Rises 1 (rs.take (s + j)) := by
    have := h.up
    rw [← List.take_append_drop (s + j) rs] at this
    exact this.left
  obtain ⟨p1, p2⟩ := hdr_parts l.e first (by omega) (by omega)
  have hcd : C 2 = hdr l.e first := by rw [hlow 2 (by omega), h.hd]
  have hokh := hdrOk_hdr l.e first (by omega) (by omega) (by have := h.e1; omega) (by have := h.f1; omega)
  have hmap : (rs.take s).map (·.2) ++ ((rs.drop s).take j).map (·.2) = (rs.take (s + j)).map (·.2) := by rw [htj, List.map_append]
  have hml : ((rs.take (s + j)).map (·.2)).length = s + j := by rw [List.length_map, hjl]
  rw [hmap, ← hljl] at hsc
  refine ⟨s + j, by omega, by omega, ⟨2, k, l.e, latest l.e (seg C 3 (k - 1)) + 1, first + (s + j), 3 + (lay l.e first (rs.take (s + j))).length⟩, seg C 3 (k - 1), latest l.e (seg C 3 (k - 1)) + 1, ?_, by rw [hC, hcd]; exact p2, rfl, ?_⟩
  · unfold wopen
    rw [hC, hcd, if_pos hokh, p1, p2, regn_seg, hsc, hml, Nat.mod_eq_of_lt (show first + (s + j) < 18446744073709551616 by omega), Nat.mod_eq_of_lt (show latest l.e (seg C 3 (k - 1)) + 1 < 18446744073709551616 by omega)]
  · have hS : (D.crash ch).S = C := by rw [← hC]; rfl
    have tt : (rs.take (s + j)).take (s + j) = rs.take (s + j) := by rw [List.take_take, Nat.min_self]
    have dd : (rs.take (s + j)).drop (s + j) = [] := List.drop_eq_nil_of_le (by omega)
    refine ⟨h.n, h.k2, by rw [hS, hcd], by rw [hS, hlow 0 (by omega), hlow 1 (by omega)]; exact h.lo, ?_, ?_, seg_len _ _ _, hX8, ?_, Nat.le_refl _, by omega, ?_, hoks, hups, fun b hb => late_mem hb, fun b hb => (hXh b hb).2, ?_, ?_, rfl, rfl, by rw [hjl], rfl, ?_, Nat.le_refl _, by omega, Nat.le_refl _, h.e1, h.f1, by show l.e ≤ _; omega, by show _ + 1 ≤ _; omega, by show first + _ ≤ _; omega, hi⟩
    · show seg (D.crash ch).S 3 (k - 1) = lay l.e first _ ++ List.drop (lay l.e first _).length _
      rw [hS, tt]
      conv => lhs; rw [← List.take_append_drop (lay l.e first (rs.take (s + j))).length (seg C 3 (k - 1)), hXt]
    · show [] = nums _ (lay l.e _ _)
      rw [dd]; rfl
    · show List.take (lay l.e first _).length _ = lay l.e first _
      rw [tt]; exact hXt
    · show (lay l.e first _).length ≤ _
      have := congrArg List.length hXt
      rw [List.length_take, seg_len] at this
      omega
    · rw [dd]; intro r hr; cases hr
    · show Stops l.e (first + (s + j)) (lastGen 1 _) (List.drop (lay l.e first _).length _)
      rw [tt, hXd, htj, lastGen_append, ← Nat.add_assoc]
      exact j4
    · intro r hr
      have := lay_late (l := first) hoks (by rw [hjl]; omega) (fs := seg C 3 (k - 1)) (fun x hx => by rw [← hXt] at hx; exact List.mem_of_mem_take hx) r hr
      show r.1 ≤ _ + 1
      omega
end
theorem ups_same {z : List UInt8} : ∀ (l : List (Nat × List UInt8)) (f : Secs) (i : Nat), f i = z → (∀ x ∈ l, x.2 = z) → ups f l i = z
  | [], _, _, h, _ => h
  | x :: l, f, i, h, hl => by
    show ups (upd f x.1 x.2) l i = z
    refine ups_same l _ i ?_ fun y hy => hl y (List.mem_cons_of_mem _ hy)
    unfold upd
    split
    · exact hl x (List.mem_cons_self ..)
    · exact h
theorem nums_snd : ∀ {a : Nat} {l : List (List UInt8)} {x : Nat × List UInt8}, x ∈ nums a l → x.2 ∈ l
  | _, [], _, h => by cases h
  | a, s :: r, x, h => by
    rw [nums, List.mem_cons] at h
    rcases h with rfl | h
    · exact List.mem_cons_self ..
    · exact List.mem_cons_of_mem _ (nums_snd h)
/-- the new log -/
theorem Sv.begin_ (k : Nat) (hk : 2 ≤ k) : Sv 0 k (created (Dk.new (k + 3)) 2 k) (Lg.first 2 k) 1 [] (List.replicate (k - 1) zero128) 0 0 1 := by
  have hz : ∀ j, (putSecs (Dk.new (k + 3)) (2 + 1) (List.replicate (k - 1) zero128)).cur j = zero128 := fun j => by
    rw [cur_ups, putSecs_rev]
    refine ups_same _ _ _ ?_ ?_
    · rw [putSecs_S]; rfl
    · intro x hx
      rw [List.mem_append] at hx
      rcases hx with hx | hx
      · cases hx
      · exact List.eq_of_mem_replicate (nums_snd hx)
  have hzz : ∀ b ∈ List.replicate (k - 1) zero128, Ep 0 b := fun b hb => by
    rw [List.eq_of_mem_replicate hb]
    exact ⟨by decide, by decide⟩
  have hS : ∀ j, j ≠ 2 → (created (Dk.new (k + 3)) 2 k).S j = zero128 := fun j hj => by
    show upd (putSecs (Dk.new (k + 3)) (2 + 1) (List.replicate (k - 1) zero128)).cur 2 (hdr 1 1) j = _
    rw [upd_ne hj, hz]
  refine ⟨?_, hk, (by show upd (putSecs (Dk.new (k + 3)) (2 + 1) (List.replicate (k - 1) zero128)).cur 2 (hdr 1 1) 2 = _; exact upd_eq), ⟨hS 0 (by omega), hS 1 (by omega)⟩, ?_, rfl, by simp, fun b hb => by rw [List.eq_of_mem_replicate hb]; rfl, rfl, Nat.le_refl _, Nat.le_refl _, Nat.zero_le _, ⟨by show 1 < _; omega, fun r hr => (by cases hr), fun r hr => (by cases hr)⟩, trivial, fun b hb => (hzz b hb).old (by show 0 < 1; omega), fun b hb => ?_, fun r hr => (by cases hr), ?_, rfl, rfl, rfl, rfl, fun r hr => (by cases hr), Nat.le_refl _, Nat.le_refl _, by omega, Nat.le_refl _, Nat.le_refl _, Nat.le_refl _, Nat.le_refl _, Nat.le_refl _, by omega⟩
  · show (putSecs _ _ _).n = _
    rw [putSecs_n]; rfl
  · show seg _ 3 (k - 1) = [] ++ List.drop 0 _
    rw [List.nil_append, List.drop_zero]
    rw [seg_congr (g := fun _ => zero128) fun j h1 h2 => hS j (by omega)]
    unfold seg
    rw [List.map_const', List.length_range]
  · have := hzz b hb
    exact ⟨by show _ ≤ 1; have := this.1; omega, by show _ ≤ 1; have := this.2; omega⟩
  · exact stops_old (fun b hb => (hzz b (List.mem_of_mem_drop hb)).old (by show 0 < 1; omega)) (Nat.le_refl _)
end Go.Proofs.YtlokfndonjldpaaDoor
set_option linter.unusedSimpArgs false
set_option linter.unusedVariables false
namespace Go.Proofs.YtlokfndonjldpaaDoor

theorem nums_len : ∀ (a : Nat) (l : List (List UInt8)), (nums a l).length = l.length
  | _, [] => rfl
  | a, s :: r => by rw [nums, List.length_cons, nums_len, List.length_cons]
section
variable {i k : Nat} {D : Dk} {l : Lg} {first : Nat} {rs : List (Nat × List UInt8)} {B : List (List UInt8)} {m s G : Nat}
theorem Sv.wl (h : Sv i k D l first rs B m s G) : D.W.length ≤ k - 1 := by
  have := h.fitS
  rw [← List.length_reverse, h.W, nums_len]
  omega
theorem Sv.lok (h : Sv i k D l first rs B m s G) (hk : k ≤ 1000) : l.ok := by
  have h1 := h.lf
  have h2 := h.ls
  have h3 := h.la
  have h4 := h.fit
  have h5 := h.be
  have h6 := h.bg
  have h7 := h.bn
  have h8 := h.bi
  have h9 := h.k2
  exact ⟨by omega, by omega, by omega, by omega, by omega, by omega⟩
theorem Sv.inn (h : Sv i k D l first rs B m s G) : l.from_ + l.size ≤ D.n := by
  have h1 := h.lf
  have h2 := h.ls
  have h3 := h.n
  omega
theorem hdr_back (e f : Nat) : (hdr e f).drop 64 = zeroB 64 := by
  have hl : (sealed ([79, 87, 65, 76] ++ le 8 e ++ le 8 f)).length = 24 := by rw [sealed_len]; simp
  unfold hdr
  rw [List.drop_append, List.drop_eq_nil_of_le (by omega), hl, List.nil_append, drop_zeroB]
theorem wopen_congr {f g : Secs} {a n : Nat} (h : ∀ i, a ≤ i → i < a + n → f i = g i) (hn : 1 ≤ n) : wopen f a n = wopen g a n := by
  have h1 : f a = g a := h a (Nat.le_refl _) (by omega)
  have h2 : regn f a n = regn g a n := by
    unfold regn
    apply List.map_congr_left
    intro j hj
    have := List.mem_range.1 hj
    exact h _ (by omega) (by omega)
  unfold wopen
  rw [h1, h2]
/-- a header that a crash tears -/
theorem Sv.torn (h : Sv i k D l first rs B m s G) (hi : i + 1 ≤ 1000) (hW : D.W = []) (ch : Nat) :
    ∃ l' ps, wopen ((D.write 2 (hdr (l.e + 1) l.nx)).crash ch).cur 2 k = some (l', ps) ∧ l'.nx = l.nx ∧ (ps.length = rs.length ∨ ps = []) := by
  have hbe := h.be
  have hbn := h.bn
  have hln := h.ln
  have hf1 := h.f1
  have hk := h.k2
  have hDS : D.cur = D.S := by unfold Dk.cur; rw [hW]; rfl
  obtain ⟨C, hC⟩ : ∃ z, ((D.write 2 (hdr (l.e + 1) l.nx)).crash ch).cur = z := ⟨_, rfl⟩
  have hC2 : C = tear D.S (2, hdr (l.e + 1) l.nx) (digit ch 0) := by
    rw [← hC]
    show crun ch 0 D.S ((2, hdr (l.e + 1) l.nx) :: D.W).reverse = _
    rw [hW]
    rfl
  rw [hC]
  have hoth : ∀ j, j ≠ 2 → C j = D.cur j := fun j hj => by rw [hC2, hDS]; exact tear_ne hj
  have h2 : C 2 = D.cur 2 ∨ C 2 = hdr (l.e + 1) l.nx := by
    rw [hC2, hDS]
    unfold tear
    split
    · right; exact upd_eq
    · split
      · right
        show upd D.S 2 ((hdr (l.e + 1) l.nx).take 64 ++ (D.S 2).drop 64) 2 = _
        rw [upd_eq, h.hd, hdr_back l.e first, ← hdr_back (l.e + 1) l.nx, List.take_append_drop]
      · left; rfl
  rcases h2 with h2 | h2
  · obtain ⟨g, ho, _, _⟩ := h.open_ hi
    have e : wopen C 2 k = wopen D.cur 2 k := wopen_congr (fun j h1 h3 => by
      by_cases hj : j = 2
      · rw [hj]; exact h2
      · exact hoth j hj) (by omega)
    rw [e, ho]
    exact ⟨_, _, rfl, rfl, .inl (by simp)⟩
  · have hbi := h.bi
    obtain ⟨p1, p2⟩ := hdr_parts (l.e + 1) l.nx (by omega) (by omega)
    have hok := hdrOk_hdr (l.e + 1) l.nx (by omega) (by omega) (by omega) (by omega)
    have hr : regn C 2 k = regn D.cur 2 k := by
      rw [regn_seg, regn_seg]
      exact seg_congr fun j h1 h3 => hoth j (by omega)
    have hst : Stops (l.e + 1) l.nx 1 (regn C 2 k) := by
      rw [hr]
      exact stops_old (fun b hb => ((h.curHalf b hb).2).old (by omega)) (Nat.le_refl _)
    unfold wopen
    rw [h2, if_pos hok, p1, p2, scan_stops _ hst]
    exact ⟨_, _, rfl, by show (l.nx + 0) % _ = _; omega, .inr rfl⟩
end
end Go.Proofs.YtlokfndonjldpaaDoor
