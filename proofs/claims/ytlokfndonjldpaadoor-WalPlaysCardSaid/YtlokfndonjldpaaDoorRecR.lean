/- Lists of records in memory; the plain Open, step by step. Conditions: none. -/
import Derived.Test.YtlokfndonjldpaaDoorLatest
import Derived.Test.YtlokfndonjldpaaDoorStep
set_option linter.unusedSimpArgs false
set_option linter.unusedVariables false
namespace Go.Proofs.YtlokfndonjldpaaDoor
open Go.RowKit

def recCs (x : Nat × Sl) : List Value := [.int .u64 x.1, x.2.v]
theorem recCs_len (x : Nat × Sl) : (recCs x).length = 2 := rfl
theorem rec_one (ws : List (Nat × Sl)) : ∀ v ∈ ws.flatMap recCs, v.oneCell' = true := by
  intro v hv
  obtain ⟨x, _, hx⟩ := List.mem_flatMap.1 hv
  simp only [recCs, List.mem_cons, List.not_mem_nil, or_false] at hx
  rcases hx with rfl | rfl <;> rfl
/-- records, the oldest first -/
structure RecR (N : Nat → Prop) (w : World) (s : Sl) (R : List (Nat × List UInt8)) : Prop where
  e : s.n = R.length
  nc : s.n ≤ s.c
  cm : s.c ≤ 9223372036854775807
  r : ∃ ws : List (Nat × Sl), RN N w 2 s.A s.n (ws.flatMap recCs) ∧ Sls N w (ws.map (·.2)) (R.map (·.2)) ∧ ws.map (·.1) = R.map (·.1)
section
variable {N N' : Nat → Prop} {w w' : World} {s : Sl} {R : List (Nat × List UInt8)} {row : Option Nat}
theorem RecR.keep (h : RecR N w s R) (hb : Below w.heap.size w w') : RecR N w' s R := ⟨h.e, h.nc, h.cm, h.r.elim fun ws ⟨h1, h2, h3⟩ => ⟨ws, h1.keep hb, h2.keep hb, h3⟩⟩
theorem RecR.mono (h : RecR N w s R) (hN : ∀ b, N b → N' b) : RecR N' w s R := ⟨h.e, h.nc, h.cm, h.r.elim fun ws ⟨h1, h2, h3⟩ => ⟨ws, h1.mono hN, h2.mono hN, h3⟩⟩
theorem RecR.lt (h : RecR N w s R) : RecR (fun b => N b ∧ b < w.heap.size) w s R := ⟨h.e, h.nc, h.cm, h.r.elim fun ws ⟨h1, h2, h3⟩ => ⟨ws, h1.lt, h2.lt, h3⟩⟩
theorem RecR.grown (h : RecR N w s R) (hg : w.grownBy w' row) (hr : ∀ g, row = some g → ¬ N g) : RecR N w' s R := ⟨h.e, h.nc, h.cm, h.r.elim fun ws ⟨h1, h2, h3⟩ => ⟨ws, h1.grown hg hr, h2.grown hg hr, h3⟩⟩
theorem RecR.nil (N : Nat → Prop) (w : World) : RecR N w ⟨none, 0, 0⟩ [] := ⟨rfl, Nat.le_refl _, by decide, [], RN.nil _ _ _ _, Sls.nil, rfl⟩
theorem RecR.at (h : RecR N w s R) {i : Nat} {x : Nat × List UInt8} (hx : R[i]? = some x) :
    ∃ b off sl, s.A = some ⟨b, off, none⟩ ∧ b < w.heap.size ∧ w.cell? ⟨b, off + i * 2, none⟩ = some (.int .u64 x.1) ∧ w.cell? ⟨b, off + i * 2 + 1, none⟩ = some (Sl.v sl) ∧ SlR N w sl x.2 := by
  obtain ⟨ws, h1, h2, h3⟩ := h.r
  have hi := (List.getElem?_eq_some_iff.1 hx).1
  have hn : i < s.n := by rw [h.e]; exact hi
  obtain ⟨b, off, y, e, hb, hy, hc⟩ := RL.el (f := recCs) recCs_len h1.1 hn (by omega)
  have e1 : y.1 = x.1 := by
    have := congrArg (fun l => l[i]?) h3
    simp only [List.getElem?_map, hy, hx, Option.map_some, Option.some.injEq] at this
    exact this
  refine ⟨b, off, y.2, e, hb, ?_, hc 1 _ rfl, h2.2 i y.2 x.2 (by rw [List.getElem?_map, hy]; rfl) (by rw [List.getElem?_map, hx]; rfl)⟩
  rw [← e1]
  exact hc 0 _ rfl
end
/-- numbered records -/
def recsAt : Nat → List (List UInt8) → List (Nat × List UInt8)
  | _, [] => []
  | f, p :: r => (f, p) :: recsAt ((f + 1) % 18446744073709551616) r
theorem recsAt_len : ∀ (f : Nat) (ps : List (List UInt8)), (recsAt f ps).length = ps.length
  | _, [] => rfl
  | f, p :: r => by rw [recsAt, List.length_cons, recsAt_len _ r, List.length_cons]
theorem recsAt_snd : ∀ (f : Nat) (ps : List (List UInt8)), (recsAt f ps).map (·.2) = ps
  | _, [] => rfl
  | f, p :: r => by rw [recsAt, List.map_cons, recsAt_snd _ r]
theorem recsAt_snoc : ∀ (f : Nat) (ps : List (List UInt8)) (p : List UInt8), f < 18446744073709551616 → recsAt f (ps ++ [p]) = recsAt f ps ++ [((f + ps.length) % 18446744073709551616, p)]
  | f, [], p, hf => by
    show [(f, p)] = [] ++ [((f + 0) % 18446744073709551616, p)]
    rw [Nat.add_zero, Nat.mod_eq_of_lt hf]
    rfl
  | f, q :: r, p, hf => by
    rw [List.cons_append, recsAt, recsAt, recsAt_snoc _ r p (Nat.mod_lt _ (by omega)), List.length_cons, List.cons_append]
    congr 4
    omega
theorem intactP_pos {fs : List (List UInt8)} {t p : List UInt8} {k : Nat} (h : intactP fs = some (t, p, k)) : 1 ≤ k ∧ k ≤ fs.length ∧ k ≤ 103 := by
  unfold intactP at h
  split at h
  · rename_i hh
    simp only [Option.some.injEq, Prod.mk.injEq] at h
    obtain ⟨_, _, rfl⟩ := h
    exact ⟨cnt_pos _, hh.2.1, by have := hh.1; unfold cnt; omega⟩
  · cases h
/-- where the loop of Open stands: j sectors are read, the records ps are found -/
structure Scn (F : Nat) (e first : Nat) (fs : List (List UInt8)) (j nx g : Nat) (ps : List (List UInt8)) : Prop where
  hj : j ≤ fs.length
  hn : nx = (first + ps.length) % 18446744073709551616
  s : ∃ f, fs.length - j ≤ f ∧ (scan F e first 1 fs).1 = ps ++ (scan f e nx g (fs.drop j)).1 ∧ (scan F e first 1 fs).2 = j + (scan f e nx g (fs.drop j)).2
  l : ps.length ≤ j
section
variable {F e first : Nat} {fs : List (List UInt8)} {j nx g : Nat} {ps : List (List UInt8)}
theorem Scn.start (hF : fs.length ≤ F) (hf : first < 18446744073709551616) : Scn F e first fs 0 first 1 [] :=
  ⟨Nat.zero_le _, by rw [List.length_nil, Nat.add_zero, Nat.mod_eq_of_lt hf], ⟨F, by omega, by simp, by simp⟩, Nat.le_refl _⟩
theorem Scn.done (h : Scn F e first fs j nx g ps) (hj : j = fs.length) : (scan F e first 1 fs) = (ps, j) := by
  obtain ⟨f, _, h1, h2⟩ := h.s
  rw [hj, List.drop_length, scan_nil] at h1 h2
  rw [hj]
  exact Prod.ext (by rw [h1]; simp) (by rw [h2]; simp)
theorem Scn.stop (h : Scn F e first fs j nx g ps) (hj : j < fs.length) (hn : ∀ t p k, intactP (fs.drop j) = some (t, p, k) → ¬ (tE t = e ∧ tL t = nx ∧ g ≤ tG t)) : (scan F e first 1 fs) = (ps, j) := by
  obtain ⟨f, hf, h1, h2⟩ := h.s
  have hs : scan f e nx g (fs.drop j) = ([], 0) := by
    obtain ⟨f', rfl⟩ : ∃ f', f = f' + 1 := ⟨f - 1, by omega⟩
    rw [scan]
    cases hi : intactP (fs.drop j) with
    | none => rfl
    | some x =>
      obtain ⟨t, p, k⟩ := x
      exact if_neg (hn t p k hi)
  rw [hs] at h1 h2
  exact Prod.ext (by rw [h1]; simp) (by rw [h2]; simp)
theorem Scn.next (h : Scn F e first fs j nx g ps) {t p : List UInt8} {k : Nat} (hi : intactP (fs.drop j) = some (t, p, k)) (hy : tE t = e ∧ tL t = nx ∧ g ≤ tG t) :
    Scn F e first fs (j + k) ((nx + 1) % 18446744073709551616) (tG t) (ps ++ [p]) := by
  obtain ⟨k1, k2, k3⟩ := intactP_pos hi
  rw [List.length_drop] at k2
  have hjj := h.hj
  obtain ⟨f, hf, h1, h2⟩ := h.s
  obtain ⟨f', rfl⟩ : ∃ f', f = f' + 1 := ⟨f - 1, by omega⟩
  have hs : scan (f' + 1) e nx g (fs.drop j) = (p :: (scan f' e ((nx + 1) % 18446744073709551616) (tG t) (fs.drop (j + k))).1, k + (scan f' e ((nx + 1) % 18446744073709551616) (tG t) (fs.drop (j + k))).2) := by
    rw [scan, hi]
    show (if tE t = e ∧ tL t = nx ∧ g ≤ tG t then _ else _) = _
    rw [if_pos hy, List.drop_drop]
  rw [hs] at h1 h2
  refine ⟨by omega, by rw [h.hn, List.length_append]; simp; omega, ⟨f', by omega, by rw [h1]; simp, by rw [h2]; simp only; omega⟩, ?_⟩
  rw [List.length_append]
  have := h.l
  simp
  omega
end
end Go.Proofs.YtlokfndonjldpaaDoor
