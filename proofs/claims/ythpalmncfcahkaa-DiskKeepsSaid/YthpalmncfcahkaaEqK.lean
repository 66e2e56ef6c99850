/- The reference's lists, element by element; when the loop over them says that two disks are the same. Conditions: none. -/
import Derived.Test.YthpalmncfcahkaaRefRW
import Derived.Test.YthpalmncfcahkaaEqual
set_option linter.unusedSimpArgs false
set_option linter.unusedVariables false
namespace Go.Proofs.Ythpalmncfcahkaa
open Go.RowKit

theorem SecR.at {N : Nat → Prop} {w : World} {s : Sl} {n : Nat} {f : Secs} (h : SecR N w s n f) {i : Nat} (hi : i < n) :
    ∃ b off sl, s.A = some ⟨b, off, none⟩ ∧ b < w.heap.size ∧ w.cell? ⟨b, off + i, none⟩ = some (Sl.v sl) ∧ RB w sl.A sl.n (f i) := by
  obtain ⟨ss, h1, h2⟩ := h.r
  have hn : i < s.n := by rw [h.e]; exact hi
  obtain ⟨b, off, e, hb, hc⟩ := h1.1.2 (by omega)
  obtain ⟨sl, hs, hr⟩ := h2.at (show ((List.range n).map f)[i]? = some (f i) from by simp [hi])
  exact ⟨b, off, sl, e, hb, hc i sl.v (by rw [List.getElem?_map, hs]; rfl), hr.rb⟩
theorem WrR.at {N : Nat → Prop} {w : World} {s : Sl} {W : List (Nat × List UInt8)} (h : WrR N w s W) {i : Nat} {x : Nat × List UInt8} (hx : W[i]? = some x) :
    ∃ b off sl, s.A = some ⟨b, off, none⟩ ∧ b < w.heap.size ∧ w.cell? ⟨b, off + i * 2, none⟩ = some (.int .i64 x.1) ∧ w.cell? ⟨b, off + i * 2 + 1, none⟩ = some (Sl.v sl) ∧ RB w sl.A sl.n x.2 := by
  obtain ⟨ws, h1, h2, h3⟩ := h.r
  have hi := (List.getElem?_eq_some_iff.1 hx).1
  have hn : i < s.n := by rw [h.e]; exact hi
  obtain ⟨b, off, y, e, hb, hy, hc⟩ := RL.el (f := wrCs) wrCs_len h1.1 hn (by omega)
  have e1 : y.1 = x.1 := by
    have := congrArg (fun l => l[i]?) h3
    simp only [List.getElem?_map, hy, hx, Option.map_some, Option.some.injEq] at this
    exact this
  refine ⟨b, off, y.2, e, hb, ?_, hc 1 _ rfl, (h2.2 i y.2 x.2 (by rw [List.getElem?_map, hy]; rfl) (by rw [List.getElem?_map, hx]; rfl)).rb⟩
  rw [← e1]
  exact hc 0 _ rfl

def secsEq (D E : Dk) (k : Nat) : Bool := (List.range k).all fun i => D.S i == E.S i
def wrsEq (D E : Dk) (k : Nat) : Bool := (List.range k).all fun i => D.W.reverse[i]? == E.W.reverse[i]?
theorem secsEq_succ (D E : Dk) (k : Nat) : secsEq D E (k + 1) = (secsEq D E k && (D.S k == E.S k)) := by
  unfold secsEq
  rw [List.range_succ, List.all_append]
  simp
theorem wrsEq_succ (D E : Dk) (k : Nat) : wrsEq D E (k + 1) = (wrsEq D E k && (D.W.reverse[k]? == E.W.reverse[k]?)) := by
  unfold wrsEq
  rw [List.range_succ, List.all_append]
  simp
theorem same_fin (D E : Dk) (q k : Nat) (hD : D.n = q) (hE : E.n = q) (b : Bool) (hb : b = (decide (D.W.length = E.W.length) && secsEq D E q && wrsEq D E k)) (hk : k ≤ D.W.length) (h : b = true → k = D.W.length) : b = true ↔ D.same E := by
  constructor
  · intro ht
    have hk' := h ht
    rw [ht] at hb
    have hb := hb.symm
    simp only [Bool.and_eq_true, decide_eq_true_eq] at hb
    obtain ⟨⟨h1, h2⟩, h3⟩ := hb
    refine ⟨by rw [hD, hE], ?_, fun i hi => ?_⟩
    · refine List.reverse_inj.1 ?_
      apply List.ext_getElem?
      intro i
      by_cases hi : i < k
      · have := List.all_eq_true.1 h3 i (List.mem_range.2 hi)
        simpa using this
      · rw [List.getElem?_eq_none (by rw [List.length_reverse]; omega), List.getElem?_eq_none (by rw [List.length_reverse]; omega)]
    · have := List.all_eq_true.1 h2 i (List.mem_range.2 (by omega))
      simpa using this
  · rintro ⟨h1, h2, h3⟩
    rw [hb]
    simp only [Bool.and_eq_true, decide_eq_true_eq]
    refine ⟨⟨by rw [h2], List.all_eq_true.2 fun i hi => ?_⟩, List.all_eq_true.2 fun i hi => ?_⟩
    · rw [h3 i (by have := List.mem_range.1 hi; omega)]
      simp
    · rw [h2]
      simp
end Go.Proofs.Ythpalmncfcahkaa
