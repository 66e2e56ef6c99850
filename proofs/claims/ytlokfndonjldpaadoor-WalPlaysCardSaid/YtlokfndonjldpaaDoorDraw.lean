/- The walk through a drawn region whose head makes array variables: what the variables hold, whatever the order; the steps of the walk. Conditions: those of each theorem. -/
import Derived.Test.YtlokfndonjldpaaDoorBlk
import Derived.BigQuiet
import Derived.StillTailTactics
set_option linter.unusedSimpArgs false
set_option linter.unusedVariables false
set_option linter.unnecessarySimpa false
namespace Go.Proofs.YtlokfndonjldpaaDoor
open Go.RowKit

/-- the slots ds hold nothing yet, or each a fresh block of its own with its zero cells -/
structure Ptrs (B : Nat) (ds : List (Nat × TypeId)) (Z : TypeId → List Value) (a : Act) (w : World) : Prop where
  each : ∀ x ∈ ds, a.tmps.getD x.1 undef = undef ∨ ∃ g, B ≤ g ∧ a.tmps.getD x.1 undef = .pointer (some ⟨g, 0, none⟩) ∧ Blk w g x.2 (Z x.2)
  apart : ∀ x ∈ ds, ∀ y ∈ ds, x.1 ≠ y.1 → ∀ g, a.tmps.getD x.1 undef = .pointer (some ⟨g, 0, none⟩) → a.tmps.getD y.1 undef ≠ .pointer (some ⟨g, 0, none⟩)

theorem put_getD (a : Act) (d : Nat) (v : Value) (i : Nat) : (a.put (some d) v).tmps.getD i undef = if i = d ∧ d < a.tmps.size then v else a.tmps.getD i undef := by
  simp only [Act.put]
  by_cases h : i = d
  · subst h
    by_cases hs : i < a.tmps.size
    · simp [hs]
    · simp [hs]
  · rw [if_neg (fun hh => h hh.1)]
    simp [Array.getElem?_setIfInBounds, Ne.symm h]

section
variable {P : Program} {ops : Array Oper} {w0 : World} {Us : Nat → Value → Prop} {B : Nat} {ds : List (Nat × TypeId)} {Z : TypeId → List Value}

theorem Ptrs.start {a : Act} {w : World} (h : ∀ x ∈ ds, a.tmps.getD x.1 undef = undef) : Ptrs B ds Z a w :=
  ⟨fun x hx => .inl (h x hx), fun x hx y hy _ g hg => by rw [h x hx] at hg; cases hg⟩

theorem Ptrs.keep {a a' : Act} {w w' : World} (h : Ptrs B ds Z a w) (ha : ∀ x ∈ ds, a'.tmps.getD x.1 undef = a.tmps.getD x.1 undef) (hb : Below w.heap.size w w') : Ptrs B ds Z a' w' :=
  ⟨fun x hx => by
    rw [ha x hx]
    rcases h.each x hx with h1 | ⟨g, h1, h2, h3⟩
    · exact .inl h1
    · exact .inr ⟨g, h1, h2, h3.keep hb⟩,
  fun x hx y hy hne g => by rw [ha x hx, ha y hy]; exact h.apart x hx y hy hne g⟩

theorem Ptrs.clear {a : Act} {w : World} (h : Ptrs B ds Z a w) (d : Nat) : Ptrs B ds Z (a.put (some d) undef) w := by
  refine ⟨fun x hx => ?_, fun x hx y hy hne g => ?_⟩
  · rw [put_getD]
    split
    · exact .inl rfl
    · exact h.each x hx
  · rw [put_getD, put_getD]
    intro hg hg'
    split at hg
    · cases hg
    · split at hg'
      · cases hg'
      · exact h.apart x hx y hy hne g hg hg'

/-- what is looked at of an operation of the head -/
def ptrOp (ds : List (Nat × TypeId)) (o : Oper) : Bool :=
  match o.dst with
  | none => true
  | some d => if ds.any (fun x => x.1 == d) then (match o.op with | .alloc t => ds.all (fun x => x.1 != d || x.2 == t) | _ => false) else true

theorem pres_ptr {o : Oper} (hB : B ≤ w0.heap.size) (hZ : ∀ x ∈ ds, ArrT P x.2 (Z x.2)) (h : ptrOp ds o = true) : Pres P w0 (Ptrs B ds Z) o := by
  obtain ⟨dst, op, ty, ps, af, gd⟩ := o
  intro a w hw hΦ
  cases dst with
  | none => exact ⟨hΦ, fun u w' _ hb => hΦ.keep (fun _ _ => rfl) hb, fun f args w1 u w' _ hb => hΦ.keep (fun _ _ => rfl) hb⟩
  | some d =>
    by_cases hin : ds.any (fun x => x.1 == d) = true
    · simp only [ptrOp, hin, if_true] at h
      cases op
      case alloc t =>
        have ht : ∀ x ∈ ds, x.1 = d → x.2 = t := fun x hx hxd => by
          have := List.all_eq_true.1 h x hx
          simpa [hxd] using this
        obtain ⟨x0, hx0, hxd0⟩ := List.any_eq_true.1 hin
        have hxd : x0.1 = d := by simpa using hxd0
        have hz : ArrT P t (Z t) := by have := hZ x0 hx0; rwa [ht x0 hx0 hxd] at this
        have hrun : (execOp a.eval (⟨some d, Op.alloc t, ty, ps, af, gd⟩ : Oper)).run P w = .ok (.value (.pointer (some ⟨w.heap.size, 0, none⟩))) (w.alloc (.cells (Z t).toArray t)) := by
          simp [execOp, run_alloc_arr t (Z t) hz, Result.andThen]
        refine ⟨hΦ.clear d, fun u w' hr hb => ?_, fun f args w1 u w' hr hb => ?_⟩
        · rw [hrun] at hr
          obtain ⟨hu, rfl⟩ : (.pointer (some ⟨w.heap.size, 0, none⟩) : Value) = u ∧ w.alloc (.cells (Z t).toArray t) = w' := by
            simpa using hr
          subst hu
          refine ⟨fun x hx => ?_, fun x hx y hy hne g => ?_⟩
          · rw [put_getD]
            split
            · rename_i hh
              refine .inr ⟨w.heap.size, Nat.le_trans hB hw.size, rfl, ?_⟩
              rw [ht x hx hh.1]
              exact Blk.new _ _ _
            · rcases hΦ.each x hx with h1 | ⟨g, h1, h2, h3⟩
              · exact .inl h1
              · exact .inr ⟨g, h1, h2, h3.keep hb⟩
          · rw [put_getD, put_getD]
            have old : ∀ z ∈ ds, a.tmps.getD z.1 undef ≠ .pointer (some ⟨w.heap.size, 0, none⟩) := fun z hz hq => by
              rcases hΦ.each z hz with h1 | ⟨g', h1, h2, h3⟩
              · rw [h1] at hq; cases hq
              · rw [h2] at hq
                have hlt := h3.lt
                obtain rfl : g' = w.heap.size := by simpa using hq
                omega
            intro hg hg'
            split at hg
            · rename_i hx1
              rw [← hg] at hg'
              split at hg'
              · rename_i hy1
                exact hne (hx1.1.trans hy1.1.symm)
              · exact old y hy hg'
            · split at hg'
              · rw [← hg'] at hg
                exact old x hx hg
              · exact hΦ.apart x hx y hy hne g hg hg'
        · rw [hrun] at hr
          simp at hr
      all_goals simp at h
    · have ha : ∀ (u : Value), ∀ x ∈ ds, (a.put (some d) u).tmps.getD x.1 undef = a.tmps.getD x.1 undef := fun u x hx => by
        rw [put_getD, if_neg]
        intro hh
        exact hin (List.any_eq_true.2 ⟨x, hx, by simp [hh.1]⟩)
      exact ⟨hΦ.keep (ha _) (Below.refl _ _), fun u w' _ hb => hΦ.keep (ha u) hb, fun f args w1 u w' _ hb => hΦ.keep (ha u) hb⟩

/-- a step of the walk that only reads, or calls what hands back a plain value -/
theorem wpU_quiet {Q : Act → Prop} {o : Oper} {l : List Oper} {k d : Nat} {a : Act} (v : Value) (hd : o.dst = some d) (hlt : d < a.tmps.size) (hU : Us k = fun u => u = v)
    (h : ∀ x : Ext w0, wpQuiet P ops (fun w' => ∃ y : Ext x.w, w' = y.w) (fun a' => a' = a.put o.dst v ∧ wpU P ops w0 Us Q l (k + 1) a') [o] a) : wpU P ops w0 Us Q (o :: l) k a := by
  have hne : ∀ v', a.put o.dst v' = a.put o.dst v → v' = v := fun v' he => by
    rw [hd] at he
    have := congrArg (fun b : Act => b.tmps.getD d undef) he
    simp only [put_getD] at this
    simpa [hlt] using this
  unfold wpU
  split
  · rename_i hw
    have H : ∀ x : Ext w0, o.quietAt P a (fun w' => ∃ y : Ext x.w, w' = y.w) x.w v ∧ wpU P ops w0 Us Q l (k + 1) (a.put o.dst v) := fun x => by
      have := h x
      unfold wpQuiet at this
      rw [if_pos hw] at this
      obtain ⟨v', hv, he, hK⟩ := this
      obtain rfl := hne v' he
      exact ⟨hv _ ⟨⟨x.w, Below.refl _ _⟩, rfl⟩, hK⟩
    refine ⟨fun w hb => ?_, fun u hu => ?_⟩
    · have := (H ⟨w, hb⟩).1
      unfold Oper.quietAt at this
      generalize (execOp a.eval o).run P w = r at this
      rw [hU]
      cases r with
      | ok n w' =>
        cases n <;> simp only [Oper.quietUpon, uUpon] at this ⊢
        case value u => exact ⟨this.1 ▸ Below.refl _ _, this.2⟩
        case skip => exact ⟨this.1, this.2.symm⟩
        case enter f args =>
          refine ⟨this.1, this.2.mono fun e w'' hh => ?_⟩
          obtain ⟨he, y, rfl⟩ := hh
          exact ⟨v, he, rfl, y.h⟩
      | halt x w' => simp only [Oper.quietUpon] at this
    · rw [hU] at hu
      subst hu
      exact (H ⟨w0, Below.refl _ _⟩).2
  · rename_i hw
    have := h ⟨w0, Below.refl _ _⟩
    unfold wpQuiet at this
    rw [if_neg hw] at this
    exact this.2

theorem wpU_alloc {Q : Act → Prop} {l : List Oper} {k d : Nat} {a : Act} {t : TypeId} {ty : TypeId} {ps : String} {af : Array Edge} (cs : List Value) (hz : ArrT P t cs) (hU : Us k = fun u => ∃ g, w0.heap.size ≤ g ∧ u = .pointer (some ⟨g, 0, none⟩))
    (h : ∀ g, w0.heap.size ≤ g → wpU P ops w0 Us Q l (k + 1) (a.put (some d) (.pointer (some ⟨g, 0, none⟩)))) : wpU P ops w0 Us Q (⟨some d, Op.alloc t, ty, ps, af, none⟩ :: l) k a := by
  have hw : Region.wanted (⟨some d, Op.alloc t, ty, ps, af, none⟩ : Oper) (yielded ops a.tmps) = true := rfl
  unfold wpU
  rw [if_pos hw]
  refine ⟨fun w hb => ?_, fun u hu => ?_⟩
  · have hrun : (execOp a.eval (⟨some d, Op.alloc t, ty, ps, af, none⟩ : Oper)).run P w = .ok (.value (.pointer (some ⟨w.heap.size, 0, none⟩))) (w.alloc (.cells cs.toArray t)) := by
      simp [execOp, run_alloc_arr t cs hz, Result.andThen]
    rw [hrun]
    refine ⟨(Below.refl _ _).alloc (Nat.le_refl _) _, ?_⟩
    rw [hU]
    exact ⟨_, hb.size, rfl⟩
  · rw [hU] at hu
    obtain ⟨g, hg, rfl⟩ := hu
    exact h g hg
end
end Go.Proofs.YtlokfndonjldpaaDoor
