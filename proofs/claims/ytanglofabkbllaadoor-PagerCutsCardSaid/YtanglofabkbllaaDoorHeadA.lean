/- A region that draws its order, with one variable made in it: what the other operations leave may know its block (some b) or that it is not made yet (none); like XHead else. Conditions: those of each theorem. -/
import Derived.Test.YtanglofabkbllaaDoorHead
set_option linter.unusedSimpArgs false
set_option linter.unusedVariables false
namespace Go.Proofs.YtanglofabkbllaaDoor
open Go.RowKit

section
variable {P : Program} {Q : Exit → Act → World → Prop} {a : Act} {w : World} {l : List Oper}
/-- the facts once the variable of operation p is made (some b) or not yet (none) -/
structure HInvA (l : List Oper) (n p : Nat) (ds : List Nat) (V : Option Nat → Nat → Value → World → Prop) (a : Act) (w : World) (listed : Array Bool) (a' : Act) (w' : World) : Prop where
  size : listed.size = l.length
  tail : ∀ t, n ≤ t → t < l.length → listed.getD t false = false
  closed : ∀ (k : Nat) (o : Oper), l[k]? = some o → listed.getD k false = true → ∀ e ∈ o.after, Region.binds .any e = true → listed.getD e.on false = true
  bel : Below w.heap.size w w'
  f : ∃ (f : Nat → Value) (β : Option Nat), a' = putAll a ds f ∧ (listed.getD p false = false → β = none) ∧ (listed.getD p false = true → ∃ b, β = some b) ∧ (∀ b, β = some b → w.heap.size ≤ b ∧ b < w'.heap.size) ∧ ∀ k, k < n → listed.getD k false = true → V β k (f (slotOf l k)) w'
/-- what operation k leaves -/
def StepA (V : Option Nat → Nat → Value → World → Prop) (p k : Nat) (β : Option Nat) (w' : World) : Value → World → Prop :=
  if k = p then fun u w'' => w''.heap.size = w'.heap.size + 1 ∧ V (some w'.heap.size) p u w'' else V β k
theorem StepA.p {V : Option Nat → Nat → Value → World → Prop} {p : Nat} {β : Option Nat} {w' w'' : World} {u : Value} (h1 : w''.heap.size = w'.heap.size + 1) (h2 : V (some w'.heap.size) p u w'') : StepA V p p β w' u w'' := by
  unfold StepA
  rw [if_pos rfl]
  exact ⟨h1, h2⟩
theorem StepA.o {V : Option Nat → Nat → Value → World → Prop} {p k : Nat} {β : Option Nat} {w' w'' : World} {u : Value} (hk : k ≠ p) (h : V β k u w'') : StepA V p k β w' u w'' := by
  unfold StepA
  rw [if_neg hk]
  exact h
def HStepsA (P : Program) (l : List Oper) (a : Act) (ds : List Nat) (p : Nat) (V : Option Nat → Nat → Value → World → Prop) (w : World) : List Oper → Nat → Prop
  | [], _ => True
  | o :: r, k => (∀ (β : Option Nat) (f : Nat → Value) (w' : World), Below w.heap.size w w' → (∀ b, β = some b → w.heap.size ≤ b ∧ b < w'.heap.size) → Deps (V β) l o f w' →
      wpList P l.toArray (AftH (StepA V p k β w') o (putAll a ds f) w') [o] (putAll a ds f) w') ∧ HStepsA P l a ds p V w r (k + 1)
theorem HStepsA.nil {ds : List Nat} {p : Nat} {V : Option Nat → Nat → Value → World → Prop} {k : Nat} : HStepsA P l a ds p V w [] k := trivial
theorem HStepsA.cons {ds : List Nat} {p : Nat} {V : Option Nat → Nat → Value → World → Prop} {k : Nat} {o : Oper} {r : List Oper} (h : ∀ (β : Option Nat) (f : Nat → Value) (w' : World), Below w.heap.size w w' → (∀ b, β = some b → w.heap.size ≤ b ∧ b < w'.heap.size) → Deps (V β) l o f w' →
      wpList P l.toArray (AftH (StepA V p k β w') o (putAll a ds f) w') [o] (putAll a ds f) w') (h2 : HStepsA P l a ds p V w r (k + 1)) : HStepsA P l a ds p V w (o :: r) k := ⟨h, h2⟩
theorem HStepsA.get {ds : List Nat} {p : Nat} {V : Option Nat → Nat → Value → World → Prop} : ∀ {r : List Oper} {b : Nat}, HStepsA P l a ds p V w r b → ∀ k o, r[k]? = some o → ∀ (β : Option Nat) (f : Nat → Value) (w' : World), Below w.heap.size w w' → (∀ b, β = some b → w.heap.size ≤ b ∧ b < w'.heap.size) → Deps (V β) l o f w' →
      wpList P l.toArray (AftH (StepA V p (b + k) β w') o (putAll a ds f) w') [o] (putAll a ds f) w'
  | [], _, _, _, _, hk => by simp at hk
  | o :: r, b, h, 0, _, hk => by
    rw [List.getElem?_cons_zero] at hk
    cases hk
    exact h.1
  | o :: r, b, h, k + 1, _, hk => by
    rw [List.getElem?_cons_succ] at hk
    have := HStepsA.get h.2 k _ hk
    rwa [show b + 1 + k = b + (k + 1) by omega] at this
theorem wp_region_headA {id : Nat} (N n p : Nat) (ds fl : List Nat) (V : Option Nat → Nat → Value → World → Prop) (hm : P.follows .mixedOrders = true) (hsz : a.tmps.size = N) (hF : headB l ds fl n N = true) (hpn : p < n)
    (hQ : fl = [] ∨ ∀ c d v a w, Q (.panic c) (a.put d v) w → Q (.panic c) a w)
    (hV : ∀ β k u w1 w2, Below w1.heap.size w1 w2 → V β k u w1 → V β k u w2)
    (hup : ∀ k u w1, V none k u w1 → V (some w1.heap.size) k u w1)
    (hsteps : HStepsA P l a ds p V w (l.take n) 0)
    (h : ∀ (b : Nat) (f : Nat → Value) (w' : World), Below w.heap.size w w' → w.heap.size ≤ b → b < w'.heap.size → Alls (V (some b)) l n f w' → wpList P l.toArray Q (l.drop n) (putAll a ds f) w') : (Code.region id l.toArray true).wp P Q a w := by
  subst hsz
  have hstep : ∀ k o, k < n → l[k]? = some o → ∀ (β : Option Nat) (f : Nat → Value) (w' : World), Below w.heap.size w w' → (∀ b, β = some b → w.heap.size ≤ b ∧ b < w'.heap.size) → (∀ e ∈ o.after, Region.binds .any e = true → V β e.on (f (slotOf l e.on)) w') →
      wpList P l.toArray (AftH (StepA V p k β w') o (putAll a ds f) w') [o] (putAll a ds f) w' := fun k o hkn hk => by
    have := HStepsA.get hsteps k o (by rw [List.getElem?_take, if_pos hkn]; exact hk)
    rw [Nat.zero_add] at this
    exact fun β f w' hb hβ hU => this β f w' hb hβ ⟨hU⟩
  simp only [headB, headXB, Bool.and_eq_true, decide_eq_true_eq] at hF
  obtain ⟨⟨⟨⟨hnl, hsel⟩, hchain⟩, hheads⟩, hseq⟩ := hF
  have hall : ∀ k o, k < n → l[k]? = some o → (∀ e ∈ o.after, Region.binds .any e = true → e.on < k) ∧ (∃ d, o.dst = some d ∧ d ∈ ds ∧ d < a.tmps.size ∧ ∀ j o', j < n → l[j]? = some o' → j ≠ k → o'.dst ≠ some d) ∧
      (k ∈ fl → n < l.length ∧ isExtract o = true ∧ ∀ j oj, l[j]? = some oj → k < j → (n ≤ j ∨ j ∈ fl) → (∀ e ∈ oj.after, Region.binds .any e = true → e.on ≠ k) → o.apart l.toArray oj = true) ∧
      (k ∉ fl → n = l.length ∨ sunkB l n l.length k = true) := by
    intro k o hkn hk
    have := List.all_eq_true.1 hheads k (List.mem_range.2 hkn)
    simp only [hk, Bool.and_eq_true] at this
    obtain ⟨⟨h2, h3⟩, h4⟩ := this
    refine ⟨fun e he hb => ?_, ?_, fun hfl => ?_, fun hfl => ?_⟩
    · have := Array.all_eq_true_iff_forall_mem.1 h2 e he
      simpa [hb] using this
    · cases hd : o.dst with
      | none => rw [hd] at h3; simp at h3
      | some d =>
        rw [hd] at h3
        simp only [Bool.and_eq_true, decide_eq_true_eq] at h3
        refine ⟨d, rfl, by simpa using h3.1.1, h3.1.2, fun j o' hjn hj hne => ?_⟩
        have := List.all_eq_true.1 h3.2 j (List.mem_range.2 hjn)
        simp only [hj] at this
        simpa [hne] using this
    · have : fl.contains k = true := by simpa using hfl
      rw [if_pos this] at h4
      simp only [Bool.and_eq_true, decide_eq_true_eq] at h4
      refine ⟨h4.1.1, by simpa using h4.1.2, fun j oj hj hne hjn hno => ?_⟩
      have h5 := List.all_eq_true.1 h4.2 j (List.mem_range.2 (List.getElem?_eq_some_iff.1 hj).1)
      simp only [hj, Bool.or_eq_true, decide_eq_true_eq, Bool.not_eq_true', Bool.or_eq_false_iff, decide_eq_false_iff_not] at h5
      rcases h5 with (h5 | h5) | h5 | h5
      · exact absurd h5 (by omega)
      · exfalso
        rcases hjn with hjn | hjn
        · exact h5.1 hjn
        · have : fl.contains j = true := by simpa using hjn
          rw [this] at h5
          exact absurd h5.2 (by simp)
      · obtain ⟨e, he, hb⟩ := Array.any_eq_true'.1 h5
        simp only [Bool.and_eq_true, beq_iff_eq] at hb
        exact absurd hb.2 (hno e he hb.1)
      · exact h5
    · have : ¬ fl.contains k = true := by simpa using hfl
      rw [if_neg this] at h4
      simpa using h4
  refine wp_region_any hm ?_
  have main : ∀ (fuel : Nat) (listed : Array Bool) (a' : Act) (w' : World), (List.range n).countP (fun k => !listed.getD k false) = fuel → HInvA l n p ds V a w listed a' w' → wpAny P .any l.toArray Q (fuel + (l.length - n)) listed a' w' := by
    intro fuel
    induction fuel with
    | zero =>
      intro listed a' w' hc hI
      have hl : ∀ k, k < n → listed.getD k false = true := fun k hk => by
        have := List.countP_eq_zero.1 hc k (List.mem_range.2 hk)
        simpa using this
      have hlist : listed = ((List.range l.length).map (fun k => decide (k < n))).toArray := by
        apply Array.ext
        · simpa using hI.size
        · intro i h1 h2
          simp only [List.getElem_toArray, List.getElem_map, List.getElem_range]
          by_cases hin : i < n
          · have := hl i hin
            simp only [Array.getD, h1, dif_pos] at this
            simp only [hin, decide_true]
            exact this
          · have := hI.tail i (by omega) (by rw [← hI.size]; exact h1)
            simp only [Array.getD, h1, dif_pos] at this
            simp only [hin, decide_false]
            exact this
      obtain ⟨f, β, rfl, hβ0, hβ1, hβ2, hf⟩ := hI.f
      obtain ⟨b, rfl⟩ := hβ1 (hl p hpn)
      rw [Nat.zero_add, show l.length - n = (l.drop n).length by simp]
      refine wpAny_of_seq (l.drop n) n listed _ w' (fun j => by simp) ?_ (h b f w' hI.bel (hβ2 b rfl).1 (hβ2 b rfl).2 ⟨fun k hk => hf k hk (hl k hk)⟩)
      rw [hlist, List.length_drop]
      exact hseq
    | succ fuel ih =>
      intro listed a' w' hc hI
      obtain ⟨f, β, rfl, hβ0, hβ1, hβ2, hf⟩ := hI.f
      obtain ⟨i, hin, hiu, hmin⟩ : ∃ i, i < n ∧ listed.getD i false = false ∧ ∀ j, j < i → listed.getD j false = true := by
        refine first_unlisted n ?_
        have : 0 < (List.range n).countP (fun k => !listed.getD k false) := by omega
        obtain ⟨k, hk, hk2⟩ := List.countP_pos_iff.1 this
        exact ⟨k, List.mem_range.1 hk, by simpa using hk2⟩
      have hil : i < l.length := by omega
      have hready : i ∈ Region.ready .any l.toArray listed := by
        rw [mem_ready]
        have hk2 : l[i]? = some l[i] := List.getElem?_eq_getElem hil
        refine ⟨?_, l[i], by simp [hk2], fun e he hb => hmin e.on ((hall i _ hin hk2).1 e he hb)⟩
        have hks : i < listed.size := by rw [hI.size]; exact hil
        simp only [Array.getD, hks, dif_pos] at hiu ⊢
        exact hiu
      -- one operation of the head
      have next : ∀ (k : Nat) (o : Oper), k < n → l[k]? = some o → listed.getD k false = false → (∀ e ∈ o.after, Region.binds .any e = true → listed.getD e.on false = true) → ∀ u w'', Below w'.heap.size w' w'' → StepA V p k β w' u w'' →
          wpAny P .any l.toArray Q (fuel + (l.length - n)) (listed.setIfInBounds k true) ((putAll a ds f).put o.dst u) w'' := by
        intro k o hkn hko hku hafter u w'' hb hu
        have hkl : k < l.length := by omega
        have hks : k < listed.size := by rw [hI.size]; exact hkl
        refine ih _ _ w'' ?_ ?_
        · have := cnt_set n k (fun j => !listed.getD j false) (fun j => !(listed.setIfInBounds k true).getD j false) hkn (by simp only [hku]; rfl) (by simp [Array.getD, hks]) (fun j hj => by
            show (!(listed.setIfInBounds k true).getD j false) = !listed.getD j false
            rw [getD_set_ne false (fun e => hj e.symm)])
          omega
        · obtain ⟨h1, ⟨d, hd, hdm, hdl, hdo⟩, -, -⟩ := hall k o hkn hko
          refine ⟨by simpa using hI.size, fun t ht htl => ?_, fun j oj hj hl e he hbe => ?_, hI.bel.trans (hb.mono hI.bel.size), ?_⟩
          · rw [getD_set_ne false (by omega)]
            exact hI.tail t ht htl
          · have up : ∀ i, listed.getD i false = true → (listed.setIfInBounds k true).getD i false = true := fun i hi => getD_set_true hi
            by_cases hjk : j = k
            · subst hjk
              rw [hko] at hj
              cases hj
              exact up _ (hafter e he hbe)
            · rw [getD_set_ne false (fun e => hjk e.symm)] at hl
              exact up _ (hI.closed j oj hj hl e he hbe)
          · rw [hd, putAll_put hdm hdl]
            have old : ∀ β2 w1, (∀ j, j < n → listed.getD j false = true → V β2 j (f (slotOf l j)) w1) → V β2 k u w1 → ∀ j, j < n → (listed.setIfInBounds k true).getD j false = true → V β2 j ((fun s => if s = d then u else f s) (slotOf l j)) w1 := by
              intro β2 w1 hf2 hu2 j hjn hl
              by_cases hjk : j = k
              · subst hjk
                have : slotOf l j = d := by simp [slotOf, hko, hd]
                rw [this]
                simpa using hu2
              · rw [getD_set_ne false (fun e => hjk e.symm)] at hl
                have hjl : j < l.length := by omega
                have hj2 : l[j]? = some l[j] := List.getElem?_eq_getElem hjl
                obtain ⟨-, ⟨d', hd', -⟩, -⟩ := hall j _ hjn hj2
                have hs : slotOf l j = d' := by simp [slotOf, hj2, hd']
                have hne : d' ≠ d := fun e => hdo j _ hjn hj2 hjk (by rw [hd', e])
                have := hf2 j hjn hl
                rw [hs] at this ⊢
                simpa [hne] using this
            by_cases hkp : k = p
            · subst hkp
              simp only [StepA, if_true] at hu
              obtain ⟨hsz2, hu⟩ := hu
              obtain rfl := hβ0 hku
              refine ⟨_, some w'.heap.size, rfl, fun hl => ?_, fun _ => ⟨_, rfl⟩, fun b hb' => ?_, old _ _ (fun j hjn hl => hV _ _ _ _ _ hb (hup _ _ _ (hf j hjn hl))) hu⟩
              · have : (listed.setIfInBounds k true).getD k false = true := by simp [Array.getD, hks]
                rw [this] at hl
                cases hl
              · cases hb'
                exact ⟨hI.bel.size, by omega⟩
            · simp only [StepA, if_neg hkp] at hu
              refine ⟨_, β, rfl, fun hl => hβ0 ?_, fun hl => hβ1 ?_, fun b hb' => ⟨(hβ2 b hb').1, ?_⟩, old _ _ (fun j hjn hl => hV _ _ _ _ _ hb (hf j hjn hl)) hu⟩
              · rwa [getD_set_ne false hkp] at hl
              · rwa [getD_set_ne false hkp] at hl
              · have := (hβ2 b hb').2
                have := hb.size
                omega
      have step : ∀ (k : Nat) (o : Oper), k < n → l[k]? = some o → (∀ e ∈ o.after, Region.binds .any e = true → listed.getD e.on false = true) → wpList P l.toArray (AftH (StepA V p k β w') o (putAll a ds f) w') [o] (putAll a ds f) w' := by
        intro k o hkn hko hafter
        exact hstep k o hkn hko β f w' hI.bel hβ2 fun e he hb => hf e.on (by have := (hall k o hkn hko).1 e he hb; omega) (hafter e he hb)
      have conv : ∀ k, k ∈ Region.ready .any l.toArray listed → ∃ o, l[k]? = some o ∧ listed.getD k false = false ∧ (∀ e ∈ o.after, Region.binds .any e = true → listed.getD e.on false = true) := by
        intro k hk
        obtain ⟨h1, o, ho, hafter⟩ := mem_ready.1 hk
        exact ⟨o, by simpa using ho, getD_both h1, hafter⟩
      rw [show fuel + 1 + (l.length - n) = (fuel + (l.length - n)) + 1 by omega]
      by_cases hA : ∀ k, k < n → k ∉ fl → listed.getD k false = true
      · -- only floating operations are left
        have hifl : i ∈ fl := by
          by_cases hc : i ∈ fl
          · exact hc
          · have := hA i hin hc
            rw [hiu] at this
            cases this
        obtain ⟨o, hio, -, hafter⟩ := conv i hready
        obtain ⟨-, ⟨d, hd, hdm, hdl, -⟩, hfl, -⟩ := hall i o hin hio
        obtain ⟨-, hx, hap⟩ := hfl hifl
        obtain ⟨v, hy, u, hput, w2, hb2, rfl, hu⟩ := leaves_yields hx (step i o hin hio hafter)
        refine wpAny_first (v := v) (by simpa using hio) (Region.noSelect_spec hsel) (fun c a w hq => (hQ.resolve_left (by rintro rfl; cases hifl)) c _ _ _ _ hq) _ listed _ _ (fun j oj hj hji hju hno => ?_) hready hy ?_
        · have hj' : l[j]? = some oj := by simpa using hj
          have hij : i < j := by
            rcases Nat.lt_trichotomy j i with h | h | h
            · have := hmin j h
              rw [getD_both hju] at this
              cases this
            · exact absurd h hji
            · exact h
          refine hap j oj hj' hij ?_ hno
          by_cases hjn : n ≤ j
          · exact .inl hjn
          · right
            by_cases hjf : j ∈ fl
            · exact hjf
            · have := hA j (by omega) hjf
              rw [getD_both hju] at this
              cases this
        · rw [← hput]
          exact next i o hin hio hiu hafter u _ hb2 hu
      · -- the tail waits
        have hnl2 : ∀ k ∈ Region.ready .any l.toArray listed, k < n := by
          intro k hk
          obtain ⟨o, hko, hku, hafter⟩ := conv k hk
          have hkl : k < l.length := (List.getElem?_eq_some_iff.1 hko).1
          rcases Nat.lt_or_ge k n with hkn | hkn
          · exact hkn
          · exfalso
            by_cases hkn2 : k = n
            · subst hkn2
              apply hA
              intro j hj hjf
              have hj2 : l[j]? = some l[j] := List.getElem?_eq_getElem (by omega)
              rcases (hall j _ hj hj2).2.2.2 hjf with h5 | h5
              · omega
              · exact sunk_listed hI.closed (fun o' ho' => by rw [hko] at ho'; cases ho'; exact hafter) _ j h5
            · have h1 := List.all_eq_true.1 hchain k (List.mem_range.2 (by simpa using hkl))
              simp only [Bool.or_eq_true, decide_eq_true_eq] at h1
              rcases h1 with h1 | h1
              · omega
              · obtain ⟨o', ho', e, he, hb, hon⟩ := Region.waitsFor_spec h1
                have : o' = o := by
                  have : l[k]? = some o' := by simpa using ho'
                  rw [hko] at this
                  exact (Option.some.inj this).symm
                subst this
                have h2 := hafter e he hb
                rw [hon, hI.tail (k - 1) (by omega) (by omega)] at h2
                cases h2
        refine ⟨fun h0 => (by rw [h0] at hready; cases hready), fun k hk => ?_⟩
        obtain ⟨o, hko, hku, hafter⟩ := conv k hk
        have hkn := hnl2 k hk
        exact leaves_wp (step k o hkn hko hafter) (fun u w'' hb hu => next k o hkn hko hku hafter u w'' hb hu) k (by simpa using hko)
  have hcount : (List.range n).countP (fun k => !(Array.replicate l.length false).getD k false) = n := by
    have : (List.range n).countP (fun k => !(Array.replicate l.length false).getD k false) = (List.range n).length := by
      rw [List.countP_eq_length]
      intro k hk
      have := List.mem_range.1 hk
      have : k < l.length := by omega
      simp [Array.getD, this]
    simpa using this
  have := main n (Array.replicate l.length false) a w.drew hcount ⟨by simp, fun t _ ht => by simp [Array.getD, ht], fun k o hk hl => by
    exfalso
    have := (List.getElem?_eq_some_iff.1 hk).1
    simp [Array.getD, this] at hl, (Below.refl _ _).drew, fun s => a.tmps.getD s undef, none, (putAll_self a ds).symm, fun _ => rfl, fun hl => by
    exfalso
    have : p < l.length := by omega
    simp [Array.getD, this] at hl, (fun b h => by cases h), fun k hk hl => by
    exfalso
    have : k < l.length := by omega
    simp [Array.getD, this] at hl⟩
  rw [show n + (l.length - n) = l.toArray.size by simp; omega] at this
  simpa using this
/-- with operations that float -/
theorem wp_region_headAF {id : Nat} (N n p : Nat) (ds fl : List Nat) (V : Option Nat → Nat → Value → World → Prop) (hm : P.follows .mixedOrders = true) (hsz : a.tmps.size = N) (hF : headB l ds fl n N = true) (hpn : p < n)
    (hV : ∀ β k u w1 w2, Below w1.heap.size w1 w2 → V β k u w1 → V β k u w2)
    (hup : ∀ k u w1, V none k u w1 → V (some w1.heap.size) k u w1)
    (hsteps : HStepsA P l a ds p V w (l.take n) 0)
    (h : ∀ (b : Nat) (f : Nat → Value) (w' : World), Below w.heap.size w w' → w.heap.size ≤ b → b < w'.heap.size → Alls (V (some b)) l n f w' → wpList P l.toArray (NoPanic Q) (l.drop n) (putAll a ds f) w') : (Code.region id l.toArray true).wp P Q a w :=
  wp_region_noPanic (wp_region_headA N n p ds fl V hm hsz hF hpn (.inr fun _ _ _ _ _ h => h) hV hup hsteps h)
end
end Go.Proofs.YtanglofabkbllaaDoor
