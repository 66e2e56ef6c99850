/- A region that draws its order, whose head reads, calls what hands back plain values, and makes variables; whose tail is forced: one walk in the order of the text serves every order. Conditions: those of each theorem. -/
import Derived.Test.YtlokfndonjldpaaDoorMem
import Derived.StillTail
set_option linter.unusedSimpArgs false
set_option linter.unusedVariables false
namespace Go.Proofs.YtlokfndonjldpaaDoor
open Go.RowKit

def uUpon (P : Program) (w : World) (U : Value → Prop) : Result Next → Prop
  | .ok (.value u) w' => Below w.heap.size w w' ∧ U u
  | .ok .skip w' => w' = w ∧ U undef
  | .ok (.enter f args) w' => w' = w ∧ Calls P f args w fun e w'' => ∃ u, e = .returned u ∧ U u ∧ Below w.heap.size w w''
  | _ => False
/-- in every world that grows out of w0 the operation yields a value of U -/
def uq (P : Program) (w0 : World) (o : Oper) (a : Act) (U : Value → Prop) : Prop := ∀ w, Below w0.heap.size w0 w → uUpon P w U ((execOp a.eval o).run P w)

section
variable {P : Program} {ops : Array Oper} {md : Region.Mode} {w0 : World} {Us : Nat → Value → Prop}

def uOp (P : Program) (ops : Array Oper) (w0 : World) (Us : Nat → Value → Prop) (i : Nat) (K : Act → Prop) (a : Act) : Prop :=
  match ops[i]? with
  | none => K a
  | some o => if Region.wanted o (yielded ops a.tmps) = true then uq P w0 o a (Us i) ∧ ∀ u, Us i u → K (a.put o.dst u) else K (a.put o.dst undef)

/-- the walk in the order of the text -/
def wpU (P : Program) (ops : Array Oper) (w0 : World) (Us : Nat → Value → Prop) (Q : Act → Prop) : List Oper → Nat → Act → Prop
  | [], _, a => Q a
  | o :: l, k, a => if Region.wanted o (yielded ops a.tmps) = true then uq P w0 o a (Us k) ∧ ∀ u, Us k u → wpU P ops w0 Us Q l (k + 1) (a.put o.dst u) else wpU P ops w0 Us Q l (k + 1) (a.put o.dst undef)

def wpAnyLU (P : Program) (md : Region.Mode) (ops : Array Oper) (w0 : World) (Us : Nat → Value → Prop) (n : Nat) (L : Array Bool → Act → Prop) : Nat → Array Bool → Act → Prop
  | 0, listed, a => L listed a
  | f + 1, listed, a =>
    Region.ready md ops listed ≠ [] ∧ ∀ i ∈ Region.ready md ops listed, i < n ∧ uOp P ops w0 Us i (wpAnyLU P md ops w0 Us n L f (listed.setIfInBounds i true)) a

theorem uOp_mono {i : Nat} {a : Act} {K K' : Act → Prop} (h : ∀ a, K a → K' a) (hh : uOp P ops w0 Us i K a) : uOp P ops w0 Us i K' a := by
  unfold uOp at *
  cases ho : ops[i]? with
  | none => simp only [ho] at hh ⊢; exact h _ hh
  | some o =>
    simp only [ho] at hh ⊢
    split
    · rename_i hw; simp only [hw, if_true] at hh; exact ⟨hh.1, fun u hu => h _ (hh.2 u hu)⟩
    · rename_i hw; simp only [hw] at hh; exact h _ hh

def YieldsU (P : Program) (ops : Array Oper) (w0 : World) (o : Oper) (V : Value → Prop) (U : Value → Prop) (a : Act) : Prop :=
  (Region.wanted o (yielded ops a.tmps) = true ∧ uq P w0 o a U ∧ V = U) ∨ (Region.wanted o (yielded ops a.tmps) = false ∧ V = fun v => v = undef)

theorem uq_some {o : Oper} {a : Act} {U : Value → Prop} (h : uq P w0 o a U) : ∃ u, U u := by
  have := h w0 (Below.refl _ _)
  generalize (execOp a.eval o).run P w0 = r at this
  cases r with
  | ok n w' =>
    cases n <;> simp only [uUpon] at this
    case value u => exact ⟨u, this.2⟩
    case skip => exact ⟨_, this.2⟩
    case enter f args =>
      obtain ⟨e, w', fr, ⟨u, _, hu, _⟩, _⟩ := this.2 []
      exact ⟨u, hu⟩
  | halt x w' => simp only [uUpon] at this

theorem YieldsU.ex {o : Oper} {V U : Value → Prop} {a : Act} (h : YieldsU P ops w0 o V U a) : ∃ v, V v := by
  rcases h with ⟨_, h, rfl⟩ | ⟨_, rfl⟩
  · exact uq_some h
  · exact ⟨_, rfl⟩

theorem YieldsU.toOp {i : Nat} {o : Oper} {V : Value → Prop} {a : Act} (hi : ops[i]? = some o) (hy : YieldsU P ops w0 o V (Us i) a) {K : Act → Prop} (h : ∀ v, V v → K (a.put o.dst v)) : uOp P ops w0 Us i K a := by
  unfold uOp
  simp only [hi]
  rcases hy with ⟨hw, hq, rfl⟩ | ⟨hw, rfl⟩
  · simp only [hw, if_true]; exact ⟨hq, h⟩
  · simp only [hw]; exact h _ rfl

theorem uq_same {o : Oper} {a a' : Act} {U : Value → Prop} (he : execOp a'.eval o = execOp a.eval o) (h : uq P w0 o a U) : uq P w0 o a' U := by
  unfold uq at *
  rw [he]; exact h
theorem YieldsU.of_same {o : Oper} {V U : Value → Prop} {a a' : Act} (hy : YieldsU P ops w0 o V U a) (he : execOp a'.eval o = execOp a.eval o)
    (hw : Region.wanted o (yielded ops a'.tmps) = Region.wanted o (yielded ops a.tmps)) : YieldsU P ops w0 o V U a' := by
  unfold YieldsU
  rw [hw]
  rcases hy with ⟨h1, h2, h3⟩ | h
  · exact .inl ⟨h1, uq_same he h2, h3⟩
  · exact .inr h

theorem uOp_put {j : Nat} {oi oj : Oper} {V U : Value → Prop} (hj : ops[j]? = some oj) (hap : oi.apart ops oj = true)
    (hsi : ∀ cs b, oi.op ≠ .select cs b) (hsj : ∀ cs b, oj.op ≠ .select cs b) {K : Act → Prop} {a : Act}
    (hy : YieldsU P ops w0 oi V U a) (h : ∀ v, V v → uOp P ops w0 Us j K (a.put oi.dst v)) :
    uOp P ops w0 Us j (fun a' => YieldsU P ops w0 oi V U a' ∧ ∀ v, V v → K (a'.put oi.dst v)) a := by
  obtain ⟨h1, h2, h3⟩ := Oper.apart_spec hap
  have keep : ∀ u, YieldsU P ops w0 oi V U (a.put oj.dst u) := fun u =>
    hy.of_same (execOp_put oi hsi a oj.dst u h3) (wanted_put oi a oj.dst u h3)
  obtain ⟨v0, hv0⟩ := hy.ex
  unfold uOp at *
  simp only [hj] at *
  split
  · rename_i hw
    have h' : ∀ v, V v → uq P w0 oj (a.put oi.dst v) (Us j) ∧ ∀ u, Us j u → K ((a.put oi.dst v).put oj.dst u) := fun v hv => by
      have := h v hv
      rw [wanted_put oj a oi.dst v h1] at this
      simpa only [hw, if_true] using this
    refine ⟨?_, fun u hu => ⟨keep u, fun v hv => ?_⟩⟩
    · have := (h' v0 hv0).1
      unfold uq at *
      rw [execOp_put oj hsj a oi.dst v0 h1] at this
      exact this
    · rw [← Act.put_comm a v u h2]
      exact (h' v hv).2 u hu
  · rename_i hw
    refine ⟨keep _, fun v hv => ?_⟩
    have := h v hv
    rw [wanted_put oj a oi.dst v h1] at this
    simp only [hw] at this
    rw [← Act.put_comm a v undef h2]
    exact this

theorem wpAnyLU_first {n i : Nat} {oi : Oper} {V : Value → Prop} {L : Array Bool → Act → Prop} (hi : ops[i]? = some oi) (hsel : ∀ (j : Nat) (o : Oper) cs b, ops[j]? = some o → o.op ≠ .select cs b)
    (hs : Region.sinkB md ops n = true) (hc : Region.chainB md ops n = true) (hn : n < ops.size) (hin : i < n)
    (hdone : ∀ listed a, L listed a → ∀ j ∈ Region.ready md ops listed, n ≤ j) :
    ∀ (f : Nat) (listed : Array Bool) (a : Act), HeadInv md ops n listed →
      (∀ j oj, ops[j]? = some oj → j ≠ i → listed.getD j true = false → (∀ e ∈ oj.after, Region.binds md e = true → e.on ≠ i) → oi.apart ops oj = true) →
      i ∈ Region.ready md ops listed → YieldsU P ops w0 oi V (Us i) a →
      (∀ v, V v → wpAnyLU P md ops w0 Us n L f (listed.setIfInBounds i true) (a.put oi.dst v)) → wpAnyLU P md ops w0 Us n L (f + 1) listed a := by
  intro f
  induction f with
  | zero =>
    intro listed a inv _ hr hy H
    have hun := (mem_ready.1 hr).1
    refine ⟨fun h => (by rw [h] at hr; cases hr), fun j hj => ?_⟩
    have hjn : j < n := by
      rcases Nat.lt_or_ge j n with h | h
      · exact h
      · exact absurd hj (tail_waits hs hc hn inv _ i rfl hin hun j h)
    refine ⟨hjn, ?_⟩
    by_cases hji : j = i
    · subst hji; exact hy.toOp hi H
    · obtain ⟨v0, hv0⟩ := hy.ex
      have := hdone _ _ (H v0 hv0) j (ready_mono hj hji)
      omega
  | succ f ih =>
    intro listed a inv hfree hr hy H
    have hun := (mem_ready.1 hr).1
    refine ⟨fun h => (by rw [h] at hr; cases hr), fun j hj => ?_⟩
    have hjn : j < n := by
      rcases Nat.lt_or_ge j n with h | h
      · exact h
      · exact absurd hj (tail_waits hs hc hn inv _ i rfl hin hun j h)
    refine ⟨hjn, ?_⟩
    by_cases hji : j = i
    · subst hji; exact hy.toOp hi H
    · have h1 : ∀ v, V v → uOp P ops w0 Us j (wpAnyLU P md ops w0 Us n L f ((listed.setIfInBounds i true).setIfInBounds j true)) (a.put oi.dst v) := fun v hv => ((H v hv).2 j (ready_mono hj hji)).2
      obtain ⟨hjun, oj, hoj, hall⟩ := mem_ready.1 hj
      have hnot : ∀ e ∈ oj.after, Region.binds md e = true → e.on ≠ i := fun e he hb heq => by
        have h1 := hall e he hb
        rw [heq, getD_both hun] at h1
        cases h1
      have h2 := uOp_put hoj (hfree j oj hoj hji hjun hnot) (fun cs b => hsel i oi cs b hi) (fun cs b => hsel j oj cs b hoj) hy h1
      have hfree' : ∀ k ok, ops[k]? = some ok → k ≠ i → (listed.setIfInBounds j true).getD k true = false →
          (∀ e ∈ ok.after, Region.binds md e = true → e.on ≠ i) → oi.apart ops ok = true := fun k ok hk hki hun hno => by
        refine hfree k ok hk hki ?_ hno
        by_cases hjk : j = k
        · subst hjk; exact hjun
        · rw [getD_set_ne true hjk] at hun; exact hun
      refine uOp_mono (fun a' h3 => ih (listed.setIfInBounds j true) a' (inv.set hj hjn) hfree' (ready_mono hr (Ne.symm hji)) h3.1 fun v hv => ?_) h2
      rw [Array.setIfInBounds_comm _ _ hji]
      exact h3.2 v hv

theorem wpAnyLU_lex {n g : Nat} {Lq : Act → Prop} (hsel : Region.noSelect ops = true) (hs : Region.sinkB md ops n = true) (hc : Region.chainB md ops n = true) (hn : n < ops.size) :
    ∀ (l : List Oper) (k : Nat) (listed : Array Bool) (a : Act), (∀ j, j < l.length → l[j]? = ops[k + j]?) → k + l.length = n → HeadInv md ops n listed →
    Region.lexHead md ops g l.length k listed = true → wpU P ops w0 Us Lq l k a →
    wpAnyLU P md ops w0 Us n (fun listed' a' => Region.seqB md ops g n listed' = true ∧ Lq a') l.length listed a
  | [], k, listed, a, _, hk, _, hB, h => by
    have : k = n := by simpa using hk
    subst this
    exact ⟨by simpa [Region.lexHead] using hB, h⟩
  | o :: l, k, listed, a, hl, hk, inv, hB, h => by
    have h0 : ops[k]? = some o := by simpa using (hl 0 (by simp)).symm
    simp only [List.length_cons, Region.lexHead, Bool.and_eq_true] at hB
    obtain ⟨⟨hr, hf⟩, hB'⟩ := hB
    have hkn : k < n := by simp only [List.length_cons] at hk; omega
    have hr' : k ∈ Region.ready md ops listed := by simpa using hr
    have hst : ∃ V, YieldsU P ops w0 o V (Us k) a ∧ ∀ v, V v → wpU P ops w0 Us Lq l (k + 1) (a.put o.dst v) := by
      unfold wpU at h
      by_cases hw : Region.wanted o (yielded ops a.tmps) = true
      · simp only [hw, if_true] at h
        exact ⟨_, .inl ⟨hw, h.1, rfl⟩, h.2⟩
      · simp only [hw] at h
        exact ⟨_, .inr ⟨by simpa using hw, rfl⟩, fun v hv => by rw [hv]; exact h⟩
    obtain ⟨V, hy, hK⟩ := hst
    exact wpAnyLU_first h0 (Region.noSelect_spec hsel) hs hc hn hkn (fun listed' a' hL => seqB_ready hL.1) l.length listed a inv (Region.free_spec h0 hf) hr' hy
      (fun v hv => wpAnyLU_lex hsel hs hc hn l (k + 1) _ _ (fun j hj => by have := hl (j + 1) (by simp; omega); simpa [Nat.add_assoc, Nat.add_comm 1 j] using this) (by simp only [List.length_cons] at hk; omega) (inv.set hr' hkn) hB' (hK v hv))

/-- what an operation of the head must keep -/
def Pres (P : Program) (w0 : World) (Φ : Act → World → Prop) (o : Oper) : Prop := ∀ a w, Below w0.heap.size w0 w → Φ a w →
  Φ (a.put o.dst undef) w ∧ (∀ u w', (execOp a.eval o).run P w = .ok (.value u) w' → Below w.heap.size w w' → Φ (a.put o.dst u) w') ∧
  (∀ f args w1 u w', (execOp a.eval o).run P w = .ok (.enter f args) w1 → Below w.heap.size w w' → Φ (a.put o.dst u) w')

theorem wpOp_of_uOp {i : Nat} {a : Act} {w : World} {Φ : Act → World → Prop} {K : Act → Prop} {K' : Act → World → Prop} {Q' : Exit → Act → World → Prop}
    (hpres : ∀ o, ops[i]? = some o → Pres P w0 Φ o) (hw : Below w0.heap.size w0 w) (hΦ : Φ a w)
    (h : ∀ a' w', Below w0.heap.size w0 w' → Φ a' w' → K a' → K' a' w') (hnone : ops[i]? ≠ none) (hh : uOp P ops w0 Us i K a) : wpOp P ops Q' i K' a w := by
  unfold uOp at hh
  unfold wpOp
  cases ho : ops[i]? with
  | none => exact absurd ho hnone
  | some o =>
    simp only [ho] at hh ⊢
    obtain ⟨p1, p2, p3⟩ := hpres o ho a w hw hΦ
    split
    · rename_i hwa
      simp only [hwa, if_true] at hh
      obtain ⟨hq, hK⟩ := hh
      refine .inl ?_
      have := hq w hw
      unfold Oper.wp
      generalize hr : (execOp a.eval o).run P w = r at *
      cases r with
      | ok n w' =>
        cases n <;> simp only [uUpon] at this <;> simp only [Oper.upon]
        case value u => exact h _ _ (hw.trans (this.1.mono hw.size)) (p2 u w' rfl this.1) (hK u this.2)
        case skip =>
          obtain ⟨e1, e2⟩ := this
          subst e1
          exact h _ _ hw p1 (hK _ e2)
        case enter f args =>
          obtain ⟨e1, hc⟩ := this
          subst e1
          refine hc.mono fun e w'' ⟨u, he, hu, hb⟩ => ?_
          subst he
          exact h _ _ (hw.trans (hb.mono hw.size)) (p3 f args w' u w'' rfl hb) (hK u hu)
      | halt x w' => simp only [uUpon] at this
    · rename_i hwa
      simp only [hwa] at hh
      exact h _ _ hw p1 hh

theorem wpAny_of_headU {n g : Nat} {L : Array Bool → Act → Prop} {Q' : Exit → Act → World → Prop} {Φ : Act → World → Prop} (hn : n ≤ ops.size) (hpres : ∀ i o, i < n → ops[i]? = some o → Pres P w0 Φ o)
    (hL : ∀ listed a w, Below w0.heap.size w0 w → Φ a w → L listed a → wpAny P md ops Q' g listed a w) :
    ∀ (f : Nat) (listed : Array Bool) (a : Act) (w : World), Below w0.heap.size w0 w → Φ a w → wpAnyLU P md ops w0 Us n L f listed a → wpAny P md ops Q' (f + g) listed a w
  | 0, listed, a, w, hw, hΦ, h => by rw [Nat.zero_add]; exact hL _ _ _ hw hΦ h
  | f + 1, listed, a, w, hw, hΦ, h => by
    rw [show f + 1 + g = (f + g) + 1 by omega]
    exact ⟨fun h0 => absurd h0 h.1, fun i hi => wpOp_of_uOp (hpres i · (h.2 i hi).1) hw hΦ (fun a' w' hw' hΦ' h' => wpAny_of_headU hn hpres hL f _ a' w' hw' hΦ' h')
      (by have := (h.2 i hi).1; simp; omega) (h.2 i hi).2⟩

/-- THE LAW: the head in whatever order, then the tail -/
theorem wp_region_tailU {id : Nat} {Q : Exit → Act → World → Prop} {a : Act} {w : World} {l : List Oper} (n : Nat) (Us : Nat → Value → Prop) (Φ : Act → World → Prop) (hm : P.follows .mixedOrders = true) (hB : Region.lexTailB .any l.toArray n = true)
    (hpres : ∀ o ∈ l.take n, Pres P w Φ o) (hΦ : Φ a w.drew)
    (h : wpU P l.toArray w Us (fun a' => ∀ w', Below w.heap.size w w' → Φ a' w' → wpList P l.toArray Q (l.drop n) a' w') (l.take n) 0 a) : (Code.region id l.toArray true).wp P Q a w := by
  simp only [Region.lexTailB, Bool.and_eq_true, decide_eq_true_eq] at hB
  obtain ⟨⟨⟨⟨hsel, hn⟩, hs⟩, hc⟩, hlex⟩ := hB
  have hn' : n < l.length := by simpa using hn
  have htl : (l.take n).length = n := by simp; omega
  have hdl : (l.drop n).length = l.toArray.size - n := by simp
  have inv0 : HeadInv .any l.toArray n (Array.replicate l.toArray.size false) :=
    ⟨by simp, fun j oj _ hl => (by rw [getD_replicate_false] at hl; cases hl), fun t _ ht => getD_in (by simpa using ht) (getD_replicate_false _ _)⟩
  have H := wpAnyLU_lex (md := .any) (g := l.toArray.size - n) hsel hs hc hn (l.take n) 0 _ a (fun j hj => by
    have hj' : j < n := by rw [htl] at hj; exact hj
    simp [hj']) (by simpa using htl) inv0 (by rw [htl]; exact hlex) h
  refine wp_region_any hm ?_
  have := wpAny_of_headU (Q' := Q) (Φ := Φ) (g := l.toArray.size - n) (by omega) (fun i o hi ho => hpres o (by
      have h1 : l[i]? = some o := by simpa using ho
      have h2 : (l.take n)[i]? = some o := by rw [List.getElem?_take, if_pos hi]; exact h1
      exact List.mem_of_getElem? h2)) (fun listed a' w' hw' hΦ' hL => by
    have := wpAny_of_seq (md := .any) (Q' := Q) (l.drop n) n listed a' w' (fun j => by simp [List.getElem?_drop]) (by rw [hdl]; exact hL.1) (hL.2 w' hw' hΦ')
    rwa [hdl] at this) _ _ _ w.drew (Below.refl _ _).drew hΦ H
  rw [htl, show n + (l.toArray.size - n) = l.toArray.size by omega] at this
  exact this
end
end Go.Proofs.YtlokfndonjldpaaDoor
