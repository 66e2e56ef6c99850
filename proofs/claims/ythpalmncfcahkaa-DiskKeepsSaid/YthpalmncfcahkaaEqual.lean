/- Equal of package disk, walked. Conditions: the disks read. -/
import Derived.Test.YthpalmncfcahkaaDiskRW
import Derived.LaidEql
import Derived.Stop.BytesEq
import Derived.Deep.LoopGhost
set_option linter.unusedSimpArgs false
set_option linter.unusedVariables false
namespace Go.Proofs.Ythpalmncfcahkaa
open Go.RowKit

/-- a pointer to nothing, or to a block that is known -/
def PB (w : World) (p : Option Addr) : Prop := p = none ∨ ∃ g t cs, p = some ⟨g, 0, none⟩ ∧ Blk w g t cs
theorem PB.below {w w' : World} {p : Option Addr} (h : PB w p) (hb : Below w.heap.size w w') : PB w' p := by
  rcases h with h | ⟨g, t, cs, h1, h2⟩
  · exact .inl h
  · exact .inr ⟨g, t, cs, h1, h2.keep hb⟩
theorem Wl.pb {w : World} {l : List (Nat × List UInt8)} {p : Option Addr} (h : Wl w p l) : PB w p := by
  cases l with
  | nil => exact .inl h
  | cons x r =>
    obtain ⟨i, s⟩ := x
    obtain ⟨g, q, gs, h1, h2, _⟩ := h
    exact .inr ⟨g, _, _, h1, h2⟩
theorem Tree.pb {w : World} {f : Secs} {p : Option Addr} (h : Tree w p f) : PB w p := by
  rcases h with ⟨h, _⟩ | ⟨g, q, h1, h2, _⟩
  · exact .inl h
  · exact .inr ⟨g, _, _, h1, h2⟩
theorem ptr_eql {P : Program} (d : Nat) (T te : TypeId) (hT : P.underlying T = some (.pointer te)) (hs : ((P.info? te).map fun i => decide (i.size = 0)) = some false) {w : World} {p q : Option Addr} (hp : PB w p) (hq : PB w q) :
    (Op.equalIn (d + 1) T (.pointer p) (.pointer q)).run P w = .ok (decide (p = q)) w := by
  cases hi : P.info? te with
  | none => simp [hi] at hs
  | some i =>
    simp [hi] at hs
    rcases hp with rfl | ⟨g, t, cs, rfl, h1⟩
    · rcases hq with rfl | ⟨g', t', cs', rfl, h2⟩
      · simp [Op.equalIn, run_underlying hT]
      · simp [Op.equalIn, run_underlying hT]
    · rcases hq with rfl | ⟨g', t', cs', rfl, h2⟩
      · simp [Op.equalIn, run_underlying hT]
      · by_cases hg : g = g'
        · subst hg
          simp [Op.equalIn, run_underlying hT, sizeOf, typeInfo, hi, hs, run_sameAddr_same]
        · have := run_sameAddr_other (P := P) w (a := ⟨g, 0, none⟩) (b := ⟨g', 0, none⟩) (by simp [hg]) h1 h2
          simp [Op.equalIn, run_underlying hT, sizeOf, typeInfo, hi, hs, this, hg]
theorem sizeW : ((Try.prog.info? 70).map fun i => decide (i.size = 0)) = some false := by kernel_rfl
theorem sizeR : ((Try.prog.info? 86).map fun i => decide (i.size = 0)) = some false := by kernel_rfl
theorem size8 (w : World) : (sizeOf 5).run Try.prog w = .ok 1 w := by
  have := bytesN
  cases hq : Try.prog.info? 5 with
  | none => simp [hq] at this
  | some i =>
    simp [hq] at this
    simp [sizeOf, typeInfo, hq, this]
theorem sec_eql (w : World) (xs ys : List UInt8) (hx : xs.length = 128) (hy : ys.length = 128) :
    (Op.equalIn 10000 65 (.agg (xs.map byV).toArray) (.agg (ys.map byV).toArray)).run Try.prog w = .ok (xs == ys) w :=
  run_equalIn_bytes w 9998 65 5 128 Try.underlying65 Try.underlying5 size8 xs ys hx hy

theorem ptr_neq {P : Program} (T te : TypeId) (hT : P.underlying T = some (.pointer te)) (hs : ((P.info? te).map fun i => decide (i.size = 0)) = some false) {w : World} {p q : Option Addr} (hp : PB w p) (hq : PB w q) :
    (binOp .neq T (.pointer p) (.pointer q)).run P w = .ok (.bool (!decide (p = q))) w := by
  simp only [binOp]
  simp [Op.equal, Op.maxDepth, ptr_eql 9999 T te hT hs hp hq]
theorem ptr_eqb {P : Program} (T te : TypeId) (hT : P.underlying T = some (.pointer te)) (hs : ((P.info? te).map fun i => decide (i.size = 0)) = some false) {w : World} {p q : Option Addr} (hp : PB w p) (hq : PB w q) :
    (binOp .eql T (.pointer p) (.pointer q)).run P w = .ok (.bool (decide (p = q))) w := by
  simp only [binOp]
  simp [Op.equal, Op.maxDepth, ptr_eql 9999 T te hT hs hp hq]

theorem quiet_load {P : Program} {C : World → Prop} {o : Oper} {a : Act} {K : Act → Prop} (ty : TypeId) (x : Operand) (ho : o.op = .load ty x) (p : Option Addr) (hx : a.eval x = .pointer p) (v : Value)
    (hl : ∀ w, C w → (Instr.loadAt ty (.pointer p)).run P w = .ok v w) (h : K (a.put o.dst v)) : o.quiet P a C K :=
  ⟨v, fun w hw => by
    have := hl w hw
    unfold Oper.quietAt execOp
    simp only [ho, hx, this, Sem.run_bind, Sem.run_pure, Result.andThen_ok]
    exact ⟨rfl, rfl⟩, h⟩

/-- what Equal says -/
def Dk.same (A B : Dk) : Prop := A.n = B.n ∧ A.W = B.W ∧ ∀ i, i < A.n → A.S i = B.S i

theorem dkEqual_n (a b : DV) (w : World) (h : a.n ≠ b.n) :
    Calls Try.prog 23 #[a.v, b.v] w fun e w' => e = .returned (.bool false) ∧ Below w.heap.size w w' := by
  have h1 : ((a.n : Int) != (b.n : Int)) = true := by rw [bne_iff_ne]; omega
  have h2 : ((a.n : Int) == (b.n : Int)) = false := by rw [beq_eq_false_iff_ne]; omega
  unfold DV.v
  go_enter Try.func23, Try.ntmps23
  go_wp2_with fail
  go_ret
  exact ⟨rfl, ((Below.refl _ _).alloc (Nat.le_refl _) _).alloc (by simp) _⟩
theorem dkEqual_m (a b : DV) (w : World) (hn : a.n = b.n) (h : a.m ≠ b.m) :
    Calls Try.prog 23 #[a.v, b.v] w fun e w' => e = .returned (.bool false) ∧ Below w.heap.size w w' := by
  have h1 : ((a.n : Int) != (b.n : Int)) = false := by rw [bne_eq_false_iff_eq]; omega
  have h2 : ((a.n : Int) == (b.n : Int)) = true := by rw [beq_iff_eq]; omega
  have h3 : ((a.m : Int) != (b.m : Int)) = true := by rw [bne_iff_ne]; omega
  have h4 : ((a.m : Int) == (b.m : Int)) = false := by rw [beq_eq_false_iff_ne]; omega
  clear hn h
  unfold DV.v
  go_enter Try.func23, Try.ntmps23
  go_wp2_with fail
  go_ret
  exact ⟨rfl, ((Below.refl _ _).alloc (Nat.le_refl _) _).alloc (by simp) _⟩
theorem sec_load {w : World} {gs : Nat} {s : List UInt8} (h : BlkB w gs 65 s) (hs : s.length = 128) : (Instr.loadAt 65 (.pointer (some ⟨gs, 0, none⟩))).run Try.prog w = .ok (.agg (s.map byV).toArray) w := by
  have := run_loadVar_row (P := Try.prog) w gs 65 65 (s.map byV).toArray (0, 0) _ h Try.underlying65 rfl (arrSecN.trans (by simp [hs]))
  simp [Instr.loadAt, Instr.sureAddr, this]

set_option maxRecDepth 100000 in
set_option maxHeartbeats 2000000 in
theorem dkEqual_any (a b : DV) (A B : Dk) (w : World) (ha : DkV w a A) (hb : DkV w b B) (r : Bool) (hr : r = true ↔ A.same B) :
    Calls Try.prog 23 #[a.v, b.v] w fun e w' => e = .returned (.bool r) ∧ Below w.heap.size w w' := by
  by_cases hn : A.n = B.n
  rotate_left
  · have hf : r = false := by
      cases r with
      | false => rfl
      | true => exact absurd (hr.1 rfl).1 hn
    subst hf
    exact dkEqual_n a b w (by rw [ha.n, hb.n]; exact hn)
  by_cases hm : A.W.length = B.W.length
  rotate_left
  · have hf : r = false := by
      cases r with
      | false => rfl
      | true => exact absurd (by rw [(hr.1 rfl).2.1]) hm
    subst hf
    exact dkEqual_m a b w (by rw [ha.n, hb.n, hn]) (by rw [ha.m, hb.m]; exact hm)
  have h1 : ((a.n : Int) != (b.n : Int)) = false := by rw [bne_eq_false_iff_eq, ha.n, hb.n, hn]
  have h2 : ((a.n : Int) == (b.n : Int)) = true := by rw [beq_iff_eq, ha.n, hb.n, hn]
  have h3 : ((a.m : Int) != (b.m : Int)) = false := by rw [bne_eq_false_iff_eq, ha.m, hb.m, hm]
  have h4 : ((a.m : Int) == (b.m : Int)) = true := by rw [beq_iff_eq, ha.m, hb.m, hm]
  have HN := hid hn
  have HM := hid hm
  have HR := hid hr
  have HAN := hid ha.n
  clear hn hm hr
  rw [show a.v = Value.agg #[.int .i64 a.n, .pointer a.s, .pointer a.c, .pointer a.l, .int .i64 a.m] from rfl, show b.v = Value.agg #[.int .i64 b.n, .pointer b.s, .pointer b.c, .pointer b.l, .int .i64 b.m] from rfl]
  go_enter Try.func23, Try.ntmps23
  go_wp2_with fail
  generalize hw1 : World.alloc (World.alloc w _) _ = w1
  obtain ⟨k1, k2, hB⟩ : Blk w1 w.heap.size 25 a.cs ∧ Blk w1 (w.heap.size + 1) 25 b.cs ∧ Below w.heap.size w w1 := by
    subst hw1
    exact two_boxes (Below.refl _ _)
  clear hw1 h1 h2 h3 h4
  have f1 : ∀ x : Ext w1, x.w.cell? ⟨w.heap.size, 3, none⟩ = some (.pointer a.l) := fun x => (k1.keep x.h).c5.2.2.2.1
  have f2 : ∀ x : Ext w1, x.w.cell? ⟨w.heap.size + 1, 3, none⟩ = some (.pointer b.l) := fun x => (k2.keep x.h).c5.2.2.2.1
  (refine wp_region_ext (by kernel_rfl) (by kernel_rfl) ?_; (repeat (go_big_quiet_step ((fail)))); refine wpQuiet_nil ?_; rintro _ ⟨y, rfl⟩)
  clear f1 f2
  have B1 := hB.trans (y.h.mono hB.size)
  have k1y := k1.keep y.h
  have k2y := k2.keep y.h
  have ha1 := ha.keep B1
  have hb1 := hb.keep B1
  clear k1 k2 hB ha hb
  generalize y.w = wy at *
  clear y
  go_wp2_with fail
  go_loopg [5, 6] A.W.length (fun g v u wr => ∃ (k : Nat) (p q : Option Addr), g + k = A.W.length ∧ v = .pointer p ∧ u = .pointer q ∧ Wl wr p (A.W.drop k) ∧ Wl wr q (B.W.drop k) ∧ Hid (A.W.take k = B.W.take k) ∧ Below wy.heap.size wy wr)
  case atStart => exact ⟨0, a.l, b.l, by omega, rfl, rfl, ha1.l, hb1.l, hid rfl, Below.refl _ _⟩
  case round =>
    obtain ⟨k, p, q, hk, rfl, rfl, hp, hq, HT, hbel⟩ := hrel
    have hpe := ptr_neq (P := Try.prog) 23 70 Try.underlying23 sizeW hp.pb hq.pb
    by_cases hpq : p = q
    · rw [decide_eq_true hpq] at hpe
      simp only [Bool.not_true] at hpe
      have hW : A.W = B.W := by
        rw [← List.take_append_drop k A.W, ← List.take_append_drop k B.W, HT.out, Wl.same hp (hpq ▸ hq)]
      have HR2 := hid (show r = true ↔ ∀ i, i < A.n → A.S i = B.S i by
        rw [HR.out]
        exact ⟨fun h => h.2.2, fun h => ⟨HN.out, hW, h⟩⟩)
      have k1r := k1y.keep hbel
      have k2r := k2y.keep hbel
      obtain ⟨x0, x1, x2, x3, x4⟩ := k1r.c5
      obtain ⟨y0, y1, y2, y3, y4⟩ := k2r.c5
      have ta := ha1.s.keep hbel
      have tb := hb1.s.keep hbel
      have hn16 := ha1.hn
      have BR := B1.trans (hbel.mono B1.size)
      have hse := ptr_eqb (P := Try.prog) 22 86 Try.underlying22 sizeR ta.pb tb.pb
      clear hp hq HT hW hpq k1y k2y ha1 hb1 B1 HR hbel HM
      by_cases hab : a.s = b.s
      · rw [decide_eq_true hab] at hse
        obtain rfl : r = true := HR2.out.2 fun i hi => Tree.same ta (hab ▸ tb) i (by omega)
        clear hab
        go_wp2_with fail
        go_ret
        exact ⟨rfl, BR⟩
      · rw [decide_eq_false hab] at hse
        clear hab
        obtain ⟨wm, hwm⟩ : ∃ x, x = wr := ⟨_, rfl⟩
        subst hwm
        go_wp2_with fail
        go_loopg [66] A.n (fun g v wr' => ∃ k : Nat, g + k = A.n ∧ v = .int .i64 k ∧ Hid (∀ i, i < k → A.S i = B.S i) ∧ Below wm.heap.size wm wr')
        case atStart => exact ⟨0, by omega, rfl, hid fun _ h => absurd h (Nat.not_lt_zero _), Below.refl _ _⟩
        case round =>
          obtain ⟨k, hk, rfl, HS, hb2⟩ := hrel
          by_cases hlt : k < A.n
          · have t1 : ((k : Int) < (a.n : Int)) := by rw [HAN.out]; omega
            go_wp2_with fail
            have BL := BR.trans (hb2.mono BR.size)
            have c1 : ∀ x : Ext wr, x.w.cell? ⟨w.heap.size, 1, none⟩ = some (.pointer a.s) := fun x => ((k1r.keep hb2).keep x.h).c5.2.1
            have c2 : ∀ x : Ext wr, x.w.cell? ⟨w.heap.size + 1, 1, none⟩ = some (.pointer b.s) := fun x => ((k2r.keep hb2).keep x.h).c5.2.1
            have f1 := fun x : Ext wr => find_any a.s A.S k x.w ((ta.keep hb2).keep x.h) (by omega)
            have f2 := fun x : Ext wr => find_any b.s B.S k x.w ((tb.keep hb2).keep x.h) (by omega)
            have hs1 := ta.len k (by omega)
            have hs2 := tb.len k (by omega)
            have e1 := fun x : Ext wr => sec_eql x.w _ _ hs1 hs2
            have HF := hid (And.intro f1 f2)
            clear f1 f2
            clear hse hpe x0 x1 x2 x3 x4 y0 y1 y2 y3 y4 hs1 hs2
            by_cases hst : A.S k = B.S k
            rotate_left
            · rw [beq_eq_false_iff_ne.2 hst] at e1
              obtain rfl : r = false := by
                cases r with
                | false => rfl
                | true => exact absurd (HR2.out.1 rfl k hlt) hst
              (refine wp_region_ext (by kernel_rfl) (by kernel_rfl) ?_; (repeat (go_big_quiet_step ((first | with_reducible exact Ext.calls _ (HF.out.1 _) | with_reducible exact Ext.calls _ (HF.out.2 _))))); refine wpQuiet_nil ?_; rintro _ ⟨z, rfl⟩)
              go_wp2_with fail
              go_ret
              exact ⟨rfl, BL.trans (z.h.mono BL.size)⟩
            · rw [beq_iff_eq.2 hst] at e1
              have HST := hid hst
              clear hst
              (refine wp_region_ext (by kernel_rfl) (by kernel_rfl) ?_; (repeat (go_big_quiet_step ((first | with_reducible exact Ext.calls _ (HF.out.1 _) | with_reducible exact Ext.calls _ (HF.out.2 _))))); refine wpQuiet_nil ?_; rintro _ ⟨z, rfl⟩)
              have hbz := hb2.trans (z.h.mono hb2.size)
              go_wp2_with fail
              go_roundg (gk - 1)
              case measure => omega
              case rel =>
                refine ⟨k + 1, by omega, rfl, hid fun i hi => ?_, hbz⟩
                by_cases hik : i = k
                · rw [hik]; exact HST.out
                · exact HS.out i (by omega)
          · have t1 : ¬ ((k : Int) < (a.n : Int)) := by rw [HAN.out]; omega
            obtain rfl : r = true := HR2.out.2 fun i hi => HS.out i (by omega)
            go_wp2_with fail
            go_ret
            exact ⟨rfl, BR.trans (hb2.mono BR.size)⟩
    · rw [decide_eq_false hpq] at hpe
      simp only [Bool.not_false] at hpe
      have HP := hid hpq
      clear hpq
      cases hA : A.W.drop k with
      | nil =>
        exfalso
        have hB : B.W.drop k = [] := by
          have h1 := congrArg List.length hA
          have h2 := HM.out
          simp only [List.length_drop, List.length_nil] at h1
          exact List.drop_of_length_le (by omega)
        rw [hA] at hp
        rw [hB] at hq
        exact HP.out ((show p = none from hp).trans (show q = none from hq).symm)
      | cons xa la =>
      cases hB : B.W.drop k with
      | nil =>
        exfalso
        have h1 := congrArg List.length hA
        have h3 := congrArg List.length hB
        have h2 := HM.out
        simp only [List.length_drop, List.length_nil, List.length_cons] at h1 h3
        omega
      | cons xb lb =>
      obtain ⟨i, s⟩ := xa
      obtain ⟨j, t⟩ := xb
      rw [hA] at hp
      rw [hB] at hq
      obtain ⟨g, p', gs, rfl, kg, ks, hsl, hp'⟩ := hp
      obtain ⟨h, q', ht, rfl, kh, kt, htl, hq'⟩ := hq
      have HD := hid (And.intro hA hB)
      have BR := B1.trans (hbel.mono B1.size)
      have hk1 : k < A.W.length := by
        have h1 := congrArg List.length hA
        simp only [List.length_drop, List.length_cons] at h1
        omega
      have hdA : A.W.drop (k + 1) = la := by rw [← List.tail_drop, hA]; rfl
      have hdB : B.W.drop (k + 1) = lb := by rw [← List.tail_drop, hB]; rfl
      have htA : A.W.take (k + 1) = A.W.take k ++ [(i, s)] := by
        have := List.take_append_drop (k + 1) A.W
        rw [List.take_add, hA]; rfl
      have htB : B.W.take (k + 1) = B.W.take k ++ [(j, t)] := by
        rw [List.take_add, hB]; rfl
      clear hA hB
      go_wp2_with fail
      have c1 : ∀ x : Ext wr, x.w.cell? ⟨g, 1, none⟩ = some (.int .i64 i) := fun x => (kg.keep x.h).c3.2.1
      have c2 : ∀ x : Ext wr, x.w.cell? ⟨g, 2, none⟩ = some (.pointer (some ⟨gs, 0, none⟩)) := fun x => (kg.keep x.h).c3.2.2
      have d1 : ∀ x : Ext wr, x.w.cell? ⟨h, 1, none⟩ = some (.int .i64 j) := fun x => (kh.keep x.h).c3.2.1
      have d2 : ∀ x : Ext wr, x.w.cell? ⟨h, 2, none⟩ = some (.pointer (some ⟨ht, 0, none⟩)) := fun x => (kh.keep x.h).c3.2.2
      have l1 : ∀ x : Ext wr, (Instr.loadAt 65 (.pointer (some ⟨gs, 0, none⟩))).run Try.prog x.w = .ok (.agg (s.map byV).toArray) x.w := fun x => sec_load (Blk.keep ks x.h) hsl
      have l2 : ∀ x : Ext wr, (Instr.loadAt 65 (.pointer (some ⟨ht, 0, none⟩))).run Try.prog x.w = .ok (.agg (t.map byV).toArray) x.w := fun x => sec_load (Blk.keep kt x.h) htl
      have e1 : ∀ x : Ext wr, (Op.equalIn 10000 65 (.agg (s.map byV).toArray) (.agg (t.map byV).toArray)).run Try.prog x.w = .ok (s == t) x.w := fun x => sec_eql x.w s t hsl htl
      by_cases hij : i = j
      rotate_left
      · have t1 : ((i : Int) != (j : Int)) = true := by rw [bne_iff_ne]; omega
        obtain rfl : r = false := by
          cases r with
          | false => rfl
          | true =>
            have h1 := (HR.out.1 rfl).2.1
            have h2 := HD.out.1
            rw [h1, HD.out.2] at h2
            simp only [List.cons.injEq, Prod.mk.injEq] at h2
            exact absurd h2.1.1.symm hij
        (refine wp_region_ext (by kernel_rfl) (by kernel_rfl) ?_; (repeat (go_big_quiet_step ((fail)))); refine wpQuiet_nil ?_; rintro _ ⟨z, rfl⟩)
        clear c1 c2 d1 d2 l1 l2 e1
        go_wp2_with fail
        go_ret
        exact ⟨rfl, BR.trans (z.h.mono BR.size)⟩
      subst hij
      have t1 : ((i : Int) != (i : Int)) = false := by rw [bne_eq_false_iff_eq]
      by_cases hst : s = t
      rotate_left
      · rw [beq_eq_false_iff_ne.2 hst] at e1
        obtain rfl : r = false := by
          cases r with
          | false => rfl
          | true =>
            have h1 := (HR.out.1 rfl).2.1
            have h2 := HD.out.1
            rw [h1, HD.out.2] at h2
            simp only [List.cons.injEq, Prod.mk.injEq] at h2
            exact absurd h2.1.2.symm hst
        (refine wp_region_ext (by kernel_rfl) (by kernel_rfl) ?_; (repeat (first | go_big_quiet_skip | (go_big_quiet_want; refine quiet_load 65 _ rfl _ rfl _ (by rintro _ ⟨x, rfl⟩; first | exact l1 x | exact l2 x) ?_; go_frame; go_big_quiet_on) | go_big_quiet_step (fail))); refine wpQuiet_nil ?_; rintro _ ⟨z, rfl⟩)
        clear c1 c2 d1 d2 l1 l2 e1
        go_wp2_with fail
        go_ret
        exact ⟨rfl, BR.trans (z.h.mono BR.size)⟩
      subst hst
      simp only [beq_self_eq_true] at e1
      (refine wp_region_ext (by kernel_rfl) (by kernel_rfl) ?_; (repeat (first | go_big_quiet_skip | (go_big_quiet_want; refine quiet_load 65 _ rfl _ rfl _ (by rintro _ ⟨x, rfl⟩; first | exact l1 x | exact l2 x) ?_; go_frame; go_big_quiet_on) | go_big_quiet_step (fail))); refine wpQuiet_nil ?_; rintro _ ⟨z, rfl⟩)
      clear c1 c2 d1 d2 l1 l2 e1
      go_wp2_with fail
      have x0 : ∀ x : Ext z.w, x.w.cell? ⟨g, 0, none⟩ = some (.pointer p') := fun x => ((kg.keep z.h).keep x.h).c3.1
      have y0 : ∀ x : Ext z.w, x.w.cell? ⟨h, 0, none⟩ = some (.pointer q') := fun x => ((kh.keep z.h).keep x.h).c3.1
      (refine wp_region_ext (by kernel_rfl) (by kernel_rfl) ?_; (repeat (go_big_quiet_step ((fail)))); refine wpQuiet_nil ?_; rintro _ ⟨y, rfl⟩)
      clear x0 y0
      have hpz := Wl.kept (.below y.h) (Wl.kept (.below z.h) hp')
      have hqz := Wl.kept (.below y.h) (Wl.kept (.below z.h) hq')
      have hbz := hbel.trans (z.h.mono hbel.size)
      have hby := hbz.trans (y.h.mono hbz.size)
      clear kg kh ks kt hp' hq'
      go_wp2_with fail
      go_roundg (gk - 1)
      case measure => omega
      case rel =>
        exact ⟨k + 1, p', q', by omega, rfl, rfl, by rw [hdA]; exact hpz, by rw [hdB]; exact hqz, hid (by rw [htA, htB, HT.out]), hby⟩
end Go.Proofs.Ythpalmncfcahkaa
