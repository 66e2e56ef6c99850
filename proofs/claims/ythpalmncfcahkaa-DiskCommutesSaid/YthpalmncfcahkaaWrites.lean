/- The unsynced writes in their order, walked. Conditions: the disk reads. -/
import Derived.Test.YthpalmncfcahkaaRev
import Derived.Test.YthpalmncfcahkaaListX
set_option linter.unusedSimpArgs false
set_option linter.unusedVariables false
namespace Go.Proofs.Ythpalmncfcahkaa
open Go.RowKit

theorem wrT : OneC Try.prog 73 23 (.pointer none) 8 :=
  ⟨Try.underlying73, info_parts (by kernel_rfl : (Try.prog.info? 23).map (fun i => (i.zero, i.size, i.bytes)) = some (some (.pointer none), 1, 8)), rfl⟩
theorem notWr : ¬ dkT 23 := by unfold dkT; decide
def ptrV (g : Nat) : Value := .pointer (some ⟨g, 0, none⟩)
/-- the write in block g -/
def WrAt (w : World) (g : Nat) (x : Nat × List UInt8) : Prop := ∃ q gs, Blk w g 70 [.pointer q, .int .i64 x.1, .pointer (some ⟨gs, 0, none⟩)] ∧ BlkB w gs 65 x.2 ∧ x.2.length = 128
theorem WrAt.kept {w w' : World} {g : Nat} {x : Nat × List UInt8} (h : WrAt w g x) (hb : Kept w w') : WrAt w' g x := by
  obtain ⟨q, gs, h1, h2, h3⟩ := h
  exact ⟨q, gs, hb.blk _ _ _ (.inr (.inr (.inr (.inr rfl)))) h1, hb.blk _ _ _ (.inr (.inr (.inr (.inl rfl)))) h2, h3⟩
/-- the writes in the blocks ps -/
def WrL (w : World) : List Nat → List (Nat × List UInt8) → Prop
  | [], [] => True
  | g :: ps, x :: l => WrAt w g x ∧ WrL w ps l
  | _, _ => False
theorem WrL.kept {w w' : World} (hb : Kept w w') : ∀ {ps : List Nat} {l : List (Nat × List UInt8)}, WrL w ps l → WrL w' ps l
  | [], [], _ => trivial
  | _ :: _, _ :: _, h => ⟨h.1.kept hb, WrL.kept hb h.2⟩
theorem WrL.len {w : World} : ∀ {ps : List Nat} {l : List (Nat × List UInt8)}, WrL w ps l → ps.length = l.length
  | [], [], _ => rfl
  | _ :: _, _ :: _, h => by simp [WrL.len h.2]
theorem WrL.snoc {w : World} {g : Nat} {x : Nat × List UInt8} : ∀ {ps : List Nat} {l : List (Nat × List UInt8)}, WrL w ps l → WrAt w g x → WrL w (ps ++ [g]) (l ++ [x])
  | [], [], _, h => ⟨h, trivial⟩
  | _ :: _, _ :: _, h, k => ⟨h.1, WrL.snoc h.2 k⟩
theorem WrL.rev {w : World} : ∀ {ps : List Nat} {l : List (Nat × List UInt8)}, WrL w ps l → WrL w ps.reverse l.reverse
  | [], [], _ => trivial
  | g :: ps, x :: l, h => by
    rw [List.reverse_cons, List.reverse_cons]
    exact WrL.snoc (WrL.rev h.2) h.1
theorem WrL.at {w : World} : ∀ {ps : List Nat} {l : List (Nat × List UInt8)}, WrL w ps l → ∀ {k : Nat} {x : Nat × List UInt8}, l[k]? = some x → ∃ g, ps[k]? = some g ∧ WrAt w g x
  | g :: ps, y :: l, h, 0, x, hx => by
    simp at hx
    exact ⟨g, rfl, hx ▸ h.1⟩
  | g :: ps, y :: l, h, k + 1, x, hx => WrL.at h.2 (k := k) (by simpa using hx)
  | [], [], _, _, _, hx => by simp at hx
theorem ptrV_one (l : List Nat) : ∀ u ∈ l.map ptrV, u.oneCell' = true := by
  intro u hu
  obtain ⟨_, _, rfl⟩ := List.mem_map.1 hu
  rfl

set_option maxHeartbeats 1000000 in
theorem writes_any (d : DV) (D : Dk) (w : World) (h : DkV w d D) (hm : D.W.length ≤ 1000000) :
    Calls Try.prog 28 #[d.v] w fun e w' => ∃ A c ps, e = .returned (.slice A D.W.length c) ∧ RL w' 1 A D.W.length (ps.map ptrV) ∧ D.W.length ≤ c ∧ c ≤ 9223372036854775807 ∧ WrL w' ps D.W.reverse ∧ Below w.heap.size w w' := by
  have hdm : (d.m : Int) = (D.W.length : Int) := by rw [h.m]
  obtain ⟨n, hn⟩ : ∃ n, D.W.length = n := ⟨_, rfl⟩
  rw [show d.v = Value.agg #[.int .i64 d.n, .pointer d.s, .pointer d.c, .pointer d.l, .int .i64 D.W.length] from by unfold DV.v; rw [hdm]]
  rw [hn]
  have hm2 : n ≤ 1000000 := by omega
  have HN := hid hn
  clear hdm hn
  go_enter Try.func28, Try.ntmps28
  have hB : Below w.heap.size w (w.alloc (.cells #[.int .i64 d.n, .pointer d.s, .pointer d.c, .pointer d.l, .int .i64 n] 25)) := (Below.refl _ _).alloc (Nat.le_refl _) _
  go_wp2_with (at_make; refine wp_make0 _ rfl _ _ 73 rfl w.heap.size 23 _ 8 wrT .i64 .i64 _ n rfl rfl rfl (by omega) (by unfold maxLen; omega) (by simp) ?_; intro w2 hown r2; go_frame; have B2 := hB.grown r2 hB.size (fun k hk => by cases hk); have kd := (Blk.new w 25 [.int .i64 d.n, .pointer d.s, .pointer d.c, .pointer d.l, .int .i64 n]).grown r2 (by intro h; cases h); obtain ⟨c0, c1, c2, c3, c4⟩ := kd.c5)
  go_loopw [3, 4] (fun o p wr => ∃ (k : Nat) (pp : Option Addr) (ps : List Nat) (A : Option Addr) (c : Nat), k ≤ n ∧ p = .pointer pp ∧ o = .slice A k c ∧ wr.ownsRow w.heap.size 23 1 (.slice A k c) k (ps.map ptrV) ∧ WrL w ps (D.W.take k) ∧ Wl w pp (D.W.drop k) ∧ Below w.heap.size w wr) (fun o _ _ => match o with | .slice _ m _ => n - m | _ => 0)
  case atStart =>
    refine ⟨0, d.l, [], _, _, Nat.zero_le _, rfl, rfl, hown, trivial, ?_, B2⟩
    exact h.l
  case round =>
    obtain ⟨k, pp, ps, A, c, hk, rfl, rfl, hown2, hps, hwl, hbel⟩ := hrel
    clear hown r2 B2 kd c0 c1 c2 c3 c4 hB
    by_cases hlt : k < n
    · obtain ⟨x, hx⟩ : ∃ x, D.W[k]? = some x := ⟨_, List.getElem?_eq_getElem (by rw [HN.out]; exact hlt)⟩
      rw [drop_one hx] at hwl
      obtain ⟨i, s⟩ := x
      obtain ⟨g, q, gs, rfl, kb, ks, hs, hwl2⟩ := hwl
      have hat : WrAt w g (i, s) := ⟨q, gs, kb, ks, hs⟩
      have HX := hid hx
      clear hx
      go_wp2_with (at_builtin; refine wp_app _ rfl _ _ 73 rfl w.heap.size 23 _ 8 wrT _ _ _ (hown2.alloc _) rfl _ 1 1 _ (RL.new wr _ _ _ 1 1 rfl) rfl (one_only rfl) (by unfold maxLen; omega) (by omega) (by have := hbel.size; simp; omega) ?_; intro v3 w3 hown3 r3 a3; go_frame; have B3 := (hbel.alloc hbel.size (.cells #[.pointer (some ⟨g, 0, none⟩)] 23)).grown r3 (by have := hbel.size; simp; omega) (fun q hq => (hown2.lt q hq).1); obtain ⟨c0, _, _⟩ := (kb.keep B3).c3)
      obtain ⟨A3, c3, rfl, _, _, _⟩ := own_form hown3
      have T1 := hid (show D.W.take (k + 1) = D.W.take k ++ [(i, s)] by rw [List.take_add_one, HX.out]; rfl)
      go_roundw
      case rel =>
        refine ⟨k + 1, q, ps ++ [g], A3, c3, by omega, rfl, rfl, ?_, ?_, hwl2, B3⟩
        · rw [List.map_append]
          exact hown3
        · rw [T1.out]
          exact WrL.snoc hps hat
      case measure =>
        show n - (k + 1) < n - k
        omega
    · obtain rfl : k = n := by omega
      rw [List.drop_of_length_le (by rw [HN.out]; exact Nat.le_refl _)] at hwl
      rw [List.take_of_length_le (by rw [HN.out]; exact Nat.le_refl _)] at hps
      obtain rfl : pp = none := hwl
      obtain ⟨_, _, hav, hrl, hnc, hcm⟩ := own_form hown2
      cases hav
      go_wp2_with fail
      refine (rev_any w.heap.size A k c _ _ hown2 hbel.size (fun v hv => by obtain ⟨g, _, rfl⟩ := List.mem_map.1 hv; exact ⟨_, rfl⟩)).mono ?_
      rintro e w4 ⟨rfl, hown4, B4⟩
      go_wp2_with fail
      go_ret
      obtain ⟨_, _, hav, hr4, _, _⟩ := own_form hown4
      cases hav
      rw [← List.map_reverse] at hr4
      exact ⟨A, c, ps.reverse, rfl, hr4, hnc, hcm, WrL.kept (.below (hbel.trans B4)) (WrL.rev hps), hbel.trans B4⟩
end Go.Proofs.Ythpalmncfcahkaa
