/- The reference's disks, as they lie in memory; New, walked. Conditions: none. -/
import Derived.Test.YthpalmncfcahkaaSls
import Derived.Test.YthpalmncfcahkaaSect
import Derived.Test.YthpalmncfcahkaaDiskRW
set_option linter.unusedSimpArgs false
set_option linter.unusedVariables false
namespace Go.Proofs.Ythpalmncfcahkaa
open Go.RowKit

/-- the reference's disk as a value -/
structure Rv where
  (S W : Sl)
def Rv.v (x : Rv) : Value := .agg #[x.S.v, x.W.v]
def Rv.cs (x : Rv) : List Value := [x.S.v, x.W.v]
def Rv.zero : Rv := ⟨⟨none, 0, 0⟩, ⟨none, 0, 0⟩⟩
def wrCs (x : Nat × Sl) : List Value := [.int .i64 x.1, x.2.v]
theorem rv_one (x : Rv) : ∀ v ∈ x.cs, v.oneCell' = true := by
  intro v hv
  simp only [Rv.cs, List.mem_cons, List.not_mem_nil, or_false] at hv
  rcases hv with rfl | rfl <;> rfl

/-- sectors as byte slices -/
structure SecR (N : Nat → Prop) (w : World) (s : Sl) (n : Nat) (f : Secs) : Prop where
  e : s.n = n
  nc : s.n ≤ s.c
  cm : s.c ≤ 9223372036854775807
  r : ∃ ss : List Sl, RN N w 1 s.A s.n (ss.map Sl.v) ∧ Sls N w ss ((List.range n).map f)
/-- writes, the oldest first -/
structure WrR (N : Nat → Prop) (w : World) (s : Sl) (W : List (Nat × List UInt8)) : Prop where
  e : s.n = W.length
  nc : s.n ≤ s.c
  cm : s.c ≤ 9223372036854775807
  r : ∃ ws : List (Nat × Sl), RN N w 2 s.A s.n (ws.flatMap wrCs) ∧ Sls N w (ws.map (·.2)) (W.map (·.2)) ∧ ws.map (·.1) = W.map (·.1)
structure RefV (N : Nat → Prop) (w : World) (x : Rv) (D : Dk) : Prop where
  s : SecR N w x.S D.n D.S
  w : WrR N w x.W D.W.reverse
  l : ∀ i, i < D.n → (D.S i).length = 128
  b : ∀ y ∈ D.W, y.1 < D.n ∧ y.2.length = 128
section
variable {N N' : Nat → Prop} {w w' : World} {s : Sl} {n : Nat} {f : Secs} {W : List (Nat × List UInt8)} {x : Rv} {D : Dk} {row : Option Nat}
theorem SecR.keep (h : SecR N w s n f) (hb : Below w.heap.size w w') : SecR N w' s n f := ⟨h.e, h.nc, h.cm, h.r.elim fun ss ⟨h1, h2⟩ => ⟨ss, h1.keep hb, h2.keep hb⟩⟩
theorem SecR.mono (h : SecR N w s n f) (hN : ∀ b, N b → N' b) : SecR N' w s n f := ⟨h.e, h.nc, h.cm, h.r.elim fun ss ⟨h1, h2⟩ => ⟨ss, h1.mono hN, h2.mono hN⟩⟩
theorem SecR.lt (h : SecR N w s n f) : SecR (fun b => N b ∧ b < w.heap.size) w s n f := ⟨h.e, h.nc, h.cm, h.r.elim fun ss ⟨h1, h2⟩ => ⟨ss, h1.lt, h2.lt⟩⟩
theorem SecR.grown (h : SecR N w s n f) (hg : w.grownBy w' row) (hr : ∀ g, row = some g → ¬ N g) : SecR N w' s n f := ⟨h.e, h.nc, h.cm, h.r.elim fun ss ⟨h1, h2⟩ => ⟨ss, h1.grown hg hr, h2.grown hg hr⟩⟩
theorem WrR.keep (h : WrR N w s W) (hb : Below w.heap.size w w') : WrR N w' s W := ⟨h.e, h.nc, h.cm, h.r.elim fun ws ⟨h1, h2, h3⟩ => ⟨ws, h1.keep hb, h2.keep hb, h3⟩⟩
theorem WrR.mono (h : WrR N w s W) (hN : ∀ b, N b → N' b) : WrR N' w s W := ⟨h.e, h.nc, h.cm, h.r.elim fun ws ⟨h1, h2, h3⟩ => ⟨ws, h1.mono hN, h2.mono hN, h3⟩⟩
theorem WrR.lt (h : WrR N w s W) : WrR (fun b => N b ∧ b < w.heap.size) w s W := ⟨h.e, h.nc, h.cm, h.r.elim fun ws ⟨h1, h2, h3⟩ => ⟨ws, h1.lt, h2.lt, h3⟩⟩
theorem WrR.grown (h : WrR N w s W) (hg : w.grownBy w' row) (hr : ∀ g, row = some g → ¬ N g) : WrR N w' s W := ⟨h.e, h.nc, h.cm, h.r.elim fun ws ⟨h1, h2, h3⟩ => ⟨ws, h1.grown hg hr, h2.grown hg hr, h3⟩⟩
theorem RefV.keep (h : RefV N w x D) (hb : Below w.heap.size w w') : RefV N w' x D := ⟨h.s.keep hb, h.w.keep hb, h.l, h.b⟩
theorem RefV.mono (h : RefV N w x D) (hN : ∀ b, N b → N' b) : RefV N' w x D := ⟨h.s.mono hN, h.w.mono hN, h.l, h.b⟩
theorem RefV.lt (h : RefV N w x D) : RefV (fun b => N b ∧ b < w.heap.size) w x D := ⟨h.s.lt, h.w.lt, h.l, h.b⟩
theorem RefV.grown (h : RefV N w x D) (hg : w.grownBy w' row) (hr : ∀ g, row = some g → ¬ N g) : RefV N w' x D := ⟨h.s.grown hg hr, h.w.grown hg hr, h.l, h.b⟩
theorem WrR.nil (N : Nat → Prop) (w : World) : WrR N w ⟨none, 0, 0⟩ [] := ⟨rfl, Nat.le_refl _, by decide, [], RN.nil _ _ _ _, Sls.nil, rfl⟩
end
theorem arrRef : ArrT Try.prog 48 Rv.zero.cs := (by kernel_rfl : (Try.prog.info? 48).map (fun i => (i.zero, i.size)) = some (some (.agg Rv.zero.cs.toArray), 2))
theorem refN : (Try.prog.info? 48).map (·.size) = some 2 := by kernel_rfl
theorem slT : OneC Try.prog 45 31 (.slice none 0 0) 24 :=
  ⟨Try.underlying45, info_parts (by kernel_rfl : (Try.prog.info? 31).map (fun i => (i.zero, i.size, i.bytes)) = some (some (.slice none 0 0), 1, 24)), rfl⟩
theorem sl_one (ss : List Sl) : ∀ u ∈ ss.map Sl.v, u.oneCell' = true := by
  intro u hu
  obtain ⟨_, _, rfl⟩ := List.mem_map.1 hu
  rfl
theorem zeros_next (k : Nat) : (List.range (k + 1)).map (fun _ => zero128) = (List.range k).map (fun _ => zero128) ++ [zero128] := by
  rw [List.range_succ, List.map_append]; rfl
theorem two_boxes_r {w w3 : World} {T1 T2 : TypeId} {cs1 cs2 : List Value} (e : (w.alloc (.cells cs1.toArray T1)).alloc (.cells cs2.toArray T2) = w3) :
    Blk w3 w.heap.size T1 cs1 ∧ Blk w3 (w.heap.size + 1) T2 cs2 ∧ Below w.heap.size w w3 := by
  subst e
  exact two_boxes (Below.refl _ _)
theorem mk128 : ∀ w : World, (Instr.makeSlice 31 (.int .i64 128) (.int .i64 128)).run Try.prog w = .ok (.slice (some ⟨w.heap.size, 0, none⟩) 128 128) (w.alloc (.cells (zero128.map byV).toArray 5)) := fun _ => by kernel_rfl

set_option maxRecDepth 100000 in
set_option maxHeartbeats 1000000 in
theorem refNew_any (n : Nat) (w : World) (hn : n ≤ 1000) (N : Nat → Prop) (hN : ∀ b, w.heap.size ≤ b → N b) :
    Calls Try.prog 19 #[.int .i64 n] w fun e w' => ∃ x : Rv, e = .returned x.v ∧ RefV N w' x (Dk.new n) ∧ Below w.heap.size w w' := by
  have hmk := mk128
  go_enter Try.func19, Try.ntmps19
  go_wp2_with fail
  generalize hw1 : World.alloc (World.alloc w _) _ = w1
  obtain ⟨kr, kd, hB⟩ := two_boxes_r (cs1 := Rv.zero.cs) (cs2 := Rv.zero.cs) hw1
  clear hw1
  go_loopw [4] (fun i wr => ∃ (k : Nat) (s : Sl) (ss : List Sl), k ≤ n ∧ i = .int .i64 k ∧ Blk wr w.heap.size 48 Rv.zero.cs ∧ Blk wr (w.heap.size + 1) 48 [s.v, .slice none 0 0] ∧ wr.ownsRow (w.heap.size + 2) 31 1 s.v k (ss.map Sl.v) ∧ s.n = k ∧ s.n ≤ s.c ∧ s.c ≤ 9223372036854775807 ∧ Sls (fun b => (N b ∧ w.heap.size + 2 ≤ b) ∧ s.v.ownBlock ≠ some b) wr ss ((List.range k).map (fun _ => zero128)) ∧ Below w.heap.size w wr) (fun i _ => n - (intOf i).toNat)
  case atStart => exact ⟨0, ⟨none, 0, 0⟩, [], Nat.zero_le _, rfl, kr, kd, World.ownsRow_nil _ _ _ _, rfl, Nat.le_refl _, by decide, Sls.nil, hB⟩
  case round =>
    obtain ⟨k, s, ss, hk, rfl, kr2, kd2, hown, hsn, hsc, hsm, hss, hbel⟩ := hrel
    clear kr kd hB
    by_cases hlt : k < n
    · obtain ⟨x0, x1⟩ := kd2.c2
      have hgd := kd2.lt
      have h1 := hown.drew
      go_wp2_with fail
      have kdr : ∀ o1 o2, Blk ((wr.drew.alloc o1).alloc o2) (w.heap.size + 1) 48 [s.v, .slice none 0 0] := fun o1 o2 => (show Blk wr.drew _ _ _ from kd2).keep (((Below.refl _ _).alloc (Nat.le_refl _) _).alloc (by simp) _)
      have krr : ∀ o1 o2, Blk ((wr.drew.alloc o1).alloc o2) w.heap.size 48 Rv.zero.cs := fun o1 o2 => (show Blk wr.drew _ _ _ from kr2).keep (((Below.refl _ _).alloc (Nat.le_refl _) _).alloc (by simp) _)
      have bdr : ∀ o1 o2, Below w.heap.size w ((wr.drew.alloc o1).alloc o2) := fun o1 o2 => (hbel.drew.alloc hbel.size _).alloc (by have := hbel.size; simp; omega) _
      have ssr : ∀ o1 o2, Sls (fun b => (N b ∧ w.heap.size + 2 ≤ b) ∧ s.v.ownBlock ≠ some b) ((wr.drew.alloc o1).alloc o2) ss ((List.range k).map (fun _ => zero128)) := fun o1 o2 => (hss.keep (Below.refl _ _).drew).keep (((Below.refl _ _).alloc (Nat.le_refl _) _).alloc (by simp) _)
      have zr : ∀ o2, SlR (fun b => (N b ∧ w.heap.size + 2 ≤ b) ∧ s.v.ownBlock ≠ some b) ((wr.drew.alloc (.cells (zero128.map byV).toArray 5)).alloc o2) ⟨some ⟨wr.heap.size, 0, none⟩, 128, 128⟩ zero128 := fun o2 =>
        ⟨⟨(show RB _ _ _ _ from (RL.new wr.drew _ _ _ 1 128 (by simp [zero128_len]))).alloc _, fun b o hA _ => by cases hA; exact ⟨⟨hN _ hbel.size, by omega⟩, fun hq => absurd (hown.lt _ hq).2 (by omega)⟩⟩, by show 128 ≤ 128; omega, by show 128 ≤ _; omega⟩
      have HO := hid (fun g hg => (hown.lt g hg).1)
      have f1 : ∀ o1, (wr.alloc o1).cell? ⟨w.heap.size + 1, 0, none⟩ = some s.v := fun o1 => (kd2.keep ((Below.refl _ _).alloc (Nat.le_refl _) _)).c2.1
      have f2 : ∀ o1 o2, ((wr.alloc o1).alloc o2).cell? ⟨w.heap.size + 1, 0, none⟩ = some s.v := fun o1 o2 => (kd2.keep (((Below.refl _ _).alloc (Nat.le_refl _) _).alloc (by simp) _)).c2.1
      go_region_law (refine step_app rfl (.tmp 11) (.tmp 13) 45 rfl (w.heap.size + 2) 31 _ 24 slT s.v k (ss.map Sl.v) ((h1.alloc _).alloc _) (by simp [Act.eval, Act.put]) _ 1 1 [.slice (some ⟨wr.heap.size, 0, none⟩) 128 128] (RL.new (wr.drew.alloc (.cells (zero128.map byV).toArray 5)) _ _ _ 1 1 rfl) (by simp [Act.eval, Act.put]) (one_only rfl) (by unfold maxLen; omega) (by omega) (by simp; omega) ?_; intro v3 w3 hown3 r3 a3; obtain ⟨A3, c3, rfl, _, _, _⟩ := own_form hown3; have kd3 := (kdr _ _).grown r3 (fun hq => absurd (HO.out _ hq) (by omega)); obtain ⟨y0, y1⟩ := kd3.c2; have yf := kd3.fz)
      all_goals (
        have kr3 : Blk w3 w.heap.size 48 Rv.zero.cs := (krr _ _).grown r3 (fun hq => absurd (HO.out _ hq) (by omega))
        have g4 := kd3.setg 0 (.slice A3 (k + 1) c3)
        have kd4 := kd3.set_ 0 (.slice A3 (k + 1) c3)
        have kr4 := kr3.grown g4 (by simp)
        have own4 := hown3.kept g4 (.inr (fun hq => absurd (hown3.lt _ hq).1 (by omega)))
        have ss4 := ((ssr _ _).app (zr _) r3 a3).grown g4 (fun g hg hq => by cases hg; exact absurd hq.1.2 (by omega))
        have b4 := ((bdr _ _).grown r3 (by have := hbel.size; simp; omega) (fun g hg => by have := HO.out g hg; omega)).grown g4 (by have := r3.size; have := hbel.size; simp at *; omega) (fun g hg => by cases hg; omega)
        generalize hw4 : w3.setCell ⟨w.heap.size + 1, 0, none⟩ (.slice A3 (k + 1) c3) = w4 at *
        clear hw4 r3 g4 y0 y1 yf kd3 kr3 x0 x1 f1 f2
        go_wp2_with fail
        go_roundw
        case rel => exact ⟨k + 1, ⟨A3, k + 1, c3⟩, ss ++ [⟨some ⟨wr.heap.size, 0, none⟩, 128, 128⟩], by omega, by go_num, kr4, kd4, by rw [List.map_append]; exact own4, rfl, by assumption, by assumption, by rw [zeros_next]; exact ss4, b4⟩
        case measure => simp [intOf]; omega)
    · obtain rfl : k = n := by omega
      obtain ⟨x0, x1⟩ := kd2.c2
      go_wp2_with ((with_reducible refine is_store 48 ?_); refine wp_storeB w.heap.size _ _ (⟨s, ⟨none, 0, 0⟩⟩ : Rv).cs kr2 refN rfl (rv_one _) rfl rfl ?_; intro w6 kn rn; go_frame)
      obtain ⟨e0, e1⟩ := kn.c2
      refine bodyPost_ret (v := (⟨s, ⟨none, 0, 0⟩⟩ : Rv).v) (by simp [results, Try.results19, go_sem, e0, e1]; rfl) rfl ⟨_, rfl, ?_, hbel.grown rn hbel.size (fun g hg => by cases hg; exact Nat.le_refl _)⟩
      have hr : RN (fun b => N b ∧ w.heap.size + 2 ≤ b) wr 1 s.A s.n (ss.map Sl.v) := by
        obtain ⟨sA, sn, sc⟩ := s
        dsimp only at hsn
        subst hsn
        exact RN.own hown (fun b hb => ⟨hN _ (by omega), hb⟩)
      refine ⟨⟨hsn, hsc, hsm, ss, ?_, ?_⟩, WrR.nil _ _, fun i _ => zero128_len, fun y hy => by cases hy⟩
      · exact (hr.grown rn (fun g hg hq => by cases hg; exact absurd hq.2 (by omega))).mono fun b hb => hb.1
      · exact (hss.grown rn (fun g hg hq => by cases hg; exact absurd hq.1.2 (by omega))).mono fun b hb => hb.1.1
end Go.Proofs.Ythpalmncfcahkaa
