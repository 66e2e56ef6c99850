/- The acts of layer 13's laws: what a call of the pager and the reference's own leave. Conditions: the table of remainders is laid; pager and reference agree. The acts of layer 13's laws, walked: free, commit and alloc. Conditions: the table of remainders is laid; the store agrees with the reference. The acts of layer 13's laws, walked: open and crash; all. Conditions: the table of remainders is laid; the store agrees with the reference. -/
import Derived.Test.YtanglofabkbllaaDoorSim
import Derived.Test.YtanglofabkbllaaDoorSto
import Derived.Test.YtanglofabkbllaaDoorPgRead
import Derived.Test.YtanglofabkbllaaDoorHead
set_option linter.unusedSimpArgs false
set_option linter.unusedVariables false
namespace Go.Proofs.YtanglofabkbllaaDoor
open Go.RowKit

/-- a store of the laws: pager and reference agree -/
structure Sto (F : Secs) (k sec n N : Nat) (M : Nat → Prop) (w : World) (y : StV) (D : Dk) (S : RS) : Prop where
  sim : Sim F y.p D S k
  s1 : y.sec = sec
  s2 : y.p.sec = sec
  n : S.n = n
  dn : D.n = N
  d : DkV w y.p.d D
  v : RVr M w y.v S
theorem Sto.keep {F : Secs} {k sec n N : Nat} {M : Nat → Prop} {w w' : World} {y : StV} {D : Dk} {S : RS} (h : Sto F k sec n N M w y D S) (hb : Below w.heap.size w w') : Sto F k sec n N M w' y D S := ⟨h.sim, h.s1, h.s2, h.n, h.dn, h.d.keep hb, h.v.keep hb⟩
theorem notSto : ¬ dkT 63 := by unfold dkT; decide
/-- a pager behind an act -/
structure Good (F : Secs) (k sec N : Nat) (w : World) (y : Pgr) (D : Dk) (S : RS) : Prop where
  sim : Sim F y D S k
  sec : y.sec = sec
  dn : D.n = N
  d : DkV w y.d D
theorem Good.keep {F : Secs} {k sec N : Nat} {w w' : World} {y : Pgr} {D : Dk} {S : RS} (h : Good F k sec N w y D S) (hb : Below w.heap.size w w') : Good F k sec N w' y D S := ⟨h.sim, h.sec, h.dn, h.d.keep hb⟩
theorem Good.kept {F : Secs} {k sec N : Nat} {w w' : World} {y : Pgr} {D : Dk} {S : RS} (h : Good F k sec N w y D S) (hb : Kept w w') : Good F k sec N w' y D S := ⟨h.sim, h.sec, h.dn, h.d.kept hb⟩
theorem Sto.mono {F : Secs} {k sec n N : Nat} {M M' : Nat → Prop} {w : World} {y : StV} {D : Dk} {S : RS} (h : Sto F k sec n N M w y D S) (hM : ∀ b, M b → M' b) : Sto F k sec n N M' w y D S := ⟨h.sim, h.s1, h.s2, h.n, h.dn, h.d, h.v.mono hM⟩
theorem Sto.lt {F : Secs} {k sec n N : Nat} {M : Nat → Prop} {w : World} {y : StV} {D : Dk} {S : RS} (h : Sto F k sec n N M w y D S) : Sto F k sec n N (fun b => M b ∧ b < w.heap.size) w y D S := ⟨h.sim, h.s1, h.s2, h.n, h.dn, h.d, h.v.lt⟩
/-- a store to a variable outside of the set keeps it -/
theorem Sto.var {F : Secs} {k sec n N : Nat} {M : Nat → Prop} {w w' : World} {y : StV} {D : Dk} {S : RS} {g : Nat} {t : TypeId} {cs : List Value} (h : Sto F k sec n N M w y D S) (hr : w.grownBy w' (some g)) (hg : Blk w g t cs) (ht : ¬ dkT t) (hM : ¬ M g) : Sto F k sec n N M w' y D S := ⟨h.sim, h.s1, h.s2, h.n, h.dn, h.d.kept (Kept.grown hr hg ht), h.v.grown hr (fun q hq => by cases hq; exact hM)⟩
theorem Sto.good {F : Secs} {k sec n N : Nat} {M : Nat → Prop} {w : World} {y : StV} {D : Dk} {S : RS} (h : Sto F k sec n N M w y D S) (wx : World) (hb : Below w.heap.size w wx) {m : Nat} (hm : k ≤ m) : Good F m sec N wx y.p D S := ⟨h.sim.mono hm, h.s2, h.dn, h.d.keep hb⟩
section
variable {F : Secs} {k sec n N : Nat} {M : Nat → Prop} {x : StV} {D : Dk} {S : RS} {w : World}
theorem plan_free (H : Sto F k sec n N M w x D S) (id : Nat) (hi : id < 1024) :
    ∃ (er : Int) (S' : RS), S'.n = n ∧ (∀ wx, Below w.heap.size w wx → Calls Tryd.prog 16 #[x.p.v, .int .i64 id] wx fun e w' => ∃ (y : Pgr) (D' : Dk), e = .returned (.tuple #[y.v, .int .i64 er]) ∧ Good F (k + 1) sec N w' y D' S' ∧ Below wx.heap.size wx w') ∧
      (∀ (M' : Nat → Prop) wx, RVr M' wx x.v S → (∀ b, wx.heap.size ≤ b → M' b) → Calls Tryd.prog 52 #[x.v.v, .int .i64 id] wx fun e w' => ∃ v' : RV, e = .returned (.tuple #[v'.v, .int .i64 er]) ∧ RVr M' w' v' S' ∧ Below wx.heap.size wx w') := by
  have hp := H.sim.pok
  cases hu : S.inn id with
  | true =>
    refine ⟨0, S.free id, H.n, fun wx hb => (free_good x.p id wx hp ((H.sim.uses id).trans hu) hi).mono ?_, fun M wx hv hM => rfree_good x.v S id wx hv hM hu⟩
    rintro e w' ⟨rfl, b⟩
    exact ⟨x.p.turned id, D, rfl, ⟨H.sim.free hu, H.s2, H.dn, (H.d.keep hb).keep b⟩, b⟩
  | false =>
    refine ⟨9, S, H.n, fun wx hb => (free_no x.p id wx hp ((H.sim.uses id).trans hu)).mono ?_, fun M wx hv hM => (rfree_no x.v S id wx hv hu).mono ?_⟩
    · rintro e w' ⟨rfl, b⟩
      exact ⟨x.p, D, rfl, (H.good wx hb (Nat.le_succ k)).keep b, b⟩
    · rintro e w' ⟨rfl, b⟩
      exact ⟨x.v, rfl, hv.keep b, b⟩
theorem plan_commit (H : Sto F k sec n N M w x D S) (hk : k ≤ 100000) (hT : Tab w) (root : Nat) (A : Option Addr) (m c : Nat) (l : List UInt8) (hl : RB w A m l) (hr : root ≤ 1023) :
    ∃ (er : Int) (S' : RS), S'.n = n ∧ (∀ wx, Below w.heap.size w wx → Calls Tryd.prog 30 #[x.p.v, .int .i64 root, .slice A m c] wx fun e w' => ∃ (y : Pgr) (D' : Dk), e = .returned (.tuple #[y.v, .int .i64 er]) ∧ Good F (k + 1) sec N w' y D' S' ∧ Below wx.heap.size wx w') ∧
      (∀ (M' : Nat → Prop) wx, RVr M' wx x.v S → SlR M' wx ⟨A, m, c⟩ l → Calls Tryd.prog 38 #[x.v.v, .int .i64 root, .slice A m c] wx fun e w' => ∃ v' : RV, e = .returned (.tuple #[v'.v, .int .i64 er]) ∧ RVr M' w' v' S' ∧ Below wx.heap.size wx w') := by
  have hp := H.sim.pok
  have hnum := H.sim.num
  have hnk := H.sim.numk
  have hn := H.sim.n
  have hn1 := H.sim.n1
  have hD := H.sim.hD
  have hW := H.sim.Wk
  by_cases h0 : S.rootOk root
  · have h0' : x.p.rootOk root := h0.elim .inl fun h => .inr ((H.sim.uses root).trans h)
    by_cases hm : 256 < m
    · refine ⟨13, S, H.n, fun wx hb => (commit_long x.p root A m c wx hp h0' hm).mono ?_, fun M wx hv hs => (rcommit_any x.v S root A m c l wx hv h0 hs (by omega)).mono ?_⟩
      · rintro e w' ⟨rfl, b⟩
        exact ⟨x.p, D, rfl, (H.good wx hb (Nat.le_succ k)).keep b, b⟩
      · rintro e w' ⟨h, b⟩
        rw [if_pos hm] at h
        exact ⟨x.v, h, hv.keep b, b⟩
    · refine ⟨0, S.commit root l, H.n, fun wx hb => (commit_good x.p D root A m c l wx hp (hT.keep hb) (H.d.keep hb) (hl.below hb) (by omega) h0' hr (by omega) (by omega) (by omega) (by omega)).mono ?_, fun M wx hv hs => (rcommit_any x.v S root A m c l wx hv h0 hs (by omega)).mono ?_⟩
      · rintro e w' ⟨d', rfl, hd, b⟩
        have hs := H.sim.commit hk h0 (l := l) (by have := hl.len; omega) d'
        generalize encoded 0 (x.p.num + 1) 2 (rootBody root l x.p.nu) = B at hd hs
        exact ⟨_, _, rfl, ⟨hs, H.s2, by rw [root_n]; exact H.dn, hd⟩, b⟩
      · rintro e w' ⟨h, b⟩
        rw [if_neg hm] at h
        obtain ⟨v', h1, h2⟩ := h
        exact ⟨v', h1, h2, b⟩
  · have h1 : root ≠ 0 := fun h => h0 (.inl h)
    have h2 : S.inn root = false := by cases h : S.inn root with
      | true => exact absurd (.inr h) h0
      | false => rfl
    refine ⟨9, S, H.n, fun wx hb => (commit_no x.p root A m c wx hp h1 ((H.sim.uses root).trans h2)).mono ?_, fun M wx hv hs => (rcommit_no x.v S root A m c wx hv h1 h2).mono ?_⟩
    · rintro e w' ⟨rfl, b⟩
      exact ⟨x.p, D, rfl, (H.good wx hb (Nat.le_succ k)).keep b, b⟩
    · rintro e w' ⟨rfl, b⟩
      exact ⟨x.v, rfl, hv.keep b, b⟩
theorem plan_alloc (H : Sto F k sec n N M w x D S) (hk : k ≤ 100000) (hT : Tab w) (A : Option Addr) (m c : Nat) (l : List UInt8) (hl : RB w A m l) (hc : m ≤ c) (hcm : c ≤ 9223372036854775807) :
    ∃ (er : Int) (id : Nat) (S' : RS), S'.n = n ∧ (∀ wx, Below w.heap.size w wx → Calls Tryd.prog 15 #[x.p.v, .slice A m c] wx fun e w' => ∃ (y : Pgr) (D' : Dk), e = .returned (.tuple #[y.v, .int .i64 id, .int .i64 er]) ∧ Good F (k + 1) sec N w' y D' S' ∧ Below wx.heap.size wx w') ∧
      (∀ (M' : Nat → Prop) wx, RVr M' wx x.v S → (∀ b, wx.heap.size ≤ b → M' b) → SlR M' wx ⟨A, m, c⟩ l → Calls Tryd.prog 53 #[x.v.v, .slice A m c] wx fun e w' => ∃ v' : RV, e = .returned (.tuple #[v'.v, .int .i64 id, .int .i64 er]) ∧ RVr M' w' v' S' ∧ Below wx.heap.size wx w') := by
  have hp := H.sim.pok
  have hnum := H.sim.num
  have hnk := H.sim.numk
  have hn := H.sim.n
  have hn1 := H.sim.n1
  have hD := H.sim.hD
  have hW := H.sim.Wk
  by_cases hm : 1000 < m
  · refine ⟨13, 0, S, H.n, fun wx hb => (alloc_long x.p A m c wx hp hm).mono ?_, fun M wx hv hM hs => (ralloc_long x.v A m c wx hm).mono ?_⟩
    · rintro e w' ⟨rfl, b⟩
      exact ⟨x.p, D, rfl, (H.good wx hb (Nat.le_succ k)).keep b, b⟩
    · rintro e w' ⟨rfl, b⟩
      exact ⟨x.v, rfl, hv.keep b, b⟩
  have hA := fun wx (hb : Below w.heap.size w wx) => alloc_any x.p D A m c l wx hp (hT.keep hb) (H.d.keep hb) (hl.below hb) (by omega) hc hcm (by omega) (by omega) (by omega)
  have hR := fun (M' : Nat → Prop) wx (hv : RVr M' wx x.v S) (hM : ∀ b, wx.heap.size ≤ b → M' b) (hs : SlR M' wx ⟨A, m, c⟩ l) => ralloc_any x.v S A m c l wx hv hM hs (by omega)
  by_cases h : ∃ id, S.first id
  · obtain ⟨id, hf⟩ := h
    refine ⟨0, id, S.alloc id l, H.n, fun wx hb => (hA wx hb).mono ?_, fun M' wx hv hM hs => (hR M' wx hv hM hs).mono ?_⟩
    · rintro e w' ⟨h | ⟨i, d', h1, h2, h3⟩, b⟩
      · exact absurd ((H.sim.idle id).2 hf.1) (h.1 id)
      · obtain rfl := first_eq ((H.sim.first i).1 h1) hf
        rw [H.s2] at h3
        exact ⟨_, _, h2, ⟨by have := H.sim.alloc hk hf (l := l) (by have := hl.len; omega) d'; rw [H.s2] at this; exact this, H.s2, by rw [put_n]; exact H.dn, h3⟩, b⟩
    · rintro e w' ⟨h | ⟨i, v', h1, h2, h3⟩, b⟩
      · exact absurd hf.1 (h.1 id)
      · obtain rfl := first_eq h1 hf
        exact ⟨v', h2, h3, b⟩
  · refine ⟨11, 0, S, H.n, fun wx hb => (hA wx hb).mono ?_, fun M' wx hv hM hs => (hR M' wx hv hM hs).mono ?_⟩
    · rintro e w' ⟨h1 | ⟨i, d', h1, h2, h3⟩, b⟩
      · exact ⟨x.p, D, h1.2, (H.good wx hb (Nat.le_succ k)).keep b, b⟩
      · exact absurd ⟨i, (H.sim.first i).1 h1⟩ h
    · rintro e w' ⟨h1 | ⟨i, v', h1, h2, h3⟩, b⟩
      · exact ⟨x.v, h1.2, hv.keep b, b⟩
      · exact absurd ⟨i, h1⟩ h
theorem plan_open {p : Pgr} (H : Sim F p D S k) (hsec : p.sec = sec) (hn : S.n = n) (hN : D.n = N) (d : DV) (wx : World) (hd : DkV wx d D) (hT : Tab wx) :
    Calls Tryd.prog 13 #[d.v, .int .i64 sec, .int .i64 n] wx fun e w' => ∃ (y : Pgr) (D' : Dk), e = .returned (.tuple #[y.v, .int .i64 0]) ∧ Good F (k + 1) sec N w' y D' S.reopen ∧ Below wx.heap.size wx w' := by
  subst hsec hn
  refine (open_good d D p.sec S.n wx hd hT H.n1 H.sok.n H.hD).mono ?_
  rintro e w' ⟨h, b⟩
  rw [H.opens] at h
  exact ⟨_, D, h.2, ⟨H.again d, rfl, hN, hd.keep b⟩, b⟩
end
end Go.Proofs.YtanglofabkbllaaDoor
set_option linter.unusedSimpArgs false
set_option linter.unusedVariables false
namespace Go.Proofs.YtanglofabkbllaaDoor
open Go.RowKit

set_option maxRecDepth 100000 in
set_option maxHeartbeats 8000000 in
theorem do_free {F : Secs} {k sec n N : Nat} {M : Nat → Prop} (x : StV) (a : Ac) (D : Dk) (S : RS) (w : World) (hT : Tab w) (H : Sto F k sec n N M w x D S) (hM : ∀ b, w.heap.size ≤ b → M b) (hk : k ≤ 1000) (ha : a.ok) (hl : a.l ≤ 1100) (hm : (a.o : Int).tmod 8 = 3) :
    Calls Tryd.prog 25 #[x.val, a.val] w fun e w' => ∃ (y : StV) (D' : Dk) (S' : RS), e = .returned (.tuple #[y.val, .bool true]) ∧ Sto F (k + 1) sec n N M w' y D' S' ∧ Below w.heap.size w w' := by
  have hp := H.sim.pok
  have HTb := hid hT
  have HH := hid H
  have Hn : Hid (a.n < 256 ∧ a.f < 256 ∧ a.l ≤ 1100 ∧ a.ch < 18446744073709551616) := hid ⟨ha.n, ha.f, hl, ha.c⟩
  have HV := hid H.v.lt
  have en := IntWalk.i64_in (a.n : Int) (by have := ha.n; omega)
  have ef := IntWalk.i64_in (a.f : Int) (by have := ha.f; omega)
  have el := IntWalk.i64_in (a.l : Int) (by omega)
  clear H hT ha hl
  go_enter Tryd.func25, Tryd.ntmps25
  unfold StV.val Ac.val
  go_upto_region 11 with ((with_reducible refine is_alloc 63 ?_); generalize hw3 : World.alloc (World.alloc w _) _ = v3; have hs3 : v3.heap.size = w.heap.size + 1 + 1 := (by rw [← hw3]; simp); obtain ⟨kx, ka, B⟩ := two_boxes_r (cs1 := x.cs) (cs2 := a.cs) hw3; refine wp_allocN (w.heap.size + 1 + 1) hs3 _ arrSto ?_; intro w5 kr b5 s5; go_frame; replace kx := kx.below b5 (by omega); replace ka := ka.below b5 (by omega); replace B := B.trans (b5.mono (by omega)); obtain ⟨y0, y1, y2, y3, y4⟩ := ka.c5; have la := ka.lt; have lr := kr.lt; clear hw3 hs3 b5 s5)
  obtain ⟨er, S', hS', HP0, HR0⟩ := plan_free (HH.out.keep B) a.n (by have := Hn.out; omega)
  have HP := hid HP0
  have HR := hid HR0
  clear HP0 HR0
  go_wp2_with ((with_reducible refine is_load 37 ?_); refine wp_loadTP w.heap.size x hp kx rfl ?_; go_frame)
  refine (HP.out _ (Below.refl _ _)).mono ?_
  rintro e w6 ⟨y, D', rfl, hG, b6⟩
  replace kx := kx.keep b6
  replace ka := ka.keep b6
  replace kr := kr.keep b6
  have B6 := B.trans (b6.mono B.size)
  clear b6 B y0 y1 y2 y3 y4 la lr
  have hq := hG.sim.pok
  obtain ⟨z0, z1, z2, z3, z4⟩ := ka.c5
  have la := ka.lt
  have lx := kx.lt
  go_wp2_with (first
    | ((with_reducible refine is_store 37 ?_); refine wp_storeTP w.heap.size x y hp hq kx rfl rfl ?_; intro w7 kx7 r7; go_frame; have ka7 := ka.grown r7 (by simp); obtain ⟨y0, y1, y2, y3, y4⟩ := ka7.c5; have la7 := ka7.lt; have lx7 := kx7.lt)
    | ((with_reducible refine is_load 60 ?_); refine wp_loadTV w.heap.size ⟨y, x.v, x.sec⟩ hq kx7 rfl ?_; go_frame))
  have kr7 := kr.grown r7 (by simp; omega)
  have lr7 := kr7.lt
  have hG7 := hG.kept (Kept.grown r7 kx notSto)
  have B7 := B6.grown r7 B6.size (fun z hz => by cases hz; omega)
  have hv7 : RVr (fun b => M b ∧ b < w.heap.size ∨ w.heap.size + 1 + 1 < b) w7 x.v S := ((HV.out.keep B6).grown r7 (fun g hg => by cases hg; omega)).mono fun b hb => .inl hb
  clear kx ka kr r7 B6 hG z0 z1 z2 z3 z4 la lx
  refine (HR.out _ w7 hv7 (fun b hb => .inr (by omega))).mono ?_
  rintro e w8 ⟨v', rfl, hv8, b8⟩
  replace kx7 := kx7.keep b8
  replace kr7 := kr7.keep b8
  have B8 := B7.trans (b8.mono B7.size)
  have hG8 := hG7.keep b8
  clear b8 B7 hG7 hv7 y0 y1 y2 y3 y4 la7 ka7 lr7 lx7
  have hee : (er == er) = true := beq_self_eq_true _
  go_wp2_with (first
    | ((with_reducible refine is_store 60 ?_); refine wp_storeTV w.heap.size ⟨y, x.v, x.sec⟩ v' hq kx7 rfl rfl ?_; intro w9 kx9 r9; go_frame)
    | ((with_reducible refine is_load 63 ?_); refine wp_loadT w.heap.size ⟨y, v', x.sec⟩ hq kx9 rfl ?_; go_frame)
    | ((with_reducible refine is_store 63 ?_); refine wp_storeT (w.heap.size + 1 + 1) _ ⟨y, v', x.sec⟩ hq (kr7.grown r9 (by simp; omega)) (by rw [StV.cs_len Pgr.zero_ok]) rfl rfl ?_; intro w10 kr10 r10; go_frame))
  have kr9 := kr7.grown r9 (by simp; omega)
  have hG10 := (hG8.kept (Kept.grown r9 kx7 notSto)).kept (Kept.grown r10 kr9 notSto)
  have B9 := B8.grown r9 B8.size (fun z hz => by cases hz; omega)
  have B10 := B9.grown r10 B9.size (fun z hz => by cases hz; omega)
  have hv10 := ((hv8.grown r9 (fun g hg => by cases hg; omega)).grown r10 (fun g hg => by cases hg; omega)).mono (fun b hb => hb.elim (fun h => h.1) (fun h => hM b (by omega)))
  exact bodyPost_ret (results_T2 Tryd.results25 _ _ (w.heap.size + 1 + 1) ⟨y, v', x.sec⟩ hq rfl kr10) rfl ⟨⟨y, v', x.sec⟩, rfl, ⟨D', S', hG10.sim, HH.out.s1, hG10.sec, hS', hG10.dn, hG10.d, hv10⟩, B10⟩
set_option maxRecDepth 100000 in
set_option maxHeartbeats 8000000 in
theorem do_commit4 {F : Secs} {k sec n N : Nat} {M : Nat → Prop} (x : StV) (a : Ac) (D : Dk) (S : RS) (w : World) (hT : Tab w) (H : Sto F k sec n N M w x D S) (hM : ∀ b, w.heap.size ≤ b → M b) (hk : k ≤ 1000) (ha : a.ok) (hl : a.l ≤ 1100) (hm : (a.o : Int).tmod 8 = 4) :
    Calls Tryd.prog 25 #[x.val, a.val] w fun e w' => ∃ (y : StV) (D' : Dk) (S' : RS), e = .returned (.tuple #[y.val, .bool true]) ∧ Sto F (k + 1) sec n N M w' y D' S' ∧ Below w.heap.size w w' := by
  have hp := H.sim.pok
  have HTb := hid hT
  have HH := hid H
  have Hn : Hid (a.n < 256 ∧ a.f < 256 ∧ a.l ≤ 1100 ∧ a.ch < 18446744073709551616) := hid ⟨ha.n, ha.f, hl, ha.c⟩
  have HV := hid H.v.lt
  have en := IntWalk.i64_in (a.n : Int) (by have := ha.n; omega)
  have ef := IntWalk.i64_in (a.f : Int) (by have := ha.f; omega)
  have el := IntWalk.i64_in (a.l : Int) (by omega)
  clear H hT ha hl
  go_enter Tryd.func25, Tryd.ntmps25
  unfold StV.val Ac.val
  go_upto_region 15 with ((with_reducible refine is_alloc 63 ?_); generalize hw3 : World.alloc (World.alloc w _) _ = v3; have hs3 : v3.heap.size = w.heap.size + 1 + 1 := (by rw [← hw3]; simp); obtain ⟨kx, ka, B⟩ := two_boxes_r (cs1 := x.cs) (cs2 := a.cs) hw3; refine wp_allocN (w.heap.size + 1 + 1) hs3 _ arrSto ?_; intro w5 kr b5 s5; go_frame; replace kx := kx.below b5 (by omega); replace ka := ka.below b5 (by omega); replace B := B.trans (b5.mono (by omega)); obtain ⟨y0, y1, y2, y3, y4⟩ := ka.c5; have la := ka.lt; have lr := kr.lt; clear hw3 hs3 b5 s5)
  obtain ⟨fb, hfb⟩ : ∃ z : Nat, z = a.f % 2 := ⟨_, rfl⟩
  have hf2 : (a.f : Int).tmod 2 = (fb : Int) := by rw [Int.tmod_eq_emod_of_nonneg (by omega)]; omega
  have hfl : fb < 2 := by omega
  have e5 := IntWalk.i64_in (fb : Int) (by omega)
  obtain ⟨rt, hrt⟩ : ∃ z : Nat, z = a.n * fb := ⟨_, rfl⟩
  have hrl : rt ≤ 1023 := by
    have := Hn.out
    have h1 : a.n * fb ≤ a.n * 1 := Nat.mul_le_mul_left _ (by omega)
    omega
  have e6 : (a.n : Int) * (fb : Int) = (rt : Int) := by rw [hrt]; simp
  have e7 := IntWalk.i64_in (rt : Int) (by omega)
  have HE := hid (And.intro hfb hrt)
  clear hfb hrt
  go_wp2_with fail
  refine (bytesOf_any a.l a.f _ (by have := Hn.out; omega) (by have := Hn.out; omega)).mono ?_
  rintro e wb ⟨gb, rfl, hg1, hg2, hbr, bb⟩
  have hgb : w.heap.size + 1 + 1 < gb := by omega
  replace kx := kx.keep bb
  replace ka := ka.keep bb
  replace kr := kr.keep bb
  replace B := B.trans (bb.mono B.size)
  clear bb y0 y1 y2 y3 y4 la lr hg1
  obtain ⟨y0, y1, y2, y3, y4⟩ := ka.c5
  have la := ka.lt
  have lr := kr.lt
  obtain ⟨er, S', hS', HP0, HR0⟩ := plan_commit (HH.out.keep B) (by omega) (HTb.out.keep B) rt (some ⟨gb, 0, none⟩) a.l a.l (rep a.l a.f) hbr hrl
  have HP := hid HP0
  have HR := hid HR0
  clear HP0 HR0
  go_wp2_with ((with_reducible refine is_load 37 ?_); refine wp_loadTP w.heap.size x hp kx rfl ?_; go_frame)
  refine (HP.out _ (Below.refl _ _)).mono ?_
  rintro e w6 ⟨y, D', rfl, hG, b6⟩
  have hbr6 := RL.below hbr b6
  replace kx := kx.keep b6
  replace ka := ka.keep b6
  replace kr := kr.keep b6
  have B6 := B.trans (b6.mono B.size)
  clear b6 B y0 y1 y2 y3 y4 la lr
  have hq := hG.sim.pok
  obtain ⟨z0, z1, z2, z3, z4⟩ := ka.c5
  have la := ka.lt
  have lx := kx.lt
  go_wp2_with (first
    | ((with_reducible refine is_store 37 ?_); refine wp_storeTP w.heap.size x y hp hq kx rfl rfl ?_; intro w7 kx7 r7; go_frame; have ka7 := ka.grown r7 (by simp); obtain ⟨y0, y1, y2, y3, y4⟩ := ka7.c5; have la7 := ka7.lt; have lx7 := kx7.lt)
    | ((with_reducible refine is_load 60 ?_); refine wp_loadTV w.heap.size ⟨y, x.v, x.sec⟩ hq kx7 rfl ?_; go_frame))
  have kr7 := kr.grown r7 (by simp; omega)
  have lr7 := kr7.lt
  have hG7 := hG.kept (Kept.grown r7 kx notSto)
  have B7 := B6.grown r7 B6.size (fun z hz => by cases hz; omega)
  have hv7 : RVr (fun b => M b ∧ b < w.heap.size ∨ w.heap.size + 1 + 1 < b) w7 x.v S := ((HV.out.keep B6).grown r7 (fun g hg => by cases hg; omega)).mono fun b hb => .inl hb
  have hbr7 := RL.grown hbr6 r7 (fun q hq _ b' o' hb' => by cases hq; cases hb'; omega)
  have hs7 : SlR (fun b => M b ∧ b < w.heap.size ∨ w.heap.size + 1 + 1 < b) w7 ⟨some ⟨gb, 0, none⟩, a.l, a.l⟩ (rep a.l a.f) := ⟨⟨hbr7, fun b o hA _ => by cases hA; exact .inr hgb⟩, Nat.le_refl _, by show a.l ≤ _; have := Hn.out; omega⟩
  clear kx ka kr r7 B6 hG z0 z1 z2 z3 z4 la lx
  refine (HR.out _ w7 hv7 hs7).mono ?_
  rintro e w8 ⟨v', rfl, hv8, b8⟩
  replace kx7 := kx7.keep b8
  replace kr7 := kr7.keep b8
  have B8 := B7.trans (b8.mono B7.size)
  have hG8 := hG7.keep b8
  clear b8 B7 hG7 hv7 y0 y1 y2 y3 y4 la7 ka7 lr7 lx7
  have hee : (er == er) = true := beq_self_eq_true _
  go_wp2_with (first
    | ((with_reducible refine is_store 60 ?_); refine wp_storeTV w.heap.size ⟨y, x.v, x.sec⟩ v' hq kx7 rfl rfl ?_; intro w9 kx9 r9; go_frame)
    | ((with_reducible refine is_load 63 ?_); refine wp_loadT w.heap.size ⟨y, v', x.sec⟩ hq kx9 rfl ?_; go_frame)
    | ((with_reducible refine is_store 63 ?_); refine wp_storeT (w.heap.size + 1 + 1) _ ⟨y, v', x.sec⟩ hq (kr7.grown r9 (by simp; omega)) (by rw [StV.cs_len Pgr.zero_ok]) rfl rfl ?_; intro w10 kr10 r10; go_frame))
  have kr9 := kr7.grown r9 (by simp; omega)
  have hG10 := (hG8.kept (Kept.grown r9 kx7 notSto)).kept (Kept.grown r10 kr9 notSto)
  have B9 := B8.grown r9 B8.size (fun z hz => by cases hz; omega)
  have B10 := B9.grown r10 B9.size (fun z hz => by cases hz; omega)
  have hv10 := ((hv8.grown r9 (fun g hg => by cases hg; omega)).grown r10 (fun g hg => by cases hg; omega)).mono (fun b hb => hb.elim (fun h => h.1) (fun h => hM b (by omega)))
  exact bodyPost_ret (results_T2 Tryd.results25 _ _ (w.heap.size + 1 + 1) ⟨y, v', x.sec⟩ hq rfl kr10) rfl ⟨⟨y, v', x.sec⟩, rfl, ⟨D', S', hG10.sim, HH.out.s1, hG10.sec, hS', hG10.dn, hG10.d, hv10⟩, B10⟩
set_option maxRecDepth 100000 in
set_option maxHeartbeats 8000000 in
theorem do_commit5 {F : Secs} {k sec n N : Nat} {M : Nat → Prop} (x : StV) (a : Ac) (D : Dk) (S : RS) (w : World) (hT : Tab w) (H : Sto F k sec n N M w x D S) (hM : ∀ b, w.heap.size ≤ b → M b) (hk : k ≤ 1000) (ha : a.ok) (hl : a.l ≤ 1100) (hm : (a.o : Int).tmod 8 = 5) :
    Calls Tryd.prog 25 #[x.val, a.val] w fun e w' => ∃ (y : StV) (D' : Dk) (S' : RS), e = .returned (.tuple #[y.val, .bool true]) ∧ Sto F (k + 1) sec n N M w' y D' S' ∧ Below w.heap.size w w' := by
  have hp := H.sim.pok
  have HTb := hid hT
  have HH := hid H
  have Hn : Hid (a.n < 256 ∧ a.f < 256 ∧ a.l ≤ 1100 ∧ a.ch < 18446744073709551616) := hid ⟨ha.n, ha.f, hl, ha.c⟩
  have HV := hid H.v.lt
  have en := IntWalk.i64_in (a.n : Int) (by have := ha.n; omega)
  have ef := IntWalk.i64_in (a.f : Int) (by have := ha.f; omega)
  have el := IntWalk.i64_in (a.l : Int) (by omega)
  clear H hT ha hl
  go_enter Tryd.func25, Tryd.ntmps25
  unfold StV.val Ac.val
  go_upto_region 15 with ((with_reducible refine is_alloc 63 ?_); generalize hw3 : World.alloc (World.alloc w _) _ = v3; have hs3 : v3.heap.size = w.heap.size + 1 + 1 := (by rw [← hw3]; simp); obtain ⟨kx, ka, B⟩ := two_boxes_r (cs1 := x.cs) (cs2 := a.cs) hw3; refine wp_allocN (w.heap.size + 1 + 1) hs3 _ arrSto ?_; intro w5 kr b5 s5; go_frame; replace kx := kx.below b5 (by omega); replace ka := ka.below b5 (by omega); replace B := B.trans (b5.mono (by omega)); obtain ⟨y0, y1, y2, y3, y4⟩ := ka.c5; have la := ka.lt; have lr := kr.lt; clear hw3 hs3 b5 s5)
  obtain ⟨fb, hfb⟩ : ∃ z : Nat, z = a.f % 2 := ⟨_, rfl⟩
  have hf2 : (a.f : Int).tmod 2 = (fb : Int) := by rw [Int.tmod_eq_emod_of_nonneg (by omega)]; omega
  have hfl : fb < 2 := by omega
  have e5 := IntWalk.i64_in (fb : Int) (by omega)
  obtain ⟨rt, hrt⟩ : ∃ z : Nat, z = a.n * fb := ⟨_, rfl⟩
  have hrl : rt ≤ 1023 := by
    have := Hn.out
    have h1 : a.n * fb ≤ a.n * 1 := Nat.mul_le_mul_left _ (by omega)
    omega
  have e6 : (a.n : Int) * (fb : Int) = (rt : Int) := by rw [hrt]; simp
  have e7 := IntWalk.i64_in (rt : Int) (by omega)
  have HE := hid (And.intro hfb hrt)
  clear hfb hrt
  go_wp2_with fail
  refine (bytesOf_any a.l a.f _ (by have := Hn.out; omega) (by have := Hn.out; omega)).mono ?_
  rintro e wb ⟨gb, rfl, hg1, hg2, hbr, bb⟩
  have hgb : w.heap.size + 1 + 1 < gb := by omega
  replace kx := kx.keep bb
  replace ka := ka.keep bb
  replace kr := kr.keep bb
  replace B := B.trans (bb.mono B.size)
  clear bb y0 y1 y2 y3 y4 la lr hg1
  obtain ⟨y0, y1, y2, y3, y4⟩ := ka.c5
  have la := ka.lt
  have lr := kr.lt
  obtain ⟨er, S', hS', HP0, HR0⟩ := plan_commit (HH.out.keep B) (by omega) (HTb.out.keep B) rt (some ⟨gb, 0, none⟩) a.l a.l (rep a.l a.f) hbr hrl
  have HP := hid HP0
  have HR := hid HR0
  clear HP0 HR0
  go_wp2_with ((with_reducible refine is_load 37 ?_); refine wp_loadTP w.heap.size x hp kx rfl ?_; go_frame)
  refine (HP.out _ (Below.refl _ _)).mono ?_
  rintro e w6 ⟨y, D', rfl, hG, b6⟩
  have hbr6 := RL.below hbr b6
  replace kx := kx.keep b6
  replace ka := ka.keep b6
  replace kr := kr.keep b6
  have B6 := B.trans (b6.mono B.size)
  clear b6 B y0 y1 y2 y3 y4 la lr
  have hq := hG.sim.pok
  obtain ⟨z0, z1, z2, z3, z4⟩ := ka.c5
  have la := ka.lt
  have lx := kx.lt
  go_wp2_with (first
    | ((with_reducible refine is_store 37 ?_); refine wp_storeTP w.heap.size x y hp hq kx rfl rfl ?_; intro w7 kx7 r7; go_frame; have ka7 := ka.grown r7 (by simp); obtain ⟨y0, y1, y2, y3, y4⟩ := ka7.c5; have la7 := ka7.lt; have lx7 := kx7.lt)
    | ((with_reducible refine is_load 60 ?_); refine wp_loadTV w.heap.size ⟨y, x.v, x.sec⟩ hq kx7 rfl ?_; go_frame))
  have kr7 := kr.grown r7 (by simp; omega)
  have lr7 := kr7.lt
  have hG7 := hG.kept (Kept.grown r7 kx notSto)
  have B7 := B6.grown r7 B6.size (fun z hz => by cases hz; omega)
  have hv7 : RVr (fun b => M b ∧ b < w.heap.size ∨ w.heap.size + 1 + 1 < b) w7 x.v S := ((HV.out.keep B6).grown r7 (fun g hg => by cases hg; omega)).mono fun b hb => .inl hb
  have hbr7 := RL.grown hbr6 r7 (fun q hq _ b' o' hb' => by cases hq; cases hb'; omega)
  have hs7 : SlR (fun b => M b ∧ b < w.heap.size ∨ w.heap.size + 1 + 1 < b) w7 ⟨some ⟨gb, 0, none⟩, a.l, a.l⟩ (rep a.l a.f) := ⟨⟨hbr7, fun b o hA _ => by cases hA; exact .inr hgb⟩, Nat.le_refl _, by show a.l ≤ _; have := Hn.out; omega⟩
  clear kx ka kr r7 B6 hG z0 z1 z2 z3 z4 la lx
  refine (HR.out _ w7 hv7 hs7).mono ?_
  rintro e w8 ⟨v', rfl, hv8, b8⟩
  replace kx7 := kx7.keep b8
  replace kr7 := kr7.keep b8
  have B8 := B7.trans (b8.mono B7.size)
  have hG8 := hG7.keep b8
  clear b8 B7 hG7 hv7 y0 y1 y2 y3 y4 la7 ka7 lr7 lx7
  have hee : (er == er) = true := beq_self_eq_true _
  go_wp2_with (first
    | ((with_reducible refine is_store 60 ?_); refine wp_storeTV w.heap.size ⟨y, x.v, x.sec⟩ v' hq kx7 rfl rfl ?_; intro w9 kx9 r9; go_frame)
    | ((with_reducible refine is_load 63 ?_); refine wp_loadT w.heap.size ⟨y, v', x.sec⟩ hq kx9 rfl ?_; go_frame)
    | ((with_reducible refine is_store 63 ?_); refine wp_storeT (w.heap.size + 1 + 1) _ ⟨y, v', x.sec⟩ hq (kr7.grown r9 (by simp; omega)) (by rw [StV.cs_len Pgr.zero_ok]) rfl rfl ?_; intro w10 kr10 r10; go_frame))
  have kr9 := kr7.grown r9 (by simp; omega)
  have hG10 := (hG8.kept (Kept.grown r9 kx7 notSto)).kept (Kept.grown r10 kr9 notSto)
  have B9 := B8.grown r9 B8.size (fun z hz => by cases hz; omega)
  have B10 := B9.grown r10 B9.size (fun z hz => by cases hz; omega)
  have hv10 := ((hv8.grown r9 (fun g hg => by cases hg; omega)).grown r10 (fun g hg => by cases hg; omega)).mono (fun b hb => hb.elim (fun h => h.1) (fun h => hM b (by omega)))
  exact bodyPost_ret (results_T2 Tryd.results25 _ _ (w.heap.size + 1 + 1) ⟨y, v', x.sec⟩ hq rfl kr10) rfl ⟨⟨y, v', x.sec⟩, rfl, ⟨D', S', hG10.sim, HH.out.s1, hG10.sec, hS', hG10.dn, hG10.d, hv10⟩, B10⟩
set_option maxRecDepth 100000 in
set_option maxHeartbeats 8000000 in
theorem do_alloc0 {F : Secs} {k sec n N : Nat} {M : Nat → Prop} (x : StV) (a : Ac) (D : Dk) (S : RS) (w : World) (hT : Tab w) (H : Sto F k sec n N M w x D S) (hM : ∀ b, w.heap.size ≤ b → M b) (hk : k ≤ 1000) (ha : a.ok) (hl : a.l ≤ 1100) (hm : (a.o : Int).tmod 8 = 0) :
    Calls Tryd.prog 25 #[x.val, a.val] w fun e w' => ∃ (y : StV) (D' : Dk) (S' : RS), e = .returned (.tuple #[y.val, .bool true]) ∧ Sto F (k + 1) sec n N M w' y D' S' ∧ Below w.heap.size w w' := by
  have hp := H.sim.pok
  have HTb := hid hT
  have HH := hid H
  have Hn : Hid (a.n < 256 ∧ a.f < 256 ∧ a.l ≤ 1100 ∧ a.ch < 18446744073709551616) := hid ⟨ha.n, ha.f, hl, ha.c⟩
  have HV := hid H.v.lt
  have en := IntWalk.i64_in (a.n : Int) (by have := ha.n; omega)
  have ef := IntWalk.i64_in (a.f : Int) (by have := ha.f; omega)
  have el := IntWalk.i64_in (a.l : Int) (by omega)
  clear H hT ha hl
  go_enter Tryd.func25, Tryd.ntmps25
  unfold StV.val Ac.val
  go_upto_region 4 with ((with_reducible refine is_alloc 63 ?_); generalize hw3 : World.alloc (World.alloc w _) _ = v3; have hs3 : v3.heap.size = w.heap.size + 1 + 1 := (by rw [← hw3]; simp); obtain ⟨kx, ka, B⟩ := two_boxes_r (cs1 := x.cs) (cs2 := a.cs) hw3; refine wp_allocN (w.heap.size + 1 + 1) hs3 _ arrSto ?_; intro w5 kr b5 s5; go_frame; replace kx := kx.below b5 (by omega); replace ka := ka.below b5 (by omega); replace B := B.trans (b5.mono (by omega)); obtain ⟨y0, y1, y2, y3, y4⟩ := ka.c5; have la := ka.lt; have lr := kr.lt; clear hw3 hs3 b5 s5)
  go_wp2_with fail
  refine (bytesOf_any a.l a.f _ (by have := Hn.out; omega) (by have := Hn.out; omega)).mono ?_
  rintro e wb ⟨gb, rfl, hg1, hg2, hbr, bb⟩
  have hgb : w.heap.size + 1 + 1 < gb := by omega
  replace kx := kx.keep bb
  replace ka := ka.keep bb
  replace kr := kr.keep bb
  replace B := B.trans (bb.mono B.size)
  clear bb y0 y1 y2 y3 y4 la lr hg1
  obtain ⟨y0, y1, y2, y3, y4⟩ := ka.c5
  have la := ka.lt
  have lr := kr.lt
  obtain ⟨er, id, S', hS', HP0, HR0⟩ := plan_alloc (HH.out.keep B) (by omega) (HTb.out.keep B) (some ⟨gb, 0, none⟩) a.l a.l (rep a.l a.f) hbr (Nat.le_refl _) (by have := Hn.out; omega)
  have HP := hid HP0
  have HR := hid HR0
  clear HP0 HR0
  have hne : ((id : Int) != (id : Int)) = false := by simp
  go_wp2_with ((with_reducible refine is_load 37 ?_); refine wp_loadTP w.heap.size x hp kx rfl ?_; go_frame)
  refine (HP.out _ (Below.refl _ _)).mono ?_
  rintro e w6 ⟨y, D', rfl, hG, b6⟩
  have hbr6 := RL.below hbr b6
  replace kx := kx.keep b6
  replace ka := ka.keep b6
  replace kr := kr.keep b6
  have B6 := B.trans (b6.mono B.size)
  clear b6 B y0 y1 y2 y3 y4 la lr
  have hq := hG.sim.pok
  obtain ⟨z0, z1, z2, z3, z4⟩ := ka.c5
  have la := ka.lt
  have lx := kx.lt
  go_wp2_with (first
    | ((with_reducible refine is_store 37 ?_); refine wp_storeTP w.heap.size x y hp hq kx rfl rfl ?_; intro w7 kx7 r7; go_frame; have ka7 := ka.grown r7 (by simp); obtain ⟨y0, y1, y2, y3, y4⟩ := ka7.c5; have la7 := ka7.lt; have lx7 := kx7.lt)
    | ((with_reducible refine is_load 60 ?_); refine wp_loadTV w.heap.size ⟨y, x.v, x.sec⟩ hq kx7 rfl ?_; go_frame))
  have kr7 := kr.grown r7 (by simp; omega)
  have lr7 := kr7.lt
  have hG7 := hG.kept (Kept.grown r7 kx notSto)
  have B7 := B6.grown r7 B6.size (fun z hz => by cases hz; omega)
  have hv7 : RVr (fun b => M b ∧ b < w.heap.size ∨ w.heap.size + 1 + 1 < b) w7 x.v S := ((HV.out.keep B6).grown r7 (fun g hg => by cases hg; omega)).mono fun b hb => .inl hb
  have hbr7 := RL.grown hbr6 r7 (fun q hq _ b' o' hb' => by cases hq; cases hb'; omega)
  have hs7 : SlR (fun b => M b ∧ b < w.heap.size ∨ w.heap.size + 1 + 1 < b) w7 ⟨some ⟨gb, 0, none⟩, a.l, a.l⟩ (rep a.l a.f) := ⟨⟨hbr7, fun b o hA _ => by cases hA; exact .inr hgb⟩, Nat.le_refl _, by show a.l ≤ _; have := Hn.out; omega⟩
  clear kx ka kr r7 B6 hG z0 z1 z2 z3 z4 la lx
  refine (HR.out _ w7 hv7 (fun b hb => .inr (by omega)) hs7).mono ?_
  rintro e w8 ⟨v', rfl, hv8, b8⟩
  replace kx7 := kx7.keep b8
  replace kr7 := kr7.keep b8
  have B8 := B7.trans (b8.mono B7.size)
  have hG8 := hG7.keep b8
  clear b8 B7 hG7 hv7 y0 y1 y2 y3 y4 la7 ka7 lr7 lx7
  have hee : (er == er) = true := beq_self_eq_true _
  go_wp2_with (first
    | ((with_reducible refine is_store 60 ?_); refine wp_storeTV w.heap.size ⟨y, x.v, x.sec⟩ v' hq kx7 rfl rfl ?_; intro w9 kx9 r9; go_frame)
    | ((with_reducible refine is_load 63 ?_); refine wp_loadT w.heap.size ⟨y, v', x.sec⟩ hq kx9 rfl ?_; go_frame)
    | ((with_reducible refine is_store 63 ?_); refine wp_storeT (w.heap.size + 1 + 1) _ ⟨y, v', x.sec⟩ hq (kr7.grown r9 (by simp; omega)) (by rw [StV.cs_len Pgr.zero_ok]) rfl rfl ?_; intro w10 kr10 r10; go_frame))
  have kr9 := kr7.grown r9 (by simp; omega)
  have hG10 := (hG8.kept (Kept.grown r9 kx7 notSto)).kept (Kept.grown r10 kr9 notSto)
  have B9 := B8.grown r9 B8.size (fun z hz => by cases hz; omega)
  have B10 := B9.grown r10 B9.size (fun z hz => by cases hz; omega)
  have hv10 := ((hv8.grown r9 (fun g hg => by cases hg; omega)).grown r10 (fun g hg => by cases hg; omega)).mono (fun b hb => hb.elim (fun h => h.1) (fun h => hM b (by omega)))
  exact bodyPost_ret (results_T2 Tryd.results25 _ _ (w.heap.size + 1 + 1) ⟨y, v', x.sec⟩ hq rfl kr10) rfl ⟨⟨y, v', x.sec⟩, rfl, ⟨D', S', hG10.sim, HH.out.s1, hG10.sec, hS', hG10.dn, hG10.d, hv10⟩, B10⟩
set_option maxRecDepth 100000 in
set_option maxHeartbeats 8000000 in
theorem do_alloc1 {F : Secs} {k sec n N : Nat} {M : Nat → Prop} (x : StV) (a : Ac) (D : Dk) (S : RS) (w : World) (hT : Tab w) (H : Sto F k sec n N M w x D S) (hM : ∀ b, w.heap.size ≤ b → M b) (hk : k ≤ 1000) (ha : a.ok) (hl : a.l ≤ 1100) (hm : (a.o : Int).tmod 8 = 1) :
    Calls Tryd.prog 25 #[x.val, a.val] w fun e w' => ∃ (y : StV) (D' : Dk) (S' : RS), e = .returned (.tuple #[y.val, .bool true]) ∧ Sto F (k + 1) sec n N M w' y D' S' ∧ Below w.heap.size w w' := by
  have hp := H.sim.pok
  have HTb := hid hT
  have HH := hid H
  have Hn : Hid (a.n < 256 ∧ a.f < 256 ∧ a.l ≤ 1100 ∧ a.ch < 18446744073709551616) := hid ⟨ha.n, ha.f, hl, ha.c⟩
  have HV := hid H.v.lt
  have en := IntWalk.i64_in (a.n : Int) (by have := ha.n; omega)
  have ef := IntWalk.i64_in (a.f : Int) (by have := ha.f; omega)
  have el := IntWalk.i64_in (a.l : Int) (by omega)
  clear H hT ha hl
  go_enter Tryd.func25, Tryd.ntmps25
  unfold StV.val Ac.val
  go_upto_region 4 with ((with_reducible refine is_alloc 63 ?_); generalize hw3 : World.alloc (World.alloc w _) _ = v3; have hs3 : v3.heap.size = w.heap.size + 1 + 1 := (by rw [← hw3]; simp); obtain ⟨kx, ka, B⟩ := two_boxes_r (cs1 := x.cs) (cs2 := a.cs) hw3; refine wp_allocN (w.heap.size + 1 + 1) hs3 _ arrSto ?_; intro w5 kr b5 s5; go_frame; replace kx := kx.below b5 (by omega); replace ka := ka.below b5 (by omega); replace B := B.trans (b5.mono (by omega)); obtain ⟨y0, y1, y2, y3, y4⟩ := ka.c5; have la := ka.lt; have lr := kr.lt; clear hw3 hs3 b5 s5)
  go_wp2_with fail
  refine (bytesOf_any a.l a.f _ (by have := Hn.out; omega) (by have := Hn.out; omega)).mono ?_
  rintro e wb ⟨gb, rfl, hg1, hg2, hbr, bb⟩
  have hgb : w.heap.size + 1 + 1 < gb := by omega
  replace kx := kx.keep bb
  replace ka := ka.keep bb
  replace kr := kr.keep bb
  replace B := B.trans (bb.mono B.size)
  clear bb y0 y1 y2 y3 y4 la lr hg1
  obtain ⟨y0, y1, y2, y3, y4⟩ := ka.c5
  have la := ka.lt
  have lr := kr.lt
  obtain ⟨er, id, S', hS', HP0, HR0⟩ := plan_alloc (HH.out.keep B) (by omega) (HTb.out.keep B) (some ⟨gb, 0, none⟩) a.l a.l (rep a.l a.f) hbr (Nat.le_refl _) (by have := Hn.out; omega)
  have HP := hid HP0
  have HR := hid HR0
  clear HP0 HR0
  have hne : ((id : Int) != (id : Int)) = false := by simp
  go_wp2_with ((with_reducible refine is_load 37 ?_); refine wp_loadTP w.heap.size x hp kx rfl ?_; go_frame)
  refine (HP.out _ (Below.refl _ _)).mono ?_
  rintro e w6 ⟨y, D', rfl, hG, b6⟩
  have hbr6 := RL.below hbr b6
  replace kx := kx.keep b6
  replace ka := ka.keep b6
  replace kr := kr.keep b6
  have B6 := B.trans (b6.mono B.size)
  clear b6 B y0 y1 y2 y3 y4 la lr
  have hq := hG.sim.pok
  obtain ⟨z0, z1, z2, z3, z4⟩ := ka.c5
  have la := ka.lt
  have lx := kx.lt
  go_wp2_with (first
    | ((with_reducible refine is_store 37 ?_); refine wp_storeTP w.heap.size x y hp hq kx rfl rfl ?_; intro w7 kx7 r7; go_frame; have ka7 := ka.grown r7 (by simp); obtain ⟨y0, y1, y2, y3, y4⟩ := ka7.c5; have la7 := ka7.lt; have lx7 := kx7.lt)
    | ((with_reducible refine is_load 60 ?_); refine wp_loadTV w.heap.size ⟨y, x.v, x.sec⟩ hq kx7 rfl ?_; go_frame))
  have kr7 := kr.grown r7 (by simp; omega)
  have lr7 := kr7.lt
  have hG7 := hG.kept (Kept.grown r7 kx notSto)
  have B7 := B6.grown r7 B6.size (fun z hz => by cases hz; omega)
  have hv7 : RVr (fun b => M b ∧ b < w.heap.size ∨ w.heap.size + 1 + 1 < b) w7 x.v S := ((HV.out.keep B6).grown r7 (fun g hg => by cases hg; omega)).mono fun b hb => .inl hb
  have hbr7 := RL.grown hbr6 r7 (fun q hq _ b' o' hb' => by cases hq; cases hb'; omega)
  have hs7 : SlR (fun b => M b ∧ b < w.heap.size ∨ w.heap.size + 1 + 1 < b) w7 ⟨some ⟨gb, 0, none⟩, a.l, a.l⟩ (rep a.l a.f) := ⟨⟨hbr7, fun b o hA _ => by cases hA; exact .inr hgb⟩, Nat.le_refl _, by show a.l ≤ _; have := Hn.out; omega⟩
  clear kx ka kr r7 B6 hG z0 z1 z2 z3 z4 la lx
  refine (HR.out _ w7 hv7 (fun b hb => .inr (by omega)) hs7).mono ?_
  rintro e w8 ⟨v', rfl, hv8, b8⟩
  replace kx7 := kx7.keep b8
  replace kr7 := kr7.keep b8
  have B8 := B7.trans (b8.mono B7.size)
  have hG8 := hG7.keep b8
  clear b8 B7 hG7 hv7 y0 y1 y2 y3 y4 la7 ka7 lr7 lx7
  have hee : (er == er) = true := beq_self_eq_true _
  go_wp2_with (first
    | ((with_reducible refine is_store 60 ?_); refine wp_storeTV w.heap.size ⟨y, x.v, x.sec⟩ v' hq kx7 rfl rfl ?_; intro w9 kx9 r9; go_frame)
    | ((with_reducible refine is_load 63 ?_); refine wp_loadT w.heap.size ⟨y, v', x.sec⟩ hq kx9 rfl ?_; go_frame)
    | ((with_reducible refine is_store 63 ?_); refine wp_storeT (w.heap.size + 1 + 1) _ ⟨y, v', x.sec⟩ hq (kr7.grown r9 (by simp; omega)) (by rw [StV.cs_len Pgr.zero_ok]) rfl rfl ?_; intro w10 kr10 r10; go_frame))
  have kr9 := kr7.grown r9 (by simp; omega)
  have hG10 := (hG8.kept (Kept.grown r9 kx7 notSto)).kept (Kept.grown r10 kr9 notSto)
  have B9 := B8.grown r9 B8.size (fun z hz => by cases hz; omega)
  have B10 := B9.grown r10 B9.size (fun z hz => by cases hz; omega)
  have hv10 := ((hv8.grown r9 (fun g hg => by cases hg; omega)).grown r10 (fun g hg => by cases hg; omega)).mono (fun b hb => hb.elim (fun h => h.1) (fun h => hM b (by omega)))
  exact bodyPost_ret (results_T2 Tryd.results25 _ _ (w.heap.size + 1 + 1) ⟨y, v', x.sec⟩ hq rfl kr10) rfl ⟨⟨y, v', x.sec⟩, rfl, ⟨D', S', hG10.sim, HH.out.s1, hG10.sec, hS', hG10.dn, hG10.d, hv10⟩, B10⟩
set_option maxRecDepth 100000 in
set_option maxHeartbeats 8000000 in
theorem do_alloc2 {F : Secs} {k sec n N : Nat} {M : Nat → Prop} (x : StV) (a : Ac) (D : Dk) (S : RS) (w : World) (hT : Tab w) (H : Sto F k sec n N M w x D S) (hM : ∀ b, w.heap.size ≤ b → M b) (hk : k ≤ 1000) (ha : a.ok) (hl : a.l ≤ 1100) (hm : (a.o : Int).tmod 8 = 2) :
    Calls Tryd.prog 25 #[x.val, a.val] w fun e w' => ∃ (y : StV) (D' : Dk) (S' : RS), e = .returned (.tuple #[y.val, .bool true]) ∧ Sto F (k + 1) sec n N M w' y D' S' ∧ Below w.heap.size w w' := by
  have hp := H.sim.pok
  have HTb := hid hT
  have HH := hid H
  have Hn : Hid (a.n < 256 ∧ a.f < 256 ∧ a.l ≤ 1100 ∧ a.ch < 18446744073709551616) := hid ⟨ha.n, ha.f, hl, ha.c⟩
  have HV := hid H.v.lt
  have en := IntWalk.i64_in (a.n : Int) (by have := ha.n; omega)
  have ef := IntWalk.i64_in (a.f : Int) (by have := ha.f; omega)
  have el := IntWalk.i64_in (a.l : Int) (by omega)
  clear H hT ha hl
  go_enter Tryd.func25, Tryd.ntmps25
  unfold StV.val Ac.val
  go_upto_region 4 with ((with_reducible refine is_alloc 63 ?_); generalize hw3 : World.alloc (World.alloc w _) _ = v3; have hs3 : v3.heap.size = w.heap.size + 1 + 1 := (by rw [← hw3]; simp); obtain ⟨kx, ka, B⟩ := two_boxes_r (cs1 := x.cs) (cs2 := a.cs) hw3; refine wp_allocN (w.heap.size + 1 + 1) hs3 _ arrSto ?_; intro w5 kr b5 s5; go_frame; replace kx := kx.below b5 (by omega); replace ka := ka.below b5 (by omega); replace B := B.trans (b5.mono (by omega)); obtain ⟨y0, y1, y2, y3, y4⟩ := ka.c5; have la := ka.lt; have lr := kr.lt; clear hw3 hs3 b5 s5)
  go_wp2_with fail
  refine (bytesOf_any a.l a.f _ (by have := Hn.out; omega) (by have := Hn.out; omega)).mono ?_
  rintro e wb ⟨gb, rfl, hg1, hg2, hbr, bb⟩
  have hgb : w.heap.size + 1 + 1 < gb := by omega
  replace kx := kx.keep bb
  replace ka := ka.keep bb
  replace kr := kr.keep bb
  replace B := B.trans (bb.mono B.size)
  clear bb y0 y1 y2 y3 y4 la lr hg1
  obtain ⟨y0, y1, y2, y3, y4⟩ := ka.c5
  have la := ka.lt
  have lr := kr.lt
  obtain ⟨er, id, S', hS', HP0, HR0⟩ := plan_alloc (HH.out.keep B) (by omega) (HTb.out.keep B) (some ⟨gb, 0, none⟩) a.l a.l (rep a.l a.f) hbr (Nat.le_refl _) (by have := Hn.out; omega)
  have HP := hid HP0
  have HR := hid HR0
  clear HP0 HR0
  have hne : ((id : Int) != (id : Int)) = false := by simp
  go_wp2_with ((with_reducible refine is_load 37 ?_); refine wp_loadTP w.heap.size x hp kx rfl ?_; go_frame)
  refine (HP.out _ (Below.refl _ _)).mono ?_
  rintro e w6 ⟨y, D', rfl, hG, b6⟩
  have hbr6 := RL.below hbr b6
  replace kx := kx.keep b6
  replace ka := ka.keep b6
  replace kr := kr.keep b6
  have B6 := B.trans (b6.mono B.size)
  clear b6 B y0 y1 y2 y3 y4 la lr
  have hq := hG.sim.pok
  obtain ⟨z0, z1, z2, z3, z4⟩ := ka.c5
  have la := ka.lt
  have lx := kx.lt
  go_wp2_with (first
    | ((with_reducible refine is_store 37 ?_); refine wp_storeTP w.heap.size x y hp hq kx rfl rfl ?_; intro w7 kx7 r7; go_frame; have ka7 := ka.grown r7 (by simp); obtain ⟨y0, y1, y2, y3, y4⟩ := ka7.c5; have la7 := ka7.lt; have lx7 := kx7.lt)
    | ((with_reducible refine is_load 60 ?_); refine wp_loadTV w.heap.size ⟨y, x.v, x.sec⟩ hq kx7 rfl ?_; go_frame))
  have kr7 := kr.grown r7 (by simp; omega)
  have lr7 := kr7.lt
  have hG7 := hG.kept (Kept.grown r7 kx notSto)
  have B7 := B6.grown r7 B6.size (fun z hz => by cases hz; omega)
  have hv7 : RVr (fun b => M b ∧ b < w.heap.size ∨ w.heap.size + 1 + 1 < b) w7 x.v S := ((HV.out.keep B6).grown r7 (fun g hg => by cases hg; omega)).mono fun b hb => .inl hb
  have hbr7 := RL.grown hbr6 r7 (fun q hq _ b' o' hb' => by cases hq; cases hb'; omega)
  have hs7 : SlR (fun b => M b ∧ b < w.heap.size ∨ w.heap.size + 1 + 1 < b) w7 ⟨some ⟨gb, 0, none⟩, a.l, a.l⟩ (rep a.l a.f) := ⟨⟨hbr7, fun b o hA _ => by cases hA; exact .inr hgb⟩, Nat.le_refl _, by show a.l ≤ _; have := Hn.out; omega⟩
  clear kx ka kr r7 B6 hG z0 z1 z2 z3 z4 la lx
  refine (HR.out _ w7 hv7 (fun b hb => .inr (by omega)) hs7).mono ?_
  rintro e w8 ⟨v', rfl, hv8, b8⟩
  replace kx7 := kx7.keep b8
  replace kr7 := kr7.keep b8
  have B8 := B7.trans (b8.mono B7.size)
  have hG8 := hG7.keep b8
  clear b8 B7 hG7 hv7 y0 y1 y2 y3 y4 la7 ka7 lr7 lx7
  have hee : (er == er) = true := beq_self_eq_true _
  go_wp2_with (first
    | ((with_reducible refine is_store 60 ?_); refine wp_storeTV w.heap.size ⟨y, x.v, x.sec⟩ v' hq kx7 rfl rfl ?_; intro w9 kx9 r9; go_frame)
    | ((with_reducible refine is_load 63 ?_); refine wp_loadT w.heap.size ⟨y, v', x.sec⟩ hq kx9 rfl ?_; go_frame)
    | ((with_reducible refine is_store 63 ?_); refine wp_storeT (w.heap.size + 1 + 1) _ ⟨y, v', x.sec⟩ hq (kr7.grown r9 (by simp; omega)) (by rw [StV.cs_len Pgr.zero_ok]) rfl rfl ?_; intro w10 kr10 r10; go_frame))
  have kr9 := kr7.grown r9 (by simp; omega)
  have hG10 := (hG8.kept (Kept.grown r9 kx7 notSto)).kept (Kept.grown r10 kr9 notSto)
  have B9 := B8.grown r9 B8.size (fun z hz => by cases hz; omega)
  have B10 := B9.grown r10 B9.size (fun z hz => by cases hz; omega)
  have hv10 := ((hv8.grown r9 (fun g hg => by cases hg; omega)).grown r10 (fun g hg => by cases hg; omega)).mono (fun b hb => hb.elim (fun h => h.1) (fun h => hM b (by omega)))
  exact bodyPost_ret (results_T2 Tryd.results25 _ _ (w.heap.size + 1 + 1) ⟨y, v', x.sec⟩ hq rfl kr10) rfl ⟨⟨y, v', x.sec⟩, rfl, ⟨D', S', hG10.sim, HH.out.s1, hG10.sec, hS', hG10.dn, hG10.d, hv10⟩, B10⟩
end Go.Proofs.YtanglofabkbllaaDoor
set_option linter.unusedSimpArgs false
set_option linter.unusedVariables false
namespace Go.Proofs.YtanglofabkbllaaDoor
open Go.RowKit

set_option maxRecDepth 100000 in
set_option maxHeartbeats 8000000 in
theorem do_open {F : Secs} {k sec n N : Nat} {M : Nat → Prop} (x : StV) (a : Ac) (D : Dk) (S : RS) (w : World) (hT : Tab w) (H : Sto F k sec n N M w x D S) (hM : ∀ b, w.heap.size ≤ b → M b) (hk : k ≤ 1000) (ha : a.ok) (hl : a.l ≤ 1100) (hm : (a.o : Int).tmod 8 = 6) :
    Calls Tryd.prog 25 #[x.val, a.val] w fun e w' => ∃ (y : StV) (D' : Dk) (S' : RS), e = .returned (.tuple #[y.val, .bool true]) ∧ Sto F (k + 1) sec n N M w' y D' S' ∧ Below w.heap.size w w' := by
  have hp := H.sim.pok
  have HTb := hid hT
  have HH := hid H
  have Hn : Hid (a.n < 256 ∧ a.f < 256 ∧ a.l ≤ 1100 ∧ a.ch < 18446744073709551616) := hid ⟨ha.n, ha.f, hl, ha.c⟩
  have HV := hid H.v.lt
  have en := IntWalk.i64_in (a.n : Int) (by have := ha.n; omega)
  have ef := IntWalk.i64_in (a.f : Int) (by have := ha.f; omega)
  have el := IntWalk.i64_in (a.l : Int) (by omega)
  clear H hT ha hl
  go_enter Tryd.func25, Tryd.ntmps25
  unfold StV.val Ac.val
  go_upto_region 20 with ((with_reducible refine is_alloc 63 ?_); generalize hw3 : World.alloc (World.alloc w _) _ = v3; have hs3 : v3.heap.size = w.heap.size + 1 + 1 := (by rw [← hw3]; simp); obtain ⟨kx, ka, B⟩ := two_boxes_r (cs1 := x.cs) (cs2 := a.cs) hw3; refine wp_allocN (w.heap.size + 1 + 1) hs3 _ arrSto ?_; intro w5 kr b5 s5; go_frame; replace kx := kx.below b5 (by omega); replace ka := ka.below b5 (by omega); replace B := B.trans (b5.mono (by omega)); obtain ⟨y0, y1, y2, y3, y4⟩ := ka.c5; have la := ka.lt; have lr := kr.lt; clear hw3 hs3 b5 s5)
  obtain ⟨S', hSr⟩ : ∃ z, S.reopen = z := ⟨_, rfl⟩
  have hS' : S'.n = n := by rw [← hSr]; exact HH.out.n
  have HO := hid (fun wx (hb : Below w5.heap.size w5 wx) => plan_open HH.out.sim HH.out.s2 HH.out.n HH.out.dn x.p.d wx (HH.out.d.keep (B.trans (hb.mono B.size))) (HTb.out.keep (B.trans (hb.mono B.size))))
  rw [show (sec : Int) = (x.sec : Int) by rw [HH.out.s1], show (n : Int) = (x.v.n : Int) by rw [HV.out.n, HH.out.n], hSr] at HO
  have HSr := hid hSr
  clear hSr
  refine wp_region_headF 146 12 [104, 105, 106, 107, 108, 109, 110, 111, 112, 103, 113, 114] [11] ((fun kq => ([fun u w' => u = .pointer (some ⟨w.heap.size, 0, none⟩), fun u w' => u = x.p.v, fun u w' => u = x.p.d.v, fun u w' => u = .pointer (some ⟨w.heap.size, 273, none⟩), fun u w' => u = .int .i64 x.sec, fun u w' => u = .pointer (some ⟨w.heap.size, 266, none⟩), fun u w' => u = .pointer (some ⟨w.heap.size, 266, none⟩), fun u w' => u = .int .i64 x.v.n, fun u w' => ∃ (y : Pgr), ∃ (D' : Dk), u = .tuple #[y.v, .int .i64 0] ∧ Good F (k + 1) sec N w' y D' S', fun u w' => ∃ (y : Pgr), ∃ (D' : Dk), u = .tuple #[y.v, .int .i64 0] ∧ Good F (k + 1) sec N w' y D' S', fun u w' => ∃ (y : Pgr), ∃ (D' : Dk), u = y.v ∧ Good F (k + 1) sec N w' y D' S', fun u w' => u = .int .i64 0] : List (Value → World → Prop)).getD kq (fun _ _ => True))) (by kernel_rfl) rfl (by kernel_rfl) ?grow ?step ?tail
  case step =>
    simp only [List.take_succ_cons, List.take_zero]
    refine HSteps.cons ?_ ?_
    · intro f w' hb hU
      simp only [putAll, List.foldl_cons, List.foldl_nil]
      go_frame
      go_wp2_with fail
      exact ⟨rfl, _, rfl, Below.refl _ _, rfl⟩
    refine HSteps.cons ?_ ?_
    · intro f w' hb hU
      obtain u0 : f 104 = .pointer (some ⟨w.heap.size, 0, none⟩) := hU.get ⟨0, .data⟩ (by simp) rfl
      simp only [putAll, List.foldl_cons, List.foldl_nil]
      go_frame
      try simp only [u0]
      go_wp2_with ((with_reducible refine is_load 37 ?_); refine wp_loadTP w.heap.size x hp (kx.keep hb) rfl ?_; go_frame)
      exact ⟨rfl, _, rfl, Below.refl _ _, rfl⟩
    refine HSteps.cons ?_ ?_
    · intro f w' hb hU
      obtain u1 : f 105 = x.p.v := hU.get ⟨1, .data⟩ (by simp) rfl
      simp only [putAll, List.foldl_cons, List.foldl_nil]
      go_frame
      try simp only [u1]
      go_wp2_with fail
      refine (disk_any x.p w').mono ?_
      rintro e w3 ⟨rfl, b3⟩
      go_wp2_with fail
      exact ⟨rfl, _, rfl, b3, rfl⟩
    refine HSteps.cons ?_ ?_
    · intro f w' hb hU
      simp only [putAll, List.foldl_cons, List.foldl_nil]
      go_frame
      go_wp2_with fail
      exact ⟨rfl, _, rfl, Below.refl _ _, rfl⟩
    refine HSteps.cons ?_ ?_
    · intro f w' hb hU
      obtain u3 : f 107 = .pointer (some ⟨w.heap.size, 273, none⟩) := hU.get ⟨3, .data⟩ (by simp) rfl
      have yS := StV.cellS hp (kx.keep hb)
      simp only [putAll, List.foldl_cons, List.foldl_nil]
      go_frame
      try simp only [u3]
      go_wp2_with fail
      exact ⟨rfl, _, rfl, Below.refl _ _, rfl⟩
    refine HSteps.cons ?_ ?_
    · intro f w' hb hU
      simp only [putAll, List.foldl_cons, List.foldl_nil]
      go_frame
      go_wp2_with fail
      exact ⟨rfl, _, rfl, Below.refl _ _, rfl⟩
    refine HSteps.cons ?_ ?_
    · intro f w' hb hU
      obtain u5 : f 109 = .pointer (some ⟨w.heap.size, 266, none⟩) := hU.get ⟨5, .data⟩ (by simp) rfl
      simp only [putAll, List.foldl_cons, List.foldl_nil]
      go_frame
      try simp only [u5]
      go_wp2_with fail
      exact ⟨rfl, _, rfl, Below.refl _ _, rfl⟩
    refine HSteps.cons ?_ ?_
    · intro f w' hb hU
      obtain u6 : f 110 = .pointer (some ⟨w.heap.size, 266, none⟩) := hU.get ⟨6, .data⟩ (by simp) rfl
      have yN := StV.cellN hp (kx.keep hb)
      simp only [putAll, List.foldl_cons, List.foldl_nil]
      go_frame
      try simp only [u6]
      go_wp2_with fail
      exact ⟨rfl, _, rfl, Below.refl _ _, rfl⟩
    refine HSteps.cons ?_ ?_
    · intro f w' hb hU
      obtain u2 : f 106 = x.p.d.v := hU.get ⟨2, .data⟩ (by simp) rfl
      obtain u4 : f 108 = .int .i64 x.sec := hU.get ⟨4, .data⟩ (by simp) rfl
      obtain u7 : f 111 = .int .i64 x.v.n := hU.get ⟨7, .data⟩ (by simp) rfl
      simp only [putAll, List.foldl_cons, List.foldl_nil]
      go_frame
      try simp only [u2, u4, u7]
      go_wp2_with fail
      refine (HO.out w' hb).mono ?_
      rintro e w3 ⟨y, D', rfl, hG, b3⟩
      go_wp2_with fail
      exact ⟨rfl, _, rfl, b3, y, D', rfl, hG⟩
    refine HSteps.cons ?_ ?_
    · intro f w' hb hU
      obtain ⟨y, D', u8, v8_0⟩ : ∃ (y : Pgr), ∃ (D' : Dk), f 112 = .tuple #[y.v, .int .i64 0] ∧ Good F (k + 1) sec N w' y D' S' := hU.get ⟨8, .data⟩ (by simp) rfl
      simp only [putAll, List.foldl_cons, List.foldl_nil]
      go_frame
      try simp only [u8]
      go_wp2_with fail
      exact ⟨rfl, _, rfl, Below.refl _ _, y, D', rfl, v8_0⟩
    refine HSteps.cons ?_ ?_
    · intro f w' hb hU
      obtain ⟨y, D', u9, v9_0⟩ : ∃ (y : Pgr), ∃ (D' : Dk), f 103 = .tuple #[y.v, .int .i64 0] ∧ Good F (k + 1) sec N w' y D' S' := hU.get ⟨9, .data⟩ (by simp) rfl
      simp only [putAll, List.foldl_cons, List.foldl_nil]
      go_frame
      try simp only [u9]
      go_wp2_with fail
      exact ⟨rfl, _, rfl, Below.refl _ _, y, D', rfl, v9_0⟩
    refine HSteps.cons ?_ ?_
    · intro f w' hb hU
      obtain ⟨y, D', u9, v9_0⟩ : ∃ (y : Pgr), ∃ (D' : Dk), f 103 = .tuple #[y.v, .int .i64 0] ∧ Good F (k + 1) sec N w' y D' S' := hU.get ⟨9, .data⟩ (by simp) rfl
      simp only [putAll, List.foldl_cons, List.foldl_nil]
      go_frame
      try simp only [u9]
      go_wp2_with fail
      exact ⟨rfl, _, rfl, Below.refl _ _, rfl⟩
    exact HSteps.nil
  case grow =>
    intro kq u wa wb hb hu
    rcases kq with _ | _ | _ | _ | _ | _ | _ | _ | _ | _ | _ | _ | kq
    · exact hu
    · exact hu
    · exact hu
    · exact hu
    · exact hu
    · exact hu
    · exact hu
    · exact hu
    · obtain ⟨y, D', ue, uf0⟩ := hu
      exact ⟨y, D', ue, uf0.keep hb⟩
    · obtain ⟨y, D', ue, uf0⟩ := hu
      exact ⟨y, D', ue, uf0.keep hb⟩
    · obtain ⟨y, D', ue, uf0⟩ := hu
      exact ⟨y, D', ue, uf0.keep hb⟩
    · exact hu
    · trivial
  case tail =>
    intro f w7 hb7 hU
    obtain ⟨y, D', u10, v10_0⟩ : ∃ (y : Pgr), ∃ (D' : Dk), f 113 = y.v ∧ Good F (k + 1) sec N w7 y D' S' := hU.get 10 (by decide)
    obtain u11 : f 114 = .int .i64 0 := hU.get 11 (by decide)
    simp only [List.drop_succ_cons, List.drop_zero, putAll, List.foldl_cons, List.foldl_nil]
    go_frame
    simp only [u10, u11]
    clear u10 u11
    clear hU
    have hG := v10_0
    have b6 := hb7
    replace kx := kx.keep b6
    replace ka := ka.keep b6
    replace kr := kr.keep b6
    have B6 := B.trans (b6.mono B.size)
    clear b6 B y0 y1 y2 y3 y4 la lr
    have hq := hG.sim.pok
    obtain ⟨z0, z1, z2, z3, z4⟩ := ka.c5
    have la := ka.lt
    have lx := kx.lt
    go_wp2_with (first
      | ((with_reducible refine is_store 37 ?_); refine wp_storeTP w.heap.size x y hp hq kx rfl rfl ?_; intro w7 kx7 r7; go_frame; have ka7 := ka.grown r7 (by simp); obtain ⟨y0, y1, y2, y3, y4⟩ := ka7.c5; have la7 := ka7.lt; have lx7 := kx7.lt))
    refine noPanic_ok ?_
    go_wp2_with (first
      | ((with_reducible refine is_load 60 ?_); refine wp_loadTV w.heap.size ⟨y, x.v, x.sec⟩ hq kx7 rfl ?_; go_frame))
    have kr7 := kr.grown r7 (by simp; omega)
    have lr7 := kr7.lt
    have hG7 := hG.kept (Kept.grown r7 kx notSto)
    have B7 := B6.grown r7 B6.size (fun z hz => by cases hz; omega)
    have hv7 : RVr (fun b => M b ∧ b < w.heap.size ∨ w.heap.size + 1 + 1 < b) w7 x.v S := ((HV.out.keep B6).grown r7 (fun g hg => by cases hg; omega)).mono fun b hb => .inl hb
    clear kx ka kr r7 B6 hG z0 z1 z2 z3 z4 la lx
    have R := reopen_any x.v S w7 hv7
    rw [HSr.out] at R
    refine R.mono ?_
    clear R
    rintro e w8 ⟨v', rfl, hv8, b8⟩
    replace kx7 := kx7.keep b8
    replace kr7 := kr7.keep b8
    have B8 := B7.trans (b8.mono B7.size)
    have hG8 := hG7.keep b8
    clear b8 B7 hG7 hv7 y0 y1 y2 y3 y4 la7 ka7 lr7 lx7

    go_wp2_with (first
      | ((with_reducible refine is_store 60 ?_); refine wp_storeTV w.heap.size ⟨y, x.v, x.sec⟩ v' hq kx7 rfl rfl ?_; intro w9 kx9 r9; go_frame)
      | ((with_reducible refine is_load 63 ?_); refine wp_loadT w.heap.size ⟨y, v', x.sec⟩ hq kx9 rfl ?_; go_frame)
      | ((with_reducible refine is_store 63 ?_); refine wp_storeT (w.heap.size + 1 + 1) _ ⟨y, v', x.sec⟩ hq (kr7.grown r9 (by simp; omega)) (by rw [StV.cs_len Pgr.zero_ok]) rfl rfl ?_; intro w10 kr10 r10; go_frame))
    have kr9 := kr7.grown r9 (by simp; omega)
    have hG10 := (hG8.kept (Kept.grown r9 kx7 notSto)).kept (Kept.grown r10 kr9 notSto)
    have B9 := B8.grown r9 B8.size (fun z hz => by cases hz; omega)
    have B10 := B9.grown r10 B9.size (fun z hz => by cases hz; omega)
    have hv10 := ((hv8.grown r9 (fun g hg => by cases hg; omega)).grown r10 (fun g hg => by cases hg; omega)).mono (fun b hb => hb.elim (fun h => h.1) (fun h => hM b (by omega)))
    exact bodyPost_ret (results_T2 Tryd.results25 _ _ (w.heap.size + 1 + 1) ⟨y, v', x.sec⟩ hq rfl kr10) rfl ⟨⟨y, v', x.sec⟩, rfl, ⟨D', S', hG10.sim, HH.out.s1, hG10.sec, hS', hG10.dn, hG10.d, hv10⟩, B10⟩
set_option maxRecDepth 100000 in
set_option maxHeartbeats 8000000 in
theorem do_crash {F : Secs} {k sec n N : Nat} {M : Nat → Prop} (x : StV) (a : Ac) (D : Dk) (S : RS) (w : World) (hT : Tab w) (H : Sto F k sec n N M w x D S) (hM : ∀ b, w.heap.size ≤ b → M b) (hk : k ≤ 1000) (ha : a.ok) (hl : a.l ≤ 1100) (hm : (a.o : Int).tmod 8 = 7) :
    Calls Tryd.prog 25 #[x.val, a.val] w fun e w' => ∃ (y : StV) (D' : Dk) (S' : RS), e = .returned (.tuple #[y.val, .bool true]) ∧ Sto F (k + 1) sec n N M w' y D' S' ∧ Below w.heap.size w w' := by
  have hp := H.sim.pok
  have HTb := hid hT
  have HH := hid H
  have Hn : Hid (a.n < 256 ∧ a.f < 256 ∧ a.l ≤ 1100 ∧ a.ch < 18446744073709551616) := hid ⟨ha.n, ha.f, hl, ha.c⟩
  have HV := hid H.v.lt
  have en := IntWalk.i64_in (a.n : Int) (by have := ha.n; omega)
  have ef := IntWalk.i64_in (a.f : Int) (by have := ha.f; omega)
  have el := IntWalk.i64_in (a.l : Int) (by omega)
  clear H hT ha hl
  go_enter Tryd.func25, Tryd.ntmps25
  unfold StV.val Ac.val
  go_upto_region 23 with ((with_reducible refine is_alloc 63 ?_); generalize hw3 : World.alloc (World.alloc w _) _ = v3; have hs3 : v3.heap.size = w.heap.size + 1 + 1 := (by rw [← hw3]; simp); obtain ⟨kx, ka, B⟩ := two_boxes_r (cs1 := x.cs) (cs2 := a.cs) hw3; refine wp_allocN (w.heap.size + 1 + 1) hs3 _ arrSto ?_; intro w5 kr b5 s5; go_frame; replace kx := kx.below b5 (by omega); replace ka := ka.below b5 (by omega); replace B := B.trans (b5.mono (by omega)); obtain ⟨y0, y1, y2, y3, y4⟩ := ka.c5; have la := ka.lt; have lr := kr.lt; clear hw3 hs3 b5 s5)
  obtain ⟨S', hSr⟩ : ∃ z, S.reopen = z := ⟨_, rfl⟩
  have hS' : S'.n = n := by rw [← hSr]; exact HH.out.n
  obtain ⟨DC, hDC⟩ : ∃ z, D.crash a.ch = z := ⟨_, rfl⟩
  have hWk := HH.out.sim.Wk
  have HO : Hid (∀ wx dc, Below w5.heap.size w5 wx → DkV wx dc DC → Calls Tryd.prog 13 #[dc.v, .int .i64 x.sec, .int .i64 x.v.n] wx fun e w' => ∃ (y : Pgr) (D' : Dk), e = .returned (.tuple #[y.v, .int .i64 0]) ∧ Good F (k + 1) sec N w' y D' S' ∧ Below wx.heap.size wx w') := hid fun wx dc hb hd => by
    have := plan_open (F := F) (k := k) (N := N) (S := S.reopen) (p := x.p.back) (D := DC) (by rw [← hDC]; exact HH.out.sim.crash a.ch) HH.out.s2 HH.out.n (by rw [← hDC]; exact HH.out.dn) dc wx hd (HTb.out.keep (B.trans (hb.mono B.size)))
    rw [show S.reopen.reopen = S' from hSr] at this
    rw [show (x.sec : Int) = (sec : Int) by rw [HH.out.s1], show (x.v.n : Int) = (n : Int) by rw [HV.out.n, HH.out.n]]
    exact this
  have HC := hid (fun wx (hb : Below w5.heap.size w5 wx) => crash_any x.p.d D a.ch wx (HH.out.d.keep (B.trans (hb.mono B.size))) (by omega) Hn.out.2.2.2)
  rw [hDC] at HC
  clear hDC hWk
  have HSr := hid hSr
  clear hSr
  refine wp_region_headF 146 15 [123, 124, 125, 126, 127, 128, 129, 130, 131, 132, 133, 134, 122, 135, 136] [14] ((fun kq => ([fun u w' => u = .pointer (some ⟨w.heap.size, 0, none⟩), fun u w' => u = x.p.v, fun u w' => u = x.p.d.v, fun u w' => u = .pointer (some ⟨w.heap.size + 1, 4, none⟩), fun u w' => u = .int .u64 a.ch, fun u w' => ∃ (dc : DV), u = dc.v ∧ DkV w' dc DC, fun u w' => u = .pointer (some ⟨w.heap.size, 273, none⟩), fun u w' => u = .int .i64 x.sec, fun u w' => u = .pointer (some ⟨w.heap.size, 266, none⟩), fun u w' => u = .pointer (some ⟨w.heap.size, 266, none⟩), fun u w' => u = .int .i64 x.v.n, fun u w' => ∃ (y : Pgr), ∃ (D' : Dk), u = .tuple #[y.v, .int .i64 0] ∧ Good F (k + 1) sec N w' y D' S', fun u w' => ∃ (y : Pgr), ∃ (D' : Dk), u = .tuple #[y.v, .int .i64 0] ∧ Good F (k + 1) sec N w' y D' S', fun u w' => ∃ (y : Pgr), ∃ (D' : Dk), u = y.v ∧ Good F (k + 1) sec N w' y D' S', fun u w' => u = .int .i64 0] : List (Value → World → Prop)).getD kq (fun _ _ => True))) (by kernel_rfl) rfl (by kernel_rfl) ?grow ?step ?tail
  case step =>
    simp only [List.take_succ_cons, List.take_zero]
    refine HSteps.cons ?_ ?_
    · intro f w' hb hU
      simp only [putAll, List.foldl_cons, List.foldl_nil]
      go_frame
      go_wp2_with fail
      exact ⟨rfl, _, rfl, Below.refl _ _, rfl⟩
    refine HSteps.cons ?_ ?_
    · intro f w' hb hU
      obtain u0 : f 123 = .pointer (some ⟨w.heap.size, 0, none⟩) := hU.get ⟨0, .data⟩ (by simp) rfl
      simp only [putAll, List.foldl_cons, List.foldl_nil]
      go_frame
      try simp only [u0]
      go_wp2_with ((with_reducible refine is_load 37 ?_); refine wp_loadTP w.heap.size x hp (kx.keep hb) rfl ?_; go_frame)
      exact ⟨rfl, _, rfl, Below.refl _ _, rfl⟩
    refine HSteps.cons ?_ ?_
    · intro f w' hb hU
      obtain u1 : f 124 = x.p.v := hU.get ⟨1, .data⟩ (by simp) rfl
      simp only [putAll, List.foldl_cons, List.foldl_nil]
      go_frame
      try simp only [u1]
      go_wp2_with fail
      refine (disk_any x.p w').mono ?_
      rintro e w3 ⟨rfl, b3⟩
      go_wp2_with fail
      exact ⟨rfl, _, rfl, b3, rfl⟩
    refine HSteps.cons ?_ ?_
    · intro f w' hb hU
      simp only [putAll, List.foldl_cons, List.foldl_nil]
      go_frame
      go_wp2_with fail
      exact ⟨rfl, _, rfl, Below.refl _ _, rfl⟩
    refine HSteps.cons ?_ ?_
    · intro f w' hb hU
      obtain u3 : f 126 = .pointer (some ⟨w.heap.size + 1, 4, none⟩) := hU.get ⟨3, .data⟩ (by simp) rfl
      have y4' := (ka.keep hb).c5.2.2.2.2
      simp only [putAll, List.foldl_cons, List.foldl_nil]
      go_frame
      try simp only [u3]
      go_wp2_with fail
      exact ⟨rfl, _, rfl, Below.refl _ _, rfl⟩
    refine HSteps.cons ?_ ?_
    · intro f w' hb hU
      obtain u2 : f 125 = x.p.d.v := hU.get ⟨2, .data⟩ (by simp) rfl
      obtain u4 : f 127 = .int .u64 a.ch := hU.get ⟨4, .data⟩ (by simp) rfl
      simp only [putAll, List.foldl_cons, List.foldl_nil]
      go_frame
      try simp only [u2, u4]
      go_wp2_with fail
      refine (HC.out w' hb).mono ?_
      rintro e w3 ⟨dc, rfl, hdc, b3⟩
      go_wp2_with fail
      exact ⟨rfl, _, rfl, b3, dc, rfl, hdc⟩
    refine HSteps.cons ?_ ?_
    · intro f w' hb hU
      simp only [putAll, List.foldl_cons, List.foldl_nil]
      go_frame
      go_wp2_with fail
      exact ⟨rfl, _, rfl, Below.refl _ _, rfl⟩
    refine HSteps.cons ?_ ?_
    · intro f w' hb hU
      obtain u6 : f 129 = .pointer (some ⟨w.heap.size, 273, none⟩) := hU.get ⟨6, .data⟩ (by simp) rfl
      have yS := StV.cellS hp (kx.keep hb)
      simp only [putAll, List.foldl_cons, List.foldl_nil]
      go_frame
      try simp only [u6]
      go_wp2_with fail
      exact ⟨rfl, _, rfl, Below.refl _ _, rfl⟩
    refine HSteps.cons ?_ ?_
    · intro f w' hb hU
      simp only [putAll, List.foldl_cons, List.foldl_nil]
      go_frame
      go_wp2_with fail
      exact ⟨rfl, _, rfl, Below.refl _ _, rfl⟩
    refine HSteps.cons ?_ ?_
    · intro f w' hb hU
      obtain u8 : f 131 = .pointer (some ⟨w.heap.size, 266, none⟩) := hU.get ⟨8, .data⟩ (by simp) rfl
      simp only [putAll, List.foldl_cons, List.foldl_nil]
      go_frame
      try simp only [u8]
      go_wp2_with fail
      exact ⟨rfl, _, rfl, Below.refl _ _, rfl⟩
    refine HSteps.cons ?_ ?_
    · intro f w' hb hU
      obtain u9 : f 132 = .pointer (some ⟨w.heap.size, 266, none⟩) := hU.get ⟨9, .data⟩ (by simp) rfl
      have yN := StV.cellN hp (kx.keep hb)
      simp only [putAll, List.foldl_cons, List.foldl_nil]
      go_frame
      try simp only [u9]
      go_wp2_with fail
      exact ⟨rfl, _, rfl, Below.refl _ _, rfl⟩
    refine HSteps.cons ?_ ?_
    · intro f w' hb hU
      obtain ⟨dc, u5, v5_0⟩ : ∃ (dc : DV), f 128 = dc.v ∧ DkV w' dc DC := hU.get ⟨5, .data⟩ (by simp) rfl
      obtain u7 : f 130 = .int .i64 x.sec := hU.get ⟨7, .data⟩ (by simp) rfl
      obtain u10 : f 133 = .int .i64 x.v.n := hU.get ⟨10, .data⟩ (by simp) rfl
      simp only [putAll, List.foldl_cons, List.foldl_nil]
      go_frame
      try simp only [u5, u7, u10]
      go_wp2_with fail
      refine (HO.out w' dc hb v5_0).mono ?_
      rintro e w3 ⟨y, D', rfl, hG, b3⟩
      go_wp2_with fail
      exact ⟨rfl, _, rfl, b3, y, D', rfl, hG⟩
    refine HSteps.cons ?_ ?_
    · intro f w' hb hU
      obtain ⟨y, D', u11, v11_0⟩ : ∃ (y : Pgr), ∃ (D' : Dk), f 134 = .tuple #[y.v, .int .i64 0] ∧ Good F (k + 1) sec N w' y D' S' := hU.get ⟨11, .data⟩ (by simp) rfl
      simp only [putAll, List.foldl_cons, List.foldl_nil]
      go_frame
      try simp only [u11]
      go_wp2_with fail
      exact ⟨rfl, _, rfl, Below.refl _ _, y, D', rfl, v11_0⟩
    refine HSteps.cons ?_ ?_
    · intro f w' hb hU
      obtain ⟨y, D', u12, v12_0⟩ : ∃ (y : Pgr), ∃ (D' : Dk), f 122 = .tuple #[y.v, .int .i64 0] ∧ Good F (k + 1) sec N w' y D' S' := hU.get ⟨12, .data⟩ (by simp) rfl
      simp only [putAll, List.foldl_cons, List.foldl_nil]
      go_frame
      try simp only [u12]
      go_wp2_with fail
      exact ⟨rfl, _, rfl, Below.refl _ _, y, D', rfl, v12_0⟩
    refine HSteps.cons ?_ ?_
    · intro f w' hb hU
      obtain ⟨y, D', u12, v12_0⟩ : ∃ (y : Pgr), ∃ (D' : Dk), f 122 = .tuple #[y.v, .int .i64 0] ∧ Good F (k + 1) sec N w' y D' S' := hU.get ⟨12, .data⟩ (by simp) rfl
      simp only [putAll, List.foldl_cons, List.foldl_nil]
      go_frame
      try simp only [u12]
      go_wp2_with fail
      exact ⟨rfl, _, rfl, Below.refl _ _, rfl⟩
    exact HSteps.nil
  case grow =>
    intro kq u wa wb hb hu
    rcases kq with _ | _ | _ | _ | _ | _ | _ | _ | _ | _ | _ | _ | _ | _ | _ | kq
    · exact hu
    · exact hu
    · exact hu
    · exact hu
    · exact hu
    · obtain ⟨dc, ue, uf0⟩ := hu
      exact ⟨dc, ue, uf0.keep hb⟩
    · exact hu
    · exact hu
    · exact hu
    · exact hu
    · exact hu
    · obtain ⟨y, D', ue, uf0⟩ := hu
      exact ⟨y, D', ue, uf0.keep hb⟩
    · obtain ⟨y, D', ue, uf0⟩ := hu
      exact ⟨y, D', ue, uf0.keep hb⟩
    · obtain ⟨y, D', ue, uf0⟩ := hu
      exact ⟨y, D', ue, uf0.keep hb⟩
    · exact hu
    · trivial
  case tail =>
    intro f w7 hb7 hU
    obtain ⟨y, D', u13, v13_0⟩ : ∃ (y : Pgr), ∃ (D' : Dk), f 135 = y.v ∧ Good F (k + 1) sec N w7 y D' S' := hU.get 13 (by decide)
    obtain u14 : f 136 = .int .i64 0 := hU.get 14 (by decide)
    simp only [List.drop_succ_cons, List.drop_zero, putAll, List.foldl_cons, List.foldl_nil]
    go_frame
    simp only [u13, u14]
    clear u13 u14
    clear hU
    have hG := v13_0
    have b6 := hb7
    replace kx := kx.keep b6
    replace ka := ka.keep b6
    replace kr := kr.keep b6
    have B6 := B.trans (b6.mono B.size)
    clear b6 B y0 y1 y2 y3 y4 la lr
    have hq := hG.sim.pok
    obtain ⟨z0, z1, z2, z3, z4⟩ := ka.c5
    have la := ka.lt
    have lx := kx.lt
    go_wp2_with (first
      | ((with_reducible refine is_store 37 ?_); refine wp_storeTP w.heap.size x y hp hq kx rfl rfl ?_; intro w7 kx7 r7; go_frame; have ka7 := ka.grown r7 (by simp); obtain ⟨y0, y1, y2, y3, y4⟩ := ka7.c5; have la7 := ka7.lt; have lx7 := kx7.lt))
    refine noPanic_ok ?_
    go_wp2_with (first
      | ((with_reducible refine is_load 60 ?_); refine wp_loadTV w.heap.size ⟨y, x.v, x.sec⟩ hq kx7 rfl ?_; go_frame))
    have kr7 := kr.grown r7 (by simp; omega)
    have lr7 := kr7.lt
    have hG7 := hG.kept (Kept.grown r7 kx notSto)
    have B7 := B6.grown r7 B6.size (fun z hz => by cases hz; omega)
    have hv7 : RVr (fun b => M b ∧ b < w.heap.size ∨ w.heap.size + 1 + 1 < b) w7 x.v S := ((HV.out.keep B6).grown r7 (fun g hg => by cases hg; omega)).mono fun b hb => .inl hb
    clear kx ka kr r7 B6 hG z0 z1 z2 z3 z4 la lx
    have R := reopen_any x.v S w7 hv7
    rw [HSr.out] at R
    refine R.mono ?_
    clear R
    rintro e w8 ⟨v', rfl, hv8, b8⟩
    replace kx7 := kx7.keep b8
    replace kr7 := kr7.keep b8
    have B8 := B7.trans (b8.mono B7.size)
    have hG8 := hG7.keep b8
    clear b8 B7 hG7 hv7 y0 y1 y2 y3 y4 la7 ka7 lr7 lx7

    go_wp2_with (first
      | ((with_reducible refine is_store 60 ?_); refine wp_storeTV w.heap.size ⟨y, x.v, x.sec⟩ v' hq kx7 rfl rfl ?_; intro w9 kx9 r9; go_frame)
      | ((with_reducible refine is_load 63 ?_); refine wp_loadT w.heap.size ⟨y, v', x.sec⟩ hq kx9 rfl ?_; go_frame)
      | ((with_reducible refine is_store 63 ?_); refine wp_storeT (w.heap.size + 1 + 1) _ ⟨y, v', x.sec⟩ hq (kr7.grown r9 (by simp; omega)) (by rw [StV.cs_len Pgr.zero_ok]) rfl rfl ?_; intro w10 kr10 r10; go_frame))
    have kr9 := kr7.grown r9 (by simp; omega)
    have hG10 := (hG8.kept (Kept.grown r9 kx7 notSto)).kept (Kept.grown r10 kr9 notSto)
    have B9 := B8.grown r9 B8.size (fun z hz => by cases hz; omega)
    have B10 := B9.grown r10 B9.size (fun z hz => by cases hz; omega)
    have hv10 := ((hv8.grown r9 (fun g hg => by cases hg; omega)).grown r10 (fun g hg => by cases hg; omega)).mono (fun b hb => hb.elim (fun h => h.1) (fun h => hM b (by omega)))
    exact bodyPost_ret (results_T2 Tryd.results25 _ _ (w.heap.size + 1 + 1) ⟨y, v', x.sec⟩ hq rfl kr10) rfl ⟨⟨y, v', x.sec⟩, rfl, ⟨D', S', hG10.sim, HH.out.s1, hG10.sec, hS', hG10.dn, hG10.d, hv10⟩, B10⟩
theorem do_any {F : Secs} {k sec n N : Nat} {M : Nat → Prop} (x : StV) (a : Ac) (D : Dk) (S : RS) (w : World) (hT : Tab w) (H : Sto F k sec n N M w x D S) (hM : ∀ b, w.heap.size ≤ b → M b) (hk : k ≤ 1000) (ha : a.ok) (hl : a.l ≤ 1100) :
    Calls Tryd.prog 25 #[x.val, a.val] w fun e w' => ∃ (y : StV) (D' : Dk) (S' : RS), e = .returned (.tuple #[y.val, .bool true]) ∧ Sto F (k + 1) sec n N M w' y D' S' ∧ Below w.heap.size w w' := by
  have h8 : (a.o : Int).tmod 8 = ((a.o % 8 : Nat) : Int) := by rw [Int.tmod_eq_emod_of_nonneg (by omega)]; omega
  have hlt := Nat.mod_lt a.o (show 0 < 8 by omega)
  generalize a.o % 8 = m at h8 hlt
  match m, hlt, h8 with
  | 0, _, h => exact do_alloc0 x a D S w hT H hM hk ha hl h
  | 1, _, h => exact do_alloc1 x a D S w hT H hM hk ha hl h
  | 2, _, h => exact do_alloc2 x a D S w hT H hM hk ha hl h
  | 3, _, h => exact do_free x a D S w hT H hM hk ha hl h
  | 4, _, h => exact do_commit4 x a D S w hT H hM hk ha hl h
  | 5, _, h => exact do_commit5 x a D S w hT H hM hk ha hl h
  | 6, _, h => exact do_open x a D S w hT H hM hk ha hl h
  | 7, _, h => exact do_crash x a D S w hT H hM hk ha hl h
  | m + 8, hlt, _ => exact absurd hlt (by omega)
end Go.Proofs.YtanglofabkbllaaDoor
