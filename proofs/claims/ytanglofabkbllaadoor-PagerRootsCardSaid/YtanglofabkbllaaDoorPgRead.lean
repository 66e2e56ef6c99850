/- Read of package pager, walked. Conditions: the pager fits its disk. -/
import Derived.Test.YtanglofabkbllaaDoorPgF
import Derived.Test.YtanglofabkbllaaDoorPgR
import Derived.Test.YtanglofabkbllaaDoorHead
set_option linter.unusedSimpArgs false
set_option linter.unusedVariables false
namespace Go.Proofs.YtanglofabkbllaaDoor
open Go.RowKit

theorem Reads.keep {w w' : World} {p : Pg} {d : Dec} (h : Reads w p d) (hb : Below w.heap.size w w') : Reads w' p d := ⟨h.ok.below hb, h.id, h.stamp, h.kind, h.body⟩
theorem pg_one (p : Pg) : ∀ v ∈ p.cs, v.oneCell' = true := by
  intro v hv
  simp only [Pg.cs, List.mem_cons, List.not_mem_nil, or_false] at hv
  rcases hv with rfl | rfl | rfl | rfl <;> rfl
theorem pg_noby (p : Pg) : ∀ v ∈ p.cs, ∀ x, v ≠ byV x := by
  intro v hv x
  simp only [Pg.cs, List.mem_cons, List.not_mem_nil, or_false] at hv
  rcases hv with rfl | rfl | rfl | rfl <;> simp [byV]
/-- what Read answers for a page in use -/
def readOf (d : Dec) (id : Nat) : List UInt8 × Int := if d.err ≠ 0 then ([], d.err) else if d.id ≠ id ∨ d.kind ≠ 1 then ([], 28) else (d.body, 0)
set_option maxRecDepth 100000 in
set_option maxHeartbeats 4000000 in
theorem pgread_any (p : Pgr) (D : Dk) (id : Nat) (w : World) (hp : p.ok) (hT : Tab w) (hd : DkV w p.d D) (hn : p.uses id = true) (hi : id < 1024) (hD : p.sec + 8 * (id + 1) + 8 ≤ D.n) :
    Calls Tryd.prog 17 #[p.v, .int .i64 id] w fun e w' => ∃ (A : Option Addr) (n c : Nat), e = .returned (.tuple #[.slice A n c, .int .i64 (readOf (decoded (secs D.cur (p.sec + 8 * (id + 1)) 8)) id).2]) ∧ RB w' A n (readOf (decoded (secs D.cur (p.sec + 8 * (id + 1)) 8)) id).1 ∧ Below w.heap.size w w' := by
  have U := fun wx => uses_any p id wx hp
  rw [hn] at U
  have HPl := hid (fun wx => place_any p id wx hp (by omega))
  have HRd : Hid (∀ wx, Below (w.heap.size + 1) (w.alloc (.cells p.cs.toArray 37)) wx → Calls Tryd.prog 49 #[p.d.v, .int .i64 ((p.sec + 8 * (id + 1) : Nat) : Int)] wx fun e w' => ∃ q : Pg, e = .returned (.tuple #[q.v, .int .i64 (decoded (secs D.cur (p.sec + 8 * (id + 1)) 8)).err]) ∧ Reads w' q (decoded (secs D.cur (p.sec + 8 * (id + 1)) 8)) ∧ Below wx.heap.size wx w') := fun wx hb => by
    have ha : Below w.heap.size w (w.alloc (.cells p.cs.toArray 37)) := (Below.refl _ _).alloc (Nat.le_refl _) _
    have hb' := ha.trans (hb.mono (by omega))
    exact pread_good p.d D _ wx (hT.keep hb') (hd.keep hb') hD
  generalize p.sec + 8 * (id + 1) = PL at *
  generalize decoded (secs D.cur PL 8) = DD at *
  clear hd hD
  go_enter Tryd.func17, Tryd.ntmps17
  unfold Pgr.v
  have hP : Blk (w.alloc (.cells p.cs.toArray 37)) w.heap.size 37 p.cs := Blk.new w _ _
  have hB : Below w.heap.size w (w.alloc (.cells p.cs.toArray 37)) := (Below.refl _ _).alloc (Nat.le_refl _) _
  have hs : (w.alloc (.cells p.cs.toArray 37)).heap.size = w.heap.size + 1 := by simp
  rw [← hs] at HRd
  go_wp2_with ((with_reducible refine is_load 37 ?_); refine wp_loadP w.heap.size p hp hP rfl ?_; go_frame)
  generalize w.alloc (.cells p.cs.toArray 37) = w1 at hP hB hs HRd ⊢
  refine (U _).mono ?_
  rintro e wr ⟨rfl, b3⟩
  replace hP := hP.keep b3
  have hbel := hB.trans (b3.mono hB.size)
  have HRd := hid (fun wx (hb : Below wr.heap.size wr wx) => HRd.out wx (b3.trans (hb.mono b3.size)))
  have lP := hP.lt
  clear hB b3 hs
  go_wp2_with fail
  refine wp_region_headF 35 10 [13, 14, 15, 16, 17, 18, 12, 19, 20, 6] [8] ((fun kq => ([fun u w' => u = .pointer (some ⟨w.heap.size, 0, none⟩), fun u w' => u = p.d.v, fun u w' => u = p.v, fun u w' => u = .int .i64 id, fun u w' => u = .int .i64 (PL : Int), fun u w' => ∃ (q : Pg), u = .tuple #[q.v, .int .i64 DD.err] ∧ Reads w' q DD, fun u w' => ∃ (q : Pg), u = .tuple #[q.v, .int .i64 DD.err] ∧ Reads w' q DD, fun u w' => ∃ (q : Pg), u = q.v ∧ Reads w' q DD, fun u w' => u = .int .i64 DD.err, fun u w' => ∃ (b6 : Nat), u = .pointer (some ⟨b6, 0, none⟩) ∧ wr.heap.size ≤ b6 ∧ Blk w' b6 85 noPg.cs] : List (Value → World → Prop)).getD kq (fun _ _ => True))) (by kernel_rfl) rfl (by kernel_rfl) ?grow ?step ?tail
  case step =>
    simp only [List.take_succ_cons, List.take_zero]
    refine HSteps.cons ?_ ?_
    · intro f w' hb hU
      simp only [putAll, List.foldl_cons, List.foldl_nil]
      go_frame
      go_wp2_with fail
      exact ⟨rfl, _, rfl, Below.refl _ _, rfl⟩
    refine HSteps.cons ?_ ?_
    · intro f w' hb hU
      obtain u0 : f 13 = .pointer (some ⟨w.heap.size, 0, none⟩) := hU.get ⟨0, .data⟩ (by simp) rfl
      obtain ⟨y0, y1, y2, y3, y4, y5, y6, y7, y8, y9⟩ := Pgr.c10 (hP.keep hb)
      simp only [putAll, List.foldl_cons, List.foldl_nil]
      go_frame
      try simp only [u0]
      go_wp2_with fail
      exact ⟨rfl, _, rfl, Below.refl _ _, rfl⟩
    refine HSteps.cons ?_ ?_
    · intro f w' hb hU
      simp only [putAll, List.foldl_cons, List.foldl_nil]
      go_frame
      go_wp2_with ((with_reducible refine is_load 37 ?_); refine wp_loadP w.heap.size p hp (hP.keep hb) rfl ?_; go_frame)
      exact ⟨rfl, _, rfl, Below.refl _ _, rfl⟩
    refine HSteps.cons ?_ ?_
    · intro f w' hb hU
      simp only [putAll, List.foldl_cons, List.foldl_nil]
      go_frame
      go_wp2_with fail
      exact ⟨rfl, _, rfl, Below.refl _ _, rfl⟩
    refine HSteps.cons ?_ ?_
    · intro f w' hb hU
      obtain u2 : f 15 = p.v := hU.get ⟨2, .data⟩ (by simp) rfl
      obtain u3 : f 16 = .int .i64 id := hU.get ⟨3, .data⟩ (by simp) rfl
      have R := HPl.out w'
      simp only [putAll, List.foldl_cons, List.foldl_nil]
      go_frame
      try simp only [u2, u3]
      go_wp2_with fail
      refine (R).mono ?_
      rintro e w3 ⟨rfl, b3⟩
      go_wp2_with fail
      exact ⟨rfl, _, rfl, b3, rfl⟩
    refine HSteps.cons ?_ ?_
    · intro f w' hb hU
      obtain u1 : f 14 = p.d.v := hU.get ⟨1, .data⟩ (by simp) rfl
      obtain u4 : f 17 = .int .i64 (PL : Int) := hU.get ⟨4, .data⟩ (by simp) rfl
      have R := HRd.out w' hb
      simp only [putAll, List.foldl_cons, List.foldl_nil]
      go_frame
      try simp only [u1, u4]
      go_wp2_with fail
      refine (R).mono ?_
      rintro e w3 ⟨q, rfl, hrd, b3⟩
      go_wp2_with fail
      exact ⟨rfl, _, rfl, b3, q, rfl, hrd⟩
    refine HSteps.cons ?_ ?_
    · intro f w' hb hU
      obtain ⟨q, u5, v5_0⟩ : ∃ (q : Pg), f 18 = .tuple #[q.v, .int .i64 DD.err] ∧ Reads w' q DD := hU.get ⟨5, .data⟩ (by simp) rfl
      simp only [putAll, List.foldl_cons, List.foldl_nil]
      go_frame
      try simp only [u5]
      go_wp2_with fail
      exact ⟨rfl, _, rfl, Below.refl _ _, q, rfl, v5_0⟩
    refine HSteps.cons ?_ ?_
    · intro f w' hb hU
      obtain ⟨q, u6, v6_0⟩ : ∃ (q : Pg), f 12 = .tuple #[q.v, .int .i64 DD.err] ∧ Reads w' q DD := hU.get ⟨6, .data⟩ (by simp) rfl
      simp only [putAll, List.foldl_cons, List.foldl_nil]
      go_frame
      try simp only [u6]
      go_wp2_with fail
      exact ⟨rfl, _, rfl, Below.refl _ _, q, rfl, v6_0⟩
    refine HSteps.cons ?_ ?_
    · intro f w' hb hU
      obtain ⟨q, u6, v6_0⟩ : ∃ (q : Pg), f 12 = .tuple #[q.v, .int .i64 DD.err] ∧ Reads w' q DD := hU.get ⟨6, .data⟩ (by simp) rfl
      simp only [putAll, List.foldl_cons, List.foldl_nil]
      go_frame
      try simp only [u6]
      go_wp2_with fail
      exact ⟨rfl, _, rfl, Below.refl _ _, rfl⟩
    refine HSteps.cons ?_ ?_
    · intro f w' hb hU
      have hP : Blk _ w'.heap.size 85 noPg.cs := Blk.new w' _ _
      have hb3 : Below w'.heap.size w' _ := (Below.refl _ _).alloc (Nat.le_refl _) (.cells (noPg.cs).toArray 85)
      simp only [putAll, List.foldl_cons, List.foldl_nil]
      go_frame
      go_wp2_with fail
      exact ⟨rfl, _, rfl, hb3, _, rfl, hb.size, hP⟩
    exact HSteps.nil
  case grow =>
    intro kq u wa wb hb hu
    rcases kq with _ | _ | _ | _ | _ | _ | _ | _ | _ | _ | kq
    · exact hu
    · exact hu
    · exact hu
    · exact hu
    · exact hu
    · obtain ⟨q, ue, uf0⟩ := hu
      exact ⟨q, ue, uf0.keep hb⟩
    · obtain ⟨q, ue, uf0⟩ := hu
      exact ⟨q, ue, uf0.keep hb⟩
    · obtain ⟨q, ue, uf0⟩ := hu
      exact ⟨q, ue, uf0.keep hb⟩
    · exact hu
    · obtain ⟨b6, ue, uf0, uf1⟩ := hu
      exact ⟨b6, ue, uf0, uf1.keep hb⟩
    · trivial
  case tail =>
    intro f w7 hb7 hU
    obtain ⟨q, u7, v7_0⟩ : ∃ (q : Pg), f 19 = q.v ∧ Reads w7 q DD := hU.get 7 (by decide)
    obtain u8 : f 20 = .int .i64 DD.err := hU.get 8 (by decide)
    obtain ⟨b6, u9, v9_0, v9_1⟩ : ∃ (b6 : Nat), f 6 = .pointer (some ⟨b6, 0, none⟩) ∧ wr.heap.size ≤ b6 ∧ Blk w7 b6 85 noPg.cs := hU.get 9 (by decide)
    simp only [List.drop_succ_cons, List.drop_zero, putAll, List.foldl_cons, List.foldl_nil]
    go_frame
    simp only [u7, u8, u9]
    clear u7 u8 u9
    clear hU
    go_wp2_with ((with_reducible refine is_store 85 ?_); go_loud (refine wp_storeB b6 _ _ q.cs v9_1 pageN rfl (pg_one _) rfl rfl ?_); intro w8 k8 r8; go_frame)
    refine noPanic_ok ?_
    have hr8 : Reads w8 q DD := v7_0.apart v9_1 (pg_noby _) r8
    have hB8 := (hbel.trans (hb7.mono hbel.size)).grown r8 (Nat.le_trans hbel.size hb7.size) (fun z hz => by cases hz; exact Nat.le_trans hbel.size v9_0)
    have hrb := hr8.ok.rb
    have ei := hr8.id
    have ek := hr8.kind
    have el := hr8.body
    unfold Pg.cs at k8
    rw [ei, ek] at k8
    rw [el] at hrb
    obtain ⟨y0, y1, y2, y3⟩ := k8.c4
    clear k8 r8 hr8 v7_0 v9_1 hb7 hbel hP lP ei ek el HRd U HPl v9_0
    obtain ⟨Di, Ds, Dkk, Db, De⟩ := DD
    dsimp only at *
    by_cases h0 : De = 0
    · subst h0
      by_cases h1 : Di = id
      · by_cases h2 : Dkk = 1
        · have eR : Hid (readOf ⟨Di, Ds, Dkk, Db, 0⟩ id = (Db, 0)) := hid (by unfold readOf; simp [h1, h2])
          go_wp2_with fail
          go_ret2
          rw [eR.out]
          exact ⟨_, _, _, rfl, hrb, hB8⟩
        · have eR : Hid (readOf ⟨Di, Ds, Dkk, Db, 0⟩ id = ([], 28)) := hid (by unfold readOf; simp [h2])
          go_wp2_with fail
          go_ret2
          rw [eR.out]
          exact ⟨_, _, _, rfl, RL.nil _ 1 none, hB8⟩
      · have eR : Hid (readOf ⟨Di, Ds, Dkk, Db, 0⟩ id = ([], 28)) := hid (by unfold readOf; simp [h1])
        go_wp2_with fail
        go_ret2
        rw [eR.out]
        exact ⟨_, _, _, rfl, RL.nil _ 1 none, hB8⟩
    · have eR : Hid (readOf ⟨Di, Ds, Dkk, Db, De⟩ id = ([], De)) := hid (by unfold readOf; simp [h0])
      go_wp2_with fail
      go_ret2
      rw [eR.out]
      exact ⟨_, _, _, rfl, RL.nil _ 1 none, hB8⟩
set_option maxRecDepth 100000 in
set_option maxHeartbeats 2000000 in
theorem pgread_no (p : Pgr) (id : Int) (w : World) (hp : p.ok) (hn : p.uses id = false) :
    Calls Tryd.prog 17 #[p.v, .int .i64 id] w fun e w' => e = .returned (.tuple #[.slice none 0 0, .int .i64 9]) ∧ Below w.heap.size w w' := by
  have U := fun wx => uses_any p id wx hp
  rw [hn] at U
  go_enter Tryd.func17, Tryd.ntmps17
  unfold Pgr.v
  have hP : Blk (w.alloc (.cells p.cs.toArray 37)) w.heap.size 37 p.cs := Blk.new w _ _
  have hB : Below w.heap.size w (w.alloc (.cells p.cs.toArray 37)) := (Below.refl _ _).alloc (Nat.le_refl _) _
  go_wp2_with ((with_reducible refine is_load 37 ?_); refine wp_loadP w.heap.size p hp hP rfl ?_; go_frame)
  refine (U _).mono ?_
  rintro e wr ⟨rfl, b3⟩
  have hbel := hB.trans (b3.mono hB.size)
  clear hP hB b3 U
  go_wp2_with fail
  go_ret2
  exact ⟨rfl, hbel⟩
end Go.Proofs.YtanglofabkbllaaDoor

