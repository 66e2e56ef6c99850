/- Append of package wal, walked. Conditions: the disk and the payload read; the table of remainders is laid. -/
import Derived.Test.YtlokfndonjldpaaDoorRecord
import Derived.Test.YtlokfndonjldpaaDoorVar
import Derived.Test.YtlokfndonjldpaaDoorHead
import Derived.Deep.LoopGhost
set_option linter.unusedSimpArgs false
set_option linter.unusedVariables false
namespace Go.Proofs.YtlokfndonjldpaaDoor
open Go.RowKit

theorem four_boxes {w w3 : World} {T1 T2 T3 T4 : TypeId} {cs1 cs2 cs3 cs4 : List Value} (e : (((w.alloc (.cells cs1.toArray T1)).alloc (.cells cs2.toArray T2)).alloc (.cells cs3.toArray T3)).alloc (.cells cs4.toArray T4) = w3) :
    Blk w3 w.heap.size T1 cs1 ∧ Blk w3 (w.heap.size + 1) T2 cs2 ∧ Blk w3 (w.heap.size + 2) T3 cs3 ∧ Blk w3 (w.heap.size + 3) T4 cs4 ∧ Below w.heap.size w w3 := by
  subst e
  have h1 := Blk.new w T1 cs1
  have h2 := Blk.new (w.alloc (.cells cs1.toArray T1)) T2 cs2
  have h3 := Blk.new ((w.alloc (.cells cs1.toArray T1)).alloc (.cells cs2.toArray T2)) T3 cs3
  have h4 := Blk.new (((w.alloc (.cells cs1.toArray T1)).alloc (.cells cs2.toArray T2)).alloc (.cells cs3.toArray T3)) T4 cs4
  have up : ∀ {v : World} (o : Obj), Below v.heap.size v (v.alloc o) := fun o => (Below.refl _ _).alloc (Nat.le_refl _) _
  refine ⟨((h1.keep (up _)).keep (up _)).keep (up _), ?_, ?_, ?_, ((((Below.refl _ _).alloc (Nat.le_refl _) _).alloc (by simp) _).alloc (by simp; omega) _).alloc (by simp; omega) _⟩
  · have := (h2.keep (up (.cells cs3.toArray T3))).keep (up (.cells cs4.toArray T4))
    simpa using this
  · have := h3.keep (up (.cells cs4.toArray T4))
    simpa using this
  · simpa using h4
theorem set6 {w : World} {g : Nat} {t : TypeId} {cs : List Value} (h : Blk w g t cs) (hl : cs.length = 6) (a b c d e f : Value) :
    Blk ((((((w.setCell ⟨g, 0, none⟩ a).setCell ⟨g, 1, none⟩ b).setCell ⟨g, 2, none⟩ c).setCell ⟨g, 3, none⟩ d).setCell ⟨g, 4, none⟩ e).setCell ⟨g, 5, none⟩ f) g t [a, b, c, d, e, f] ∧
    w.grownBy ((((((w.setCell ⟨g, 0, none⟩ a).setCell ⟨g, 1, none⟩ b).setCell ⟨g, 2, none⟩ c).setCell ⟨g, 3, none⟩ d).setCell ⟨g, 4, none⟩ e).setCell ⟨g, 5, none⟩ f) (some g) := by
  match cs, hl with
  | [x0, x1, x2, x3, x4, x5], _ =>
    have h0 := h.set_ 0 a
    have h1 := h0.set_ 1 b
    have h2 := h1.set_ 2 c
    have h3 := h2.set_ 3 d
    have h4 := h3.set_ 4 e
    have h5 := h4.set_ 5 f
    exact ⟨h5, (((((h.setg 0 a).trans (h0.setg 1 b)).trans (h1.setg 2 c)).trans (h2.setg 3 d)).trans (h3.setg 4 e)).trans (h4.setg 5 f)⟩
def putSecs (D : Dk) : Nat → List (List UInt8) → Dk
  | _, [] => D
  | a, s :: r => putSecs (D.write a s) (a + 1) r
theorem putSecs_n : ∀ (D : Dk) (a : Nat) (l : List (List UInt8)), (putSecs D a l).n = D.n
  | _, _, [] => rfl
  | D, a, s :: r => putSecs_n (D.write a s) (a + 1) r
theorem putSecs_snoc : ∀ (D : Dk) (a : Nat) (l : List (List UInt8)) (s : List UInt8), putSecs D a (l ++ [s]) = (putSecs D a l).write (a + l.length) s
  | _, _, [], _ => rfl
  | D, a, x :: r, s => by
    rw [List.cons_append, putSecs, putSecs_snoc _ _ r s, putSecs, List.length_cons]
    congr 1
    omega
theorem putSecs_W : ∀ (D : Dk) (a : Nat) (l : List (List UInt8)), (putSecs D a l).W.length = D.W.length + l.length
  | _, _, [] => rfl
  | D, a, s :: r => by
    rw [putSecs, putSecs_W, List.length_cons]
    show D.W.length + 1 + _ = _
    omega
theorem recSecs_len (t p : List UInt8) : (recSecs t p).length = cnt p.length := by simp [recSecs]
theorem recSecs_128 {t : List UInt8} (ht : t.length = 24) (p : List UInt8) : ∀ s ∈ recSecs t p, s.length = 128 := by
  intro s hs
  unfold recSecs at hs
  rw [List.mem_map] at hs
  obtain ⟨i, hi, rfl⟩ := hs
  have := List.mem_range.1 hi
  exact recSec_len ht (by rw [recData_len]; omega)
theorem flat_take : ∀ (l : List (List UInt8)), (∀ s ∈ l, s.length = 128) → ∀ s r, l = s :: r → l.flatten.take 128 = s ∧ l.flatten.drop 128 = r.flatten
  | [], _, _, _, h => by cases h
  | s :: r, h, _, _, e => by
    cases e
    have := h s (List.mem_cons_self ..)
    rw [List.flatten_cons, List.take_left' this, List.drop_left' this]
    exact ⟨rfl, rfl⟩
/-- a log behind one more record of n bytes -/
def Lg.app (l : Lg) (n : Nat) : Lg := ⟨l.from_, l.size, l.e, l.g, (l.nx + 1) % 18446744073709551616, l.at_ + cnt n⟩

set_option maxRecDepth 100000 in
set_option maxHeartbeats 4000000 in
theorem append_long (l : Lg) (d : DV) (A : Option Addr) (n c : Nat) (w : World) (hn : 8192 < n) (hm : n ≤ 1000000) :
    Calls Tryd.prog 21 #[l.v, d.v, .slice A n c] w fun e w' => e = .returned (.tuple #[DV.zero.v, Lg.zero.v, .int .i64 13]) ∧ Below w.heap.size w w' := by
    have t1 : (n : Int) > 8192 := by omega
    rw [show l.v = .agg #[.int .i64 l.from_, .int .i64 l.size, .int .u64 l.e, .int .u64 l.g, .int .u64 l.nx, .int .i64 l.at_] from rfl, show d.v = Value.agg #[.int .i64 d.n, .pointer d.s, .pointer d.c, .pointer d.l, .int .i64 d.m] from rfl]
    go_enter Tryd.func21, Tryd.ntmps21
    go_wp2_with fail
    generalize hw3 : World.alloc (World.alloc (World.alloc (World.alloc w _) _) _) _ = v3
    obtain ⟨k3, k4, k6, k7, B⟩ := four_boxes (cs1 := l.cs) (cs2 := d.cs) (cs3 := DV.zero.cs) (cs4 := Lg.zero.cs) hw3
    clear hw3
    obtain ⟨x0, x1, x2, x3, x4⟩ := k6.c5
    obtain ⟨e0, e1, e2, e3, e4, e5⟩ := k7.c6
    refine bodyPost_ret (v := .tuple #[DV.zero.v, Lg.zero.v, .int .i64 13]) (by simp [results, Tryd.results21, go_sem, x0, x1, x2, x3, x4, e0, e1, e2, e3, e4, e5]; exact ⟨rfl, rfl⟩) rfl ⟨rfl, B⟩
set_option maxRecDepth 100000 in
set_option maxHeartbeats 4000000 in
theorem append_full (l : Lg) (d : DV) (A : Option Addr) (n c : Nat) (w : World) (hok : l.ok) (hn : n ≤ 8192) (hf : l.left < cnt n) :
    Calls Tryd.prog 21 #[l.v, d.v, .slice A n c] w fun e w' => e = .returned (.tuple #[DV.zero.v, Lg.zero.v, .int .i64 11]) ∧ Below w.heap.size w w' := by
    have t1 : ¬ (n : Int) > 8192 := by omega
    have e1 : ((n : Int) + 8 + 80 - 1) / 80 = (cnt n : Int) := by unfold cnt; omega
    have t2 : (cnt n : Int) > (l.left : Int) := by omega
    have HL := hid (fun w => left_any l w hok)
    unfold Lg.v at HL
    generalize l.left = k at *
    generalize cnt n = K at *
    rw [show l.v = .agg #[.int .i64 l.from_, .int .i64 l.size, .int .u64 l.e, .int .u64 l.g, .int .u64 l.nx, .int .i64 l.at_] from rfl, show d.v = Value.agg #[.int .i64 d.n, .pointer d.s, .pointer d.c, .pointer d.l, .int .i64 d.m] from rfl]
    go_enter Tryd.func21, Tryd.ntmps21
    go_wp2_with fail
    generalize hw3 : World.alloc (World.alloc (World.alloc (World.alloc w _) _) _) _ = v3
    obtain ⟨k3, k4, k6, k7, B⟩ := four_boxes (cs1 := l.cs) (cs2 := d.cs) (cs3 := DV.zero.cs) (cs4 := Lg.zero.cs) hw3
    clear hw3
    refine (HL.out v3).mono ?_
    rintro e w4 ⟨rfl, b4⟩
    replace k6 := k6.keep b4
    replace k7 := k7.keep b4
    replace B := B.trans (b4.mono B.size)
    clear HL b4 k3 k4
    go_wp2_with (first
      | ((with_reducible refine is_store 38 ?_); refine wp_storeB (w.heap.size + 2) _ _ DV.zero.cs k6 diskN rfl (dv_one _) rfl rfl ?_; intro w5 k5 r5; go_frame)
      | ((with_reducible refine is_store 44 ?_); refine wp_storeB (w.heap.size + 3) _ _ Lg.zero.cs (k7.grown r5 (by simp)) logN rfl (lg_one _) rfl rfl ?_; intro w8 k8 r8; go_frame))
    have k5' := k5.grown r8 (by simp)
    obtain ⟨x0, x1, x2, x3, x4⟩ := k5'.c5
    obtain ⟨e0, e1, e2, e3, e4, e5⟩ := k8.c6
    refine bodyPost_ret (v := .tuple #[DV.zero.v, Lg.zero.v, .int .i64 11]) (by simp [results, Tryd.results21, go_sem, x0, x1, x2, x3, x4, e0, e1, e2, e3, e4, e5]; exact ⟨rfl, rfl⟩) rfl ⟨rfl, (B.grown r5 B.size (fun k hk => by cases hk; omega)).grown r8 (by have := B.size; have := r5.size; omega) (fun k hk => by cases hk; omega)⟩

set_option maxRecDepth 100000 in
set_option maxHeartbeats 4000000 in
theorem append_good (l : Lg) (d : DV) (D : Dk) (A : Option Addr) (n c : Nat) (p : List UInt8) (w : World) (hd : DkV w d D) (hT : Tab w) (hok : l.ok) (hp : RB w A n p) (hn : n ≤ 8192) (hf : cnt n ≤ l.left) (hin : l.from_ + l.size ≤ D.n) (hDW : D.W.length ≤ 1000000) :
    Calls Tryd.prog 21 #[l.v, d.v, .slice A n c] w fun e w' => ∃ d' : DV, e = .returned (.tuple #[d'.v, (l.app n).v, .int .i64 0]) ∧ DkV w' d' (putSecs D l.at_ (recSecs (tagB l.e l.g l.nx) p)) ∧ Below w.heap.size w w' := by
    have t1 : ¬ (n : Int) > 8192 := by omega
    have e1 : ((n : Int) + 8 + 80 - 1) / 80 = (cnt n : Int) := by unfold cnt; omega
    have t2 : ¬ (cnt n : Int) > (l.left : Int) := by omega
    have hfit : l.at_ + cnt n ≤ l.from_ + l.size := by unfold Lg.left at hf; have := cnt_pos n; omega
    have hdn := hd.hn
    have HL := hid (fun w => left_any l w hok)
    have HI := hid (fun w' => inside_yes d l.from_ l.size 0 w' (by rw [hd.n]; exact hin) (Nat.zero_le _) (by rw [hd.n]; exact hdn))
    have HRc := hid (fun w' (hb : Below w.heap.size w w') => record_any l A n c (cnt n) p w' hok (hT.below hb hT.pos) (hp.below hb) hn rfl)
    have HSL : Hid ((recSecs (tagB l.e l.g l.nx) p).length = cnt n) := hid (by rw [recSecs_len, hp.len])
    have HS128 := hid (recSecs_128 (tagB_len l.e l.g l.nx) p)
    have HOK := hid hok
    have hlf := hok.f
    have hls := hok.s
    have HDk := hid hd
    clear hd hp hT hok hf
    unfold Lg.v at HL HRc
    unfold DV.v at HI
    generalize l.left = lf at *
    generalize recSecs (tagB l.e l.g l.nx) p = secs at *
    obtain ⟨k, hk⟩ : ∃ z, cnt n = z := ⟨_, rfl⟩
    have HCn := hid hk
    rw [hk] at e1 t2 hfit HRc HSL
    clear hk
    rw [show l.v = .agg #[.int .i64 l.from_, .int .i64 l.size, .int .u64 l.e, .int .u64 l.g, .int .u64 l.nx, .int .i64 l.at_] from rfl, show d.v = Value.agg #[.int .i64 d.n, .pointer d.s, .pointer d.c, .pointer d.l, .int .i64 d.m] from rfl]
    go_enter Tryd.func21, Tryd.ntmps21
    go_wp2_with fail
    generalize hw3 : World.alloc (World.alloc (World.alloc (World.alloc w _) _) _) _ = v3
    obtain ⟨k3, k4, k6, k7, B⟩ := four_boxes (cs1 := l.cs) (cs2 := d.cs) (cs3 := DV.zero.cs) (cs4 := Lg.zero.cs) hw3
    clear hw3
    refine (HL.out v3).mono ?_
    rintro e w4 ⟨rfl, b4⟩
    replace k3 := k3.keep b4
    replace k4 := k4.keep b4
    replace k6 := k6.keep b4
    replace k7 := k7.keep b4
    replace B := B.trans (b4.mono B.size)
    clear HL b4
    obtain ⟨x0, x1, x2, x3, x4⟩ := k4.c5
    obtain ⟨z0, z1, z2, z3, z4, z5⟩ := k3.c6
    have l4 := k4.lt
    have l3 := k3.lt
    go_wp2_with fail
    refine (HI.out w4).mono ?_
    rintro e w5 ⟨rfl, b5⟩
    replace k3 := k3.keep b5
    replace k4 := k4.keep b5
    replace k6 := k6.keep b5
    replace k7 := k7.keep b5
    replace B := B.trans (b5.mono B.size)
    clear HI b5 x0 x1 x2 x3 x4 z0 z1 z2 z3 z4 z5 l4 l3
    obtain ⟨x0, x1, x2, x3, x4⟩ := k4.c5
    obtain ⟨z0, z1, z2, z3, z4, z5⟩ := k3.c6
    have l4 := k4.lt
    have l3 := k3.lt
    go_wp2_with fail
    refine (HRc.out w5 B).mono ?_
    rintro e w6 ⟨Ar, cr, rfl, hrr, b6⟩
    have hb7 : w.heap.size + 3 < w5.heap.size := k7.lt
    have hrr : SlR (fun b => w.heap.size + 3 < b) w6 ⟨Ar, 128 * k, cr⟩ secs.flatten := hrr.mono fun b hb => by omega
    replace k3 := k3.keep b6
    replace k4 := k4.keep b6
    replace k6 := k6.keep b6
    replace k7 := k7.keep b6
    replace B := B.trans (b6.mono B.size)
    have hd6 := HDk.out.keep B
    clear HRc b6 x0 x1 x2 x3 x4 z0 z1 z2 z3 z4 z5 l4 l3 hb7
    go_wp2_with fail
    go_loopg [10] k (fun gh v wr => ∃ (j : Nat) (Ar : Option Addr) (cr : Nat) (d' : DV), gh + j = k ∧ v = .slice Ar (128 * gh) cr ∧ SlR (fun b => w.heap.size + 3 < b) wr ⟨Ar, 128 * gh, cr⟩ (secs.drop j).flatten ∧ Blk wr (w.heap.size + 1) 38 d'.cs ∧ DkV wr d' (putSecs D l.at_ (secs.take j)) ∧
      Blk wr w.heap.size 44 (⟨l.from_, l.size, l.e, l.g, l.nx, l.at_ + j⟩ : Lg).cs ∧ Blk wr (w.heap.size + 2) 38 DV.zero.cs ∧ Blk wr (w.heap.size + 3) 44 Lg.zero.cs ∧ Below w.heap.size w wr)
    case atStart => exact ⟨0, Ar, cr, d, by omega, rfl, by simpa using hrr, k4, hd6, k3, k6, k7, B⟩
    case round =>
      obtain ⟨j, Ar, cr, d', hj, rfl, hrr, k4, hdj, k3, k6, k7, hbel⟩ := hrel
      by_cases hlt : 0 < gk
      · have hjk : j < k := by omega
        obtain ⟨sj, hsj⟩ : ∃ s, secs[j]? = some s := ⟨_, List.getElem?_eq_getElem (by rw [HSL.out]; exact hjk)⟩
        have hs128 := HS128.out sj (List.mem_of_getElem? hsj)
        have hdrop : secs.drop j = sj :: secs.drop (j + 1) := by
          obtain ⟨hlt', he⟩ := List.getElem?_eq_some_iff.1 hsj
          rw [← he]
          exact List.drop_eq_getElem_cons hlt'
        obtain ⟨hf1, hf2⟩ := flat_take (secs.drop j) (fun s hs => HS128.out s (List.mem_of_mem_drop hs)) sj _ hdrop
        have hDj : putSecs D l.at_ (secs.take (j + 1)) = (putSecs D l.at_ (secs.take j)).write (l.at_ + j) sj := by
          rw [List.take_add_one, hsj]
          show putSecs D l.at_ (secs.take j ++ [sj]) = _
          rw [putSecs_snoc, List.length_take, HSL.out, Nat.min_eq_left (Nat.le_of_lt hjk)]
        have HJ : Hid (l.at_ + j < (putSecs D l.at_ (secs.take j)).n ∧ (putSecs D l.at_ (secs.take j)).W.length < 4611686018427387904) := by
          refine hid ⟨by rw [putSecs_n]; omega, ?_⟩
          rw [putSecs_W, List.length_take, HSL.out]
          omega
        have HDj := hid hDj
        clear hDj
        obtain ⟨Dj, hDj2⟩ : ∃ z, putSecs D l.at_ (secs.take j) = z := ⟨_, rfl⟩
        rw [hDj2] at hdj HJ HDj
        clear hDj2
        have hrs : RB wr Ar 128 sj := by
          have := hrr.rb.pre (k := 128) (show 128 ≤ 128 * gk by omega)
          rwa [hf1] at this
        have hrc := hrr.nc
        have hrcm := hrr.cm
        dsimp only at hrc hrcm
        have t3 : (128 * (gk : Int)) > 0 := by omega
        obtain rfl : gk = k - j := by omega
        have n128 : ¬ cr = 128 ∨ cr = 128 := by omega
        go_wp2_with fail
        have l3 := k3.lt
        refine wp_region_headF 68 9 [48, 49, 50, 51, 52, 53, 47, 54, 55] [8] ((fun kq => ([fun u w' => u = d'.v, fun u w' => u = .pointer (some ⟨w.heap.size, 5, none⟩), fun u w' => u = .int .i64 ((l.at_ + j : Nat) : Int), fun u w' => u = .slice Ar (128 * (k - j)) cr, fun u w' => u = .slice Ar 128 128, fun u w' => ∃ (d2 : DV), u = .tuple #[d2.v, .int .i64 0] ∧ DkV w' d2 (Dj.write (l.at_ + j) sj), fun u w' => ∃ (d2 : DV), u = .tuple #[d2.v, .int .i64 0] ∧ DkV w' d2 (Dj.write (l.at_ + j) sj), fun u w' => ∃ (d2 : DV), u = d2.v ∧ DkV w' d2 (Dj.write (l.at_ + j) sj), fun u w' => u = .int .i64 0] : List (Value → World → Prop)).getD kq (fun _ _ => True))) (by kernel_rfl) rfl (by kernel_rfl) ?grow ?step ?tail
        case step =>
          simp only [List.take_succ_cons, List.take_zero]
          refine HSteps.cons ?_ ?_
          · intro f w' hb hU
            obtain ⟨x0', x1', x2', x3', x4'⟩ := (k4.keep hb).c5
            simp only [putAll, List.foldl_cons, List.foldl_nil]
            go_frame
            go_wp2_with fail
            exact ⟨rfl, _, rfl, Below.refl _ _, rfl⟩
          refine HSteps.cons ?_ ?_
          · intro f w' hb hU
            simp only [putAll, List.foldl_cons, List.foldl_nil]
            go_frame
            go_wp2_with fail
            exact ⟨rfl, _, rfl, Below.refl _ _, rfl⟩
          refine HSteps.cons ?_ ?_
          · intro f w' hb hU
            obtain u1 : f 49 = .pointer (some ⟨w.heap.size, 5, none⟩) := hU.get ⟨1, .data⟩ (by simp) rfl
            obtain ⟨x0', x1', x2', x3', x4', x5'⟩ := (k3.keep hb).c6
            simp only [putAll, List.foldl_cons, List.foldl_nil]
            go_frame
            try simp only [u1]
            go_wp2_with fail
            exact ⟨rfl, _, rfl, Below.refl _ _, rfl⟩
          refine HSteps.cons ?_ ?_
          · intro f w' hb hU
            simp only [putAll, List.foldl_cons, List.foldl_nil]
            go_frame
            go_wp2_with fail
            exact ⟨rfl, _, rfl, Below.refl _ _, rfl⟩
          refine HSteps.cons ?_ ?_
          · intro f w' hb hU
            obtain u3 : f 51 = .slice Ar (128 * (k - j)) cr := hU.get ⟨3, .data⟩ (by simp) rfl
            simp only [putAll, List.foldl_cons, List.foldl_nil]
            go_frame
            try simp only [u3]
            go_wp2_with fail
            exact ⟨rfl, _, rfl, Below.refl _ _, rfl⟩
          refine HSteps.cons ?_ ?_
          · intro f w' hb hU
            obtain u0 : f 48 = d'.v := hU.get ⟨0, .data⟩ (by simp) rfl
            obtain u2 : f 50 = .int .i64 ((l.at_ + j : Nat) : Int) := hU.get ⟨2, .data⟩ (by simp) rfl
            obtain u4 : f 52 = .slice Ar 128 128 := hU.get ⟨4, .data⟩ (by simp) rfl
            have R := write_good d' Dj Ar 128 sj (l.at_ + j) w' (hdj.keep hb) HJ.out.1 (hrs.below hb) HJ.out.2
            simp only [putAll, List.foldl_cons, List.foldl_nil]
            go_frame
            try simp only [u0, u2, u4]
            go_wp2_with fail
            refine (R).mono ?_
            rintro e w3 ⟨d2, rfl, hd2, b3⟩
            go_wp2_with fail
            exact ⟨rfl, _, rfl, b3, d2, rfl, hd2⟩
          refine HSteps.cons ?_ ?_
          · intro f w' hb hU
            obtain ⟨d2, u5, v5_0⟩ : ∃ (d2 : DV), f 53 = .tuple #[d2.v, .int .i64 0] ∧ DkV w' d2 (Dj.write (l.at_ + j) sj) := hU.get ⟨5, .data⟩ (by simp) rfl
            simp only [putAll, List.foldl_cons, List.foldl_nil]
            go_frame
            try simp only [u5]
            go_wp2_with fail
            exact ⟨rfl, _, rfl, Below.refl _ _, d2, rfl, v5_0⟩
          refine HSteps.cons ?_ ?_
          · intro f w' hb hU
            obtain ⟨d2, u6, v6_0⟩ : ∃ (d2 : DV), f 47 = .tuple #[d2.v, .int .i64 0] ∧ DkV w' d2 (Dj.write (l.at_ + j) sj) := hU.get ⟨6, .data⟩ (by simp) rfl
            simp only [putAll, List.foldl_cons, List.foldl_nil]
            go_frame
            try simp only [u6]
            go_wp2_with fail
            exact ⟨rfl, _, rfl, Below.refl _ _, d2, rfl, v6_0⟩
          refine HSteps.cons ?_ ?_
          · intro f w' hb hU
            obtain ⟨d2, u6, v6_0⟩ : ∃ (d2 : DV), f 47 = .tuple #[d2.v, .int .i64 0] ∧ DkV w' d2 (Dj.write (l.at_ + j) sj) := hU.get ⟨6, .data⟩ (by simp) rfl
            simp only [putAll, List.foldl_cons, List.foldl_nil]
            go_frame
            try simp only [u6]
            go_wp2_with fail
            exact ⟨rfl, _, rfl, Below.refl _ _, rfl⟩
          exact HSteps.nil
        case grow =>
          intro kq u wa wb hb hu
          rcases kq with _ | _ | _ | _ | _ | _ | _ | _ | _ | kq
          · exact hu
          · exact hu
          · exact hu
          · exact hu
          · exact hu
          · obtain ⟨d2, ue, uf0⟩ := hu
            exact ⟨d2, ue, uf0.keep hb⟩
          · obtain ⟨d2, ue, uf0⟩ := hu
            exact ⟨d2, ue, uf0.keep hb⟩
          · obtain ⟨d2, ue, uf0⟩ := hu
            exact ⟨d2, ue, uf0.keep hb⟩
          · exact hu
          · trivial
        case tail =>
          intro f w7 hb7 hU
          obtain ⟨d2, u7, v7_0⟩ : ∃ (d2 : DV), f 54 = d2.v ∧ DkV w7 d2 (Dj.write (l.at_ + j) sj) := hU.get 7 (by decide)
          simp only [List.drop_succ_cons, List.drop_zero, putAll, List.foldl_cons, List.foldl_nil]
          go_frame
          simp only [u7]
          clear u7
          clear hU
          have m3 := k3.keep hb7
          have m4 := k4.keep hb7
          have m6 := k6.keep hb7
          have m7 := k7.keep hb7
          have C := hbel.trans (hb7.mono hbel.size)
          have hr7 := hrr.keep hb7
          clear hb7 hrs hdj k3 k4 k6 k7 hbel hrr l3
          go_wp2_with ((with_reducible refine is_store 38 ?_); refine wp_storeB (w.heap.size + 1) _ _ d2.cs m4 diskN rfl (dv_one _) rfl rfl ?_; intro w8 k8 r8; go_frame)
          refine noPanic_ok ?_
          have hd8 := v7_0.kept (Kept.grown r8 m4 notDk)
          rw [← HDj.out] at hd8
          have n3 := m3.grown r8 (by simp)
          have n6 := m6.grown r8 (by simp)
          have n7 := m7.grown r8 (by simp)
          have C8 := C.grown r8 C.size (fun q hq => by cases hq; omega)
          have hr8 := sl_cut (hr7.grown r8 (fun g hg hN => by cases hg; omega)) (k := 128) (by omega)
          rw [hf2, show 128 * (k - j) - 128 = 128 * (k - (j + 1)) by omega] at hr8
          obtain ⟨A2, hA2⟩ : ∃ z, (if cr = 128 then Ar else Ar.map (·.add 128)) = z := ⟨_, rfl⟩
          rw [hA2] at hr8
          have ks : ∀ wx, (Instr.slice 25 (.slice Ar (128 * (k - j)) cr) (some (.int .i64 128)) none none).run Tryd.prog wx = .ok (.slice A2 (128 * (k - (j + 1))) (cr - 128)) wx := fun wx => by
            have := run_from (P := Tryd.prog) 25 5 Tryd.underlying25 bytesN Ar (128 * (k - j)) cr 128 .i64 128 rfl (by omega) wx
            rwa [hA2, show 128 * (k - j) - 128 = 128 * (k - (j + 1)) by omega] at this
          clear m3 m4 m6 m7 C hr7 r8 v7_0 hA2 hf1 hf2
          have l3 := n3.lt
          obtain ⟨z0, z1, z2, z3, z4, z5⟩ := n3.c6
          dsimp only at z0 z1 z2 z3 z4 z5
          go_wp2_with ((with_reducible refine is_store 3 ?_); refine wp_store1 w.heap.size 5 _ _ (.int .i64 ((l.at_ : Int) + (j : Int) + 1)) n3 rfl numN.2 (by simp [Lg.cs]) rfl rfl rfl ?_; intro w9 k9 r9; go_frame)
          have k9' : Blk w9 w.heap.size 44 (⟨l.from_, l.size, l.e, l.g, l.nx, l.at_ + (j + 1)⟩ : Lg).cs := by
            have := k9
            simp only [Lg.cs, List.set_cons_succ, List.set_cons_zero] at this ⊢
            rw [show ((l.at_ + (j + 1) : Nat) : Int) = (l.at_ : Int) + (j : Int) + 1 by omega]
            exact this
          have q8 := k8.grown r9 (by simp)
          have q6 := n6.grown r9 (by simp)
          have q7 := n7.grown r9 (by simp)
          have hd9 := hd8.kept (Kept.grown r9 n3 (by unfold dkT; decide))
          have C9 := C8.grown r9 C8.size (fun q hq => by cases hq; omega)
          have hr9 := hr8.grown r9 (fun g hg hN => by cases hg; omega)
          clear z0 z1 z2 z3 z4 z5 l3 n3 n6 n7 k8 k9 r9 hd8 C8 hr8 ks
          go_roundg (k - (j + 1))
          case measure => omega
          case rel => exact ⟨j + 1, A2, cr - 128, d2, by omega, rfl, hr9, q8, hd9, k9', q6, q7, C9⟩
      · obtain rfl : gk = 0 := by omega
        obtain rfl : j = k := by omega
        have t3 : ¬ (128 * ((0 : Nat) : Int)) > 0 := by omega
        rw [List.take_of_length_le (by rw [HSL.out]; exact Nat.le_refl _)] at hdj
        have l3 := k3.lt
        have l4 := k4.lt
        have f3 := k3.fz
        obtain ⟨z0, z1, z2, z3, z4, z5⟩ := k3.c6
        dsimp only at z0 z1 z2 z3 z4 z5
        obtain ⟨nx2, hnx2⟩ : ∃ z, (l.nx + 1) % 18446744073709551616 = z := ⟨_, rfl⟩
        have HNX := hid hnx2
        have eg : IntKind.u64.wrap ((l.nx : Int) + 1) = (nx2 : Int) := by rw [IntKind.wrap_u64]; omega
        clear hnx2
        go_wp2_with ((with_reducible refine is_store 27 ?_); refine wp_store1 w.heap.size 4 _ _ (.int .u64 nx2) k3 rfl numN.1 (by simp [Lg.cs]) rfl rfl rfl ?_; intro w9 k9 r9; go_frame)
        have k9' : Blk w9 w.heap.size 44 (⟨l.from_, l.size, l.e, l.g, nx2, l.at_ + j⟩ : Lg).cs := k9
        have n4 := k4.grown r9 (by simp)
        have n6 := k6.grown r9 (by simp)
        have n7 := k7.grown r9 (by simp)
        have hd9 := hdj.kept (Kept.grown r9 k3 (by unfold dkT; decide))
        have C9 := hbel.grown r9 hbel.size (fun q hq => by cases hq; exact Nat.le_refl _)
        clear z0 z1 z2 z3 z4 z5 l3 l4 f3 k3 k4 k6 k7 r9 k9 hdj hbel hrr
        have m3 := k9'.lt
        have m4 := n4.lt
        have m6 := n6.lt
        have m7 := n7.lt
        have f6 := n6.fz
        obtain ⟨x0, x1, x2, x3, x4⟩ := n4.c5
        obtain ⟨z0, z1, z2, z3, z4, z5⟩ := k9'.c6
        dsimp only at z0 z1 z2 z3 z4 z5
        obtain ⟨y0, y1, y2, y3, y4⟩ := n6.c5
        obtain ⟨s6, g6⟩ := set5 n6 rfl (.int .i64 d'.n) (.pointer d'.s) (.pointer d'.c) (.pointer d'.l) (.int .i64 d'.m)
        have k9s := k9'.grown g6 (by simp)
        have n7s := n7.grown g6 (by simp)
        have f7 := n7s.fz
        obtain ⟨b0, b1, b2, b3, b4, b5⟩ := k9s.c6
        dsimp only at b0 b1 b2 b3 b4 b5
        obtain ⟨c0, c1, c2, c3, c4, c5⟩ := n7s.c6
        go_region
        obtain ⟨s7, g7⟩ := set6 n7s rfl (.int .i64 l.from_) (.int .i64 l.size) (.int .u64 l.e) (.int .u64 l.g) (.int .u64 nx2) (.int .i64 ((l.at_ : Int) + (j : Int)))
        have hd10 := hd9.kept (Kept.grown g6 n6 notDk)
        have hd11 := hd10.kept (Kept.grown g7 n7s (by unfold dkT; decide))
        have C10 := C9.grown g6 C9.size (fun q hq => by cases hq; omega)
        have C11 := C10.grown g7 C10.size (fun q hq => by cases hq; omega)
        have s6' := s6.grown g7 (by simp)
        clear x0 x1 x2 x3 x4 z0 z1 z2 z3 z4 z5 y0 y1 y2 y3 y4 b0 b1 b2 b3 b4 b5 c0 c1 c2 c3 c4 c5 f6 f7 s6 k9s n7s hd9 hd10 C9 C10 g6 g7 k9' n4 n6 n7 m3 m4 m6 m7
        generalize World.setCell (World.setCell _ _ _) _ _ = w11 at s7 s6' hd11 C11 ⊢
        obtain ⟨a0, a1, a2, a3, a4⟩ := (show Blk w11.drew _ _ _ from s6').c5
        obtain ⟨e0, e1', e2, e3, e4, e5⟩ := (show Blk w11.drew _ _ _ from s7).c6
        go_wp2_with fail
        refine bodyPost_ret (v := .tuple #[d'.v, .agg #[.int .i64 l.from_, .int .i64 l.size, .int .u64 l.e, .int .u64 l.g, .int .u64 nx2, .int .i64 ((l.at_ : Int) + (j : Int))], .int .i64 0]) (by simp [results, Tryd.results21, go_sem, a0, a1, a2, a3, a4, e0, e1', e2, e3, e4, e5]; rfl) rfl ?_
        refine ⟨d', ?_, hd11.keep (Below.refl _ _).drew, C11.drew⟩
        unfold Lg.app Lg.v
        rw [HNX.out, HCn.out]
        rfl
end Go.Proofs.YtlokfndonjldpaaDoor

