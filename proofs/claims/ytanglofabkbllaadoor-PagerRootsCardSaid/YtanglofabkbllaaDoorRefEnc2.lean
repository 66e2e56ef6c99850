/- The reference's Wrong and Encode. Conditions: those of each theorem. -/
import Derived.Test.YtanglofabkbllaaDoorRefEnc
import Derived.Test.YtanglofabkbllaaDoorEncode
set_option linter.unusedSimpArgs false
set_option linter.unusedVariables false
namespace Go.Proofs.YtanglofabkbllaaDoor
open Go.RowKit

theorem own_full (w : World) (t : TypeId) (cs : Array Value) (n base : Nat) (hb : base ≤ w.heap.size) (hn : cs.size = n) (hm : n ≤ maxLen) : (w.alloc (.cells cs t)).ownsRow base t 1 (.slice (some ⟨w.heap.size, 0, none⟩) n n) n cs.toList :=
  ⟨by simp [hn], .inr ⟨w.heap.size, n, cs, rfl, hb, heap_alloc_new w _, Nat.le_refl _, hm, by omega, by rw [List.take_of_length_le (by simp; omega)]⟩⟩
theorem two_only {x y : Value} (hx : x.oneCell' = true) (hy : y.oneCell' = true) : ∀ u ∈ (#[x, y] : Array Value).toList, u.oneCell' = true := by
  intro u hu
  simp at hu
  rcases hu with rfl | rfl
  · exact hx
  · exact hy

theorem encode_ref (id kind stamp : Nat) (A : Option Addr) (n c : Nat) (l : List UInt8) (w : World) (hb : RB w A n l) (h1 : id ≤ 2147483647) (h2 : kind ≤ 255) (h3 : n ≤ 1000) (h4 : stamp < 18446744073709551616) :
    Calls Tryd.prog 73 #[pageV id stamp kind A n c] w fun e w' => ∃ v, e = .returned v ∧ w'.ownsRow w.heap.size 5 1 v 1024 ((encoded id stamp kind l).map byV) ∧ Below w.heap.size w w' := by
  have HL := hid hb.len
  unfold pageV
  go_enter Tryd.func73, Tryd.ntmps73
  go_wp2_with fail
  have e0 : (w.alloc (.cells #[.int .i64 id, .int .u64 stamp, .int .i64 kind, .slice A n c] 114)).heap.size = w.heap.size + 1 := by simp
  have hP0 := (Blk.new w 114 [.int .i64 id, .int .u64 stamp, .int .i64 kind, .slice A n c]).keep ((Below.refl _ _).alloc (Nat.le_refl _) (.cells #[.int .u8 79, .int .u8 80, .int .u8 71, .int .u8 49] 5))
  have hB0 : Below w.heap.size w ((w.alloc (.cells #[.int .i64 id, .int .u64 stamp, .int .i64 kind, .slice A n c] 114)).alloc (.cells #[.int .u8 79, .int .u8 80, .int .u8 71, .int .u8 49] 5)) :=
    ((Below.refl _ _).alloc (Nat.le_refl _) _).alloc (by simp) _
  have hown0 : ((w.alloc (.cells #[.int .i64 id, .int .u64 stamp, .int .i64 kind, .slice A n c] 114)).alloc (.cells #[.int .u8 79, .int .u8 80, .int .u8 71, .int .u8 49] 5)).ownsRow (w.heap.size + 1) 5 1 (.slice (some ⟨w.heap.size + 1, 0, none⟩) 4 4) 4 (([79, 80, 71, 49] : List UInt8).map byV) := by
    have := own_full (w.alloc (.cells #[.int .i64 id, .int .u64 stamp, .int .i64 kind, .slice A n c] 114)) 5 #[.int .u8 79, .int .u8 80, .int .u8 71, .int .u8 49] 4 (w.heap.size + 1) (by rw [e0]; exact Nat.le_refl _) rfl (by unfold maxLen; omega)
    rw [e0] at this
    exact this
  have hs0 : w.heap.size + 1 ≤ ((w.alloc (.cells #[.int .i64 id, .int .u64 stamp, .int .i64 kind, .slice A n c] 114)).alloc (.cells #[.int .u8 79, .int .u8 80, .int .u8 71, .int .u8 49] 5)).heap.size := by simp
  generalize ((w.alloc (.cells #[.int .i64 id, .int .u64 stamp, .int .i64 kind, .slice A n c] 114)).alloc (.cells #[.int .u8 79, .int .u8 80, .int .u8 71, .int .u8 49] 5)) = w0 at hP0 hB0 hown0 hs0 ⊢
  clear e0
  refine (little_any (w.heap.size + 1) _ _ _ id 4 _ hown0 (by omega) (by omega) (by omega) hs0).mono ?_
  rintro e w1 ⟨v1, rfl, hown1, b1⟩
  have hs1 : w.heap.size + 1 ≤ w1.heap.size := Nat.le_trans hs0 b1.size
  have hP1 := hP0.below b1 (Nat.lt_succ_self _)
  have hB1 : Below w.heap.size w w1 := hB0.trans (b1.mono (Nat.le_succ _))
  clear hown0 b1 hP0 hB0 hs0
  have c1 : w1.cell? ⟨w.heap.size, 1, none⟩ = some (.int .u64 stamp) := hP1.cell 1
  go_wp2_with fail
  refine (little_any (w.heap.size + 1) _ _ _ stamp 8 _ hown1 (by omega) (by omega) (by omega) hs1).mono ?_
  rintro e w2 ⟨v2, rfl, hown2, b2⟩
  have hs2 : w.heap.size + 1 ≤ w2.heap.size := Nat.le_trans hs1 b2.size
  have hP2 := hP1.below b2 (Nat.lt_succ_self _)
  have hB2 : Below w.heap.size w w2 := hB1.trans (b2.mono (Nat.le_succ _))
  clear hown1 b2 hP1 hB1 hs1 c1
  have c2 : w2.cell? ⟨w.heap.size, 2, none⟩ = some (.int .i64 kind) := hP2.cell 2
  go_wp2_with (at_builtin; refine wp_app _ rfl _ _ 40 rfl (w.heap.size + 1) 5 _ 1 bytesT _ _ _ (hown2.alloc _) rfl _ 2 2 _ (RL.new w2 _ _ _ 1 2 rfl) rfl (two_only rfl rfl) (by unfold maxLen; omega) (by omega) (by simp; omega) ?_; intro v3 w3 hown3 g3 a3; have b3 : Below (w.heap.size + 1) w2 w3 := ((Below.refl _ _).alloc hs2 _).grown g3 (by simp; omega) (fun g hg => (hown2.lt g hg).1); have hP3 := hP2.below b3 (Nat.lt_succ_self _); have c3 : w3.cell? ⟨w.heap.size, 3, none⟩ = some (.slice A n c) := hP3.cell 3)
  have hs3 : w.heap.size + 1 ≤ w3.heap.size := Nat.le_trans hs2 b3.size
  have hB3 : Below w.heap.size w w3 := hB2.trans (b3.mono (Nat.le_succ _))
  clear hown2 b3 hP2 hB2 hs2 c2 g3 a3 c3
  refine (little_any (w.heap.size + 1) _ _ _ n 2 _ hown3 (by omega) (by omega) (by omega) hs3).mono ?_
  rintro e w4 ⟨v4, rfl, hown4, b4⟩
  have hs4 : w.heap.size + 1 ≤ w4.heap.size := Nat.le_trans hs3 b4.size
  have hP4 := hP3.below b4 (Nat.lt_succ_self _)
  have hB4 : Below w.heap.size w w4 := hB3.trans (b4.mono (Nat.le_succ _))
  clear hown3 b4 hP3 hB3 hs3
  have c4 : w4.cell? ⟨w.heap.size, 3, none⟩ = some (.slice A n c) := hP4.cell 3
  go_wp2_with (at_builtin; refine wp_app _ rfl _ _ 40 rfl (w.heap.size + 1) 5 _ 1 bytesT _ _ _ hown4 rfl _ _ _ _ (hb.below hB4) rfl (byV_one _) (by unfold maxLen; omega) (by omega) hs4 ?_; intro v5 w5 hown5 g5 a5)
  have b5 : Below (w.heap.size + 1) w4 w5 := (Below.refl _ _).grown g5 hs4 (fun g hg => (hown4.lt g hg).1)
  have hs5 : w.heap.size + 1 ≤ w5.heap.size := Nat.le_trans hs4 b5.size
  have hB5 : Below w.heap.size w w5 := hB4.trans (b5.mono (Nat.le_succ _))
  clear hown4 b5 hP4 hB4 hs4 c4 g5 a5
  have eK : byV (UInt8.ofNat kind) = .int .u8 kind := by unfold byV N8; congr 1; simp; omega
  have e5 : (([79, 80, 71, 49] : List UInt8).map byV ++ (le 4 id).map byV ++ (le 8 stamp).map byV ++ [Value.int .u8 kind, .int .u8 0] ++ (le 2 n).map byV ++ l.map byV) = ([79, 80, 71, 49] ++ le 4 id ++ le 8 stamp ++ [UInt8.ofNat kind, 0] ++ le 2 n ++ l).map byV := by
    simp only [List.map_append, List.map_cons, List.map_nil, eK]; rfl
  have hown6 : w5.ownsRow (w.heap.size + 1) 5 1 v5 (20 + n) (([79, 80, 71, 49] ++ le 4 id ++ le 8 stamp ++ [UInt8.ofNat kind, 0] ++ le 2 n ++ l).map byV) := by
    rw [← e5]; exact hown5
  have HP : Hid (([79, 80, 71, 49] ++ le 4 id ++ le 8 stamp ++ [UInt8.ofNat kind, 0] ++ le 2 n ++ l ++ zeroB (1004 - n)).take 1020 = plainPage id stamp kind l) := by
    show _ = _
    have hl : ([79, 80, 71, 49] ++ le 4 id ++ le 8 stamp ++ [UInt8.ofNat kind, 0] ++ le 2 n ++ l : List UInt8).length = 20 + n := by simp; rw [HL.out]; omega
    rw [List.take_append, hl, List.take_of_length_le (by rw [hl]; omega)]
    unfold plainPage zeroB
    rw [HL.out, List.take_replicate]
    congr 2
    omega
  clear hown5 e5 eK
  generalize ([79, 80, 71, 49] ++ le 4 id ++ le 8 stamp ++ [UInt8.ofNat kind, 0] ++ le 2 n ++ l : List UInt8) = pre at hown6 HP
  go_loopw [3] (fun b wr => ∃ k : Nat, k ≤ 1004 - n ∧ wr.ownsRow (w.heap.size + 1) 5 1 b (20 + n + k) ((pre ++ zeroB k).map byV) ∧ Below w.heap.size w wr ∧ w.heap.size + 1 ≤ wr.heap.size) (fun b _ => match b with | .slice _ m _ => 1024 - m | _ => 0)
  case atStart => exact ⟨0, Nat.zero_le _, by simpa [zeroB] using hown6, hB5, hs5⟩
  case round =>
    obtain ⟨k, hk, hown, hbel, hsz⟩ := hrel
    obtain ⟨A1, k1, rfl, hr1, hc1, hm1⟩ := own_form hown
    clear hown6 hB5 hs5
    by_cases hlt : 20 + n + k < 1024
    · have hlt2 : ((20 + n + k : Nat) : Int) < 1024 := by omega
      have HZ : Hid (zeroB (k + 1) = zeroB k ++ [0]) := by show _ = _; unfold zeroB; rw [List.replicate_succ']
      generalize hz : zeroB k = zk at *
      generalize hmm : 20 + n + k = mm at *
      go_wp2_with (at_builtin; refine wp_app _ rfl _ _ 40 rfl (w.heap.size + 1) 5 _ 1 bytesT _ _ _ (hown.alloc _) rfl _ 1 1 _ (RL.new wr _ _ _ 1 1 rfl) rfl (one_only rfl) (by unfold maxLen; omega) (by omega) (by simp; omega) ?_; intro v7 w7 hown7 g7 a7)
      have hB7 : Below w.heap.size w w7 := (hbel.alloc hbel.size _).grown g7 (by have := hbel.size; simp; omega) (fun g hg => by have := (hown.lt g hg).1; omega)
      have hS7 := g7.size
      obtain ⟨A7, k7, rfl, hr7, hc7, hm7⟩ := own_form hown7
      go_roundw
      case rel =>
        refine ⟨k + 1, by omega, ?_, hB7, by simp at hS7; omega⟩
        rw [HZ.out, show 20 + n + (k + 1) = mm + 1 by omega, ← List.append_assoc, List.map_append]
        exact hown7
      case measure =>
        show 1024 - (mm + 1) < 1024 - mm
        omega
    · have hke : k = 1004 - n := by omega
      have hlt2 : ¬ ((20 + n + k : Nat) : Int) < 1024 := by omega
      generalize hmm : 20 + n + k = mm at *
      go_wp2_with fail
      subst hke
      refine (seal_any _ _ _ _ _ hr1 (by omega) hc1 hm1).mono ?_
      rintro e w' ⟨v, rfl, hownS, hbS⟩
      go_wp2_with fail
      go_ret
      rw [HP.out] at hownS
      exact ⟨_, rfl, own_base hownS hbel.size, hbel.trans (hbS.mono hbel.size)⟩
end Go.Proofs.YtanglofabkbllaaDoor
