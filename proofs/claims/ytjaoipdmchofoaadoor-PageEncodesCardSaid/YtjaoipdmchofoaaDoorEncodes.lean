/- The walk of PageEncodes. Conditions: the table of remainders is laid; the page's body reads. -/
import Derived.Test.YtjaoipdmchofoaaDoorHelp
set_option linter.unusedSimpArgs false
set_option linter.unusedVariables false
namespace Go.Proofs.YtjaoipdmchofoaaDoor
open Go.RowKit

theorem encodes_walk (p : Pg) (w : World) (hT : Tab w) (hp : p.ok w) :
    Calls Tryd.prog 3 #[p.v] w fun e w' => e = .returned (.bool true) ∧ Below w.heap.size w w' := by
  obtain ⟨id, stamp, kind, A, n, c, l⟩ := p
  obtain ⟨rb, nc, cm, hs, i0, i1, k0, k1⟩ := hp
  simp only [Pg.v] at *
  have hB1 : ∀ o, Below w.heap.size w (w.alloc o) := fun o => (Below.refl _ _).alloc (Nat.le_refl _) _
  by_cases hn : n > 1100
  · have hn' : (n : Int) > 1100 := by omega
    unfold pageV
    go_enter Tryd.func3, Tryd.ntmps3
    go_wp2_with fail
    refine (awake_any _ (hT.alloc _)).mono ?_
    rintro e w' ⟨rfl, hb⟩
    go_wp2_with fail
    go_ret
    exact ⟨rfl, (hB1 _).trans (hb.mono (by simp))⟩
  · have hn' : ¬ (n : Int) > 1100 := by omega
    by_cases hw : wrong id kind n = 0
    · obtain ⟨i, k, rfl, rfl, h1, h2, h3⟩ := right_of hw
      unfold pageV
      go_enter Tryd.func3, Tryd.ntmps3
      go_wp2_with fail
      have hP : Blk (w.alloc (.cells #[.int .i64 i, .int .u64 stamp, .int .i64 k, .slice A n c] 25)) w.heap.size 25 [.int .i64 i, .int .u64 stamp, .int .i64 k, .slice A n c] := Blk.new w _ _
      have hB : Below w.heap.size w (w.alloc (.cells #[.int .i64 i, .int .u64 stamp, .int .i64 k, .slice A n c] 25)) := (Below.refl _ _).alloc (Nat.le_refl _) _
      have hS : (w.alloc (.cells #[.int .i64 i, .int .u64 stamp, .int .i64 k, .slice A n c] 25)).heap.size = w.heap.size + 1 := by simp
      generalize (w.alloc (.cells #[.int .i64 i, .int .u64 stamp, .int .i64 k, .slice A n c] 25)) = w1 at hP hB hS ⊢
      refine (encode_good i k stamp A n c l _ (hT.keep hB) (rb.below hB) h1 h2 h3 hs).mono ?_
      rintro e w2 ⟨v, rfl, hown, hb2⟩
      obtain ⟨A1, c1, rfl, hr1, hc1, hm1⟩ := own_form hown
      have hP2 := hP.keep hb2
      obtain ⟨g0, g1, g2, g3⟩ := hP2.c4
      have rb2 := (rb.below hB).below hb2
      go_wp2_with fail
      refine (wrong_any i k stamp A n c _ (by omega)).mono ?_
      rw [hw]
      rintro e w3 ⟨rfl, hb3⟩
      obtain ⟨g0, g1, g2, g3⟩ := (hP2.keep hb3).c4
      have hP3 := hP2.keep hb3
      have hB3 := (hB.trans (hb2.mono hB.size)).trans (hb3.mono (hB.trans (hb2.mono hB.size)).size)
      go_wp2_with fail
      refine (encode_ref i k stamp A n c l _ (rb.below hB3) h1 h2 h3 hs).mono ?_
      rintro e w4 ⟨v, rfl, hown4, hb4⟩
      obtain ⟨A4, c4, rfl, hr4, hc4, hm4⟩ := own_form hown4
      go_wp2_with fail
      refine (equal_any _ _ _ _ _ _ (encoded i stamp k l) (encoded i stamp k l) _ ((RL.below hr1 hb3).below hb4) hr4).mono ?_
      rw [beq_self_eq_true]
      rintro e w5 ⟨rfl, rfl⟩
      have hB4 := hB3.trans (hb4.mono hB3.size)
      go_wp2_with fail
      refine (awake_any _ (hT.keep hB4)).mono ?_
      rintro e w' ⟨rfl, hb⟩
      go_wp2_with fail
      go_ret
      exact ⟨rfl, hB4.trans (hb.mono hB4.size)⟩
    · have hw2 : (wrong id kind n == 0) = false := by rw [beq_eq_false_iff_ne]; exact hw
      have hw3 : (wrong id kind n != 0) = true := by rw [bne_iff_ne]; exact hw
      unfold pageV
      go_enter Tryd.func3, Tryd.ntmps3
      go_wp2_with fail
      have hP : Blk (w.alloc (.cells #[.int .i64 id, .int .u64 stamp, .int .i64 kind, .slice A n c] 25)) w.heap.size 25 [.int .i64 id, .int .u64 stamp, .int .i64 kind, .slice A n c] := Blk.new w _ _
      have hB : Below w.heap.size w (w.alloc (.cells #[.int .i64 id, .int .u64 stamp, .int .i64 kind, .slice A n c] 25)) := (Below.refl _ _).alloc (Nat.le_refl _) _
      have hS : (w.alloc (.cells #[.int .i64 id, .int .u64 stamp, .int .i64 kind, .slice A n c] 25)).heap.size = w.heap.size + 1 := by simp
      generalize (w.alloc (.cells #[.int .i64 id, .int .u64 stamp, .int .i64 kind, .slice A n c] 25)) = w1 at hP hB hS ⊢
      refine (encode_bad id kind stamp A n c _ (by omega) hw).mono ?_
      rintro e w2 ⟨rfl, hb2⟩
      have hP2 := hP.keep hb2
      obtain ⟨g0, g1, g2, g3⟩ := hP2.c4
      go_wp2_with fail
      refine (wrong_any id kind stamp A n c _ (by omega)).mono ?_
      rintro e w3 ⟨rfl, hb3⟩
      have hB3 := (hB.trans (hb2.mono hB.size)).trans (hb3.mono (hB.trans (hb2.mono hB.size)).size)
      clear hw
      go_wp2_with fail
      refine (awake_any _ (hT.keep hB3)).mono ?_
      rintro e w' ⟨rfl, hb⟩
      go_wp2_with fail
      go_ret
      exact ⟨rfl, hB3.trans (hb.mono hB3.size)⟩
end Go.Proofs.YtjaoipdmchofoaaDoor
