/- ChecksumJoins: the walk. Conditions: the table of remainders is laid. -/
import Derived.Test.YtdclpabfnfmikaaDoorSum
import Derived.Test.YtdclpabfnfmikaaDoorEnd
set_option linter.unusedSimpArgs false
set_option linter.unusedVariables false
namespace Go.Proofs.YtdclpabfnfmikaaDoor
open Go.RowKit

/-- a byte string in memory, with its slice -/
structure BS where
  A : Option Addr
  n : Nat
  c : Nat
  l : List UInt8
def BS.v (s : BS) : List Value := [.slice s.A s.n s.c]
def BS.ok (w : World) (s : BS) : Prop := RB w s.A s.n s.l ∧ s.n ≤ s.c ∧ s.c ≤ 9223372036854775807
def joined (X : List BS) : List UInt8 := X.flatMap fun s => s.l
theorem joined_snoc {X : List BS} {k : Nat} {s : BS} (h : X[k]? = some s) : joined (X.take (k + 1)) = joined (X.take k) ++ s.l := by
  unfold joined
  rw [List.take_add_one, h]; simp

theorem rows_el {H : Type} {enc : TypeId × Value → H} (W : World) {base : Nat} {sp : Nat → Bool} {held : Bool} (n : Nat) (cs : List Value) (y : DataW H × List MemPlace) (_ : cs.length = 1)
    (h : DataW.trod enc Tryd.prog W base sp held n 22 cs = some y) : ∃ s : BS, cs = s.v ∧ s.ok W := by
  obtain ⟨A, n, c, l, rfl, h1, h2, h3⟩ := bytes_cell Tryd.underlying22 Tryd.underlying5 (by kernel_rfl) h
  exact ⟨⟨A, n, c, l⟩, rfl, h1, h2, h3⟩

theorem joins_walk (A : Option Addr) (n c : Nat) (X : List BS) (w : World) (hT : Tab w) (hX : X.length = n) (hr : RL w 1 A n (X.flatMap BS.v)) (hok : ∀ s ∈ X, BS.ok w s) (hnc : n ≤ c) (hc : c ≤ 9223372036854775807) :
    Calls Tryd.prog 5 #[.slice A n c] w fun e w' => e = .returned (.bool true) ∧ Below w.heap.size w w' := by
  by_cases hn : 20 < n
  · go_enter Tryd.func5, Tryd.ntmps5
    go_wp2_with fail
    refine (awake_any _ hT).mono ?_
    rintro e w' ⟨rfl, hbw⟩
    go_wp2_with fail
    go_ret
    exact ⟨rfl, hbw⟩
  · have HX := hid hX
    clear hX
    go_enter Tryd.func5, Tryd.ntmps5
    go_wp2_with fail
    refine (sum_any _ _ _ [] _ hT (RB.nil _ _) (by omega)).mono ?_
    rintro e w' ⟨rfl, rfl⟩
    go_wp2_with fail
    go_loopw [3, 4, 5] (fun v s i wr => ∃ k : Nat, k ≤ n ∧ i = .int .i64 k ∧ s = .int .u32 (N32 (Crc.crc (joined (X.take k)))) ∧ (joined (X.take k)).length ≤ 100 * k ∧
        wr.ownsRow w.heap.size 5 1 v (joined (X.take k)).length ((joined (X.take k)).map byV) ∧ Below w.heap.size w wr) (fun _ _ i _ => n - (intOf i).toNat)
    case atStart => exact ⟨0, Nat.zero_le _, rfl, rfl, by simp [joined], World.ownsRow_nil _ _ _ _, Below.refl _ _⟩
    case round =>
      obtain ⟨k, hk, rfl, rfl, hlen, hown, hbel⟩ := hrel
      by_cases hlt : k < n
      · obtain ⟨b, off, s, rfl, hbs, hx, hcell⟩ := hr.el (size := 1) (f := BS.v) (fun _ => rfl) hlt (by omega)
        have c1 : wr.cell? ⟨b, off + k, none⟩ = some (.slice s.A s.n s.c) := by
          have := hcell 0 _ rfl
          rw [Nat.mul_one] at this
          exact (hbel.cell (by exact hbs)).trans this
        obtain ⟨hs1, hs2, hs3⟩ := hok s (List.mem_of_getElem? hx)
        have hs1' := hs1.below hbel
        have HJ := hid (joined_snoc hx)
        have HL := hid hs1.len
        clear hx hcell
        by_cases hbig : 100 < s.n
        · go_wp2_with fail
          refine (awake_any _ (hT.keep hbel)).mono ?_
          rintro e w' ⟨rfl, hbw⟩
          go_wp2_with fail
          go_ret
          exact ⟨rfl, hbel.trans (hbw.mono hbel.size)⟩
        · go_wp2_with (at_builtin; refine wp_app _ rfl _ _ 22 rfl w.heap.size 5 _ 1 bytesT _ _ _ hown rfl s.A s.n s.c _ hs1' rfl (byV_one _) (by unfold maxLen; omega) (by omega) hbel.size ?_; intro v1 w1 hown1 hg1 hat1; have hb1 : Below w.heap.size w w1 := hbel.grown hg1 hbel.size (fun g hg => (hown.lt g hg).1); have c2 : w1.cell? ⟨b, off + k, none⟩ = some (.slice s.A s.n s.c) := (hb1.cell (by exact hbs)).trans ((hbel.cell (by exact hbs)).symm.trans c1))
          refine (up_any _ _ _ _ s.l _ (hT.keep hb1) (hs1.below hb1) (by omega)).mono ?_
          rintro e w' ⟨rfl, rfl⟩
          go_wp2_with fail
          go_roundw
          case rel =>
            refine ⟨k + 1, by omega, by go_num, ?_, ?_, ?_, hb1⟩
            · rw [HJ.out]; unfold Crc.crc; rw [Crc.upd_append]
            · rw [HJ.out, List.length_append, HL.out]; omega
            · rw [HJ.out, List.length_append, HL.out, List.map_append]; exact hown1
          case measure => simp [intOf]; omega
      · obtain rfl : k = n := by omega
        obtain ⟨B, d, rfl, hrB, hnd, hd⟩ := own_form hown
        have hB2 : RB wr B (joined (X.take k)).length (joined (X.take k)) := hrB
        have hTr := hT.keep hbel
        generalize joined (X.take k) = J at *
        clear hown hrB
        have h1 : (Crc.crc J == Crc.crc J) = true := beq_self_eq_true _
        have h2 : (N32 (Crc.crc []) == (0 : Int)) = true := by rw [Crc.crc_nil]; rfl
        go_wp2_with fail
        refine (sum_any _ _ _ J _ hTr hB2 (by omega)).mono ?_
        rintro e w' ⟨rfl, rfl⟩
        go_wp2_with fail
        refine (sum_any _ _ _ [] _ hTr (RB.nil _ _) (by omega)).mono ?_
        rintro e w' ⟨rfl, rfl⟩
        go_wp2_with fail
        refine (awake_any _ hTr).mono ?_
        rintro e w' ⟨rfl, hbw⟩
        go_wp2_with fail
        go_ret
        exact ⟨rfl, hbel.trans (hbw.mono hbel.size)⟩
end Go.Proofs.YtdclpabfnfmikaaDoor
