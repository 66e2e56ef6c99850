/- ChecksumMixes: the walk. Conditions: the table of remainders is laid. -/
import Derived.Test.YtdclpabfnfmikaaDoorSum
set_option linter.unusedSimpArgs false
set_option linter.unusedVariables false
namespace Go.Proofs.YtdclpabfnfmikaaDoor
open Go.RowKit




theorem mixes_walk (A B C : Option Addr) (n m p ca cb cc : Nat) (la lb lc : List UInt8) (w : World) (hT : Tab w) (ha : RB w A n la) (hb : RB w B m lb) (hc : RB w C p lc)
    (hna : n ≤ ca) (hca : ca ≤ 9223372036854775807) (hnb : m ≤ cb) (hcb : cb ≤ 9223372036854775807) (hnc : p ≤ cc) (hcc : cc ≤ 9223372036854775807) :
    Calls Tryd.prog 4 #[.slice A n ca, .slice B m cb, .slice C p cc] w fun e w' => e = .returned (.bool true) ∧ Below w.heap.size w w' := by
  by_cases hn : 400 < n
  · go_enter Tryd.func4, Tryd.ntmps4
    go_wp2_with fail
    refine (awake_any _ hT).mono ?_
    rintro e w' ⟨rfl, hbw⟩
    go_wp2_with fail
    go_ret
    exact ⟨rfl, hbw⟩
  by_cases hm : n = m
  case neg =>
    have hm' : ((n : Int) != m) = true := by rw [bne_iff_ne]; omega
    go_enter Tryd.func4, Tryd.ntmps4
    go_wp2_with fail
    refine (awake_any _ hT).mono ?_
    rintro e w' ⟨rfl, hbw⟩
    go_wp2_with fail
    go_ret
    exact ⟨rfl, hbw⟩
  subst hm
  by_cases hp : n = p
  case neg =>
    have hm' : ((n : Int) != p) = true := by rw [bne_iff_ne]; omega
    go_enter Tryd.func4, Tryd.ntmps4
    go_wp2_with fail
    refine (awake_any _ hT).mono ?_
    rintro e w' ⟨rfl, hbw⟩
    go_wp2_with fail
    go_ret
    exact ⟨rfl, hbw⟩
  subst hp
  obtain ⟨X, hX⟩ : ∃ X, X = Crc.xorL (Crc.xorL la lb) lc := ⟨_, rfl⟩
  have hXl : Hid (X.length = n) := by
    show X.length = n
    rw [hX, Crc.xorL_length, Crc.xorL_length]
    · exact ha.len
    · rw [ha.len, hb.len]
    · rw [Crc.xorL_length _ _ (by rw [ha.len, hb.len]), ha.len, hc.len]
  have HX := hid hX
  clear hX
  go_enter Tryd.func4, Tryd.ntmps4
  go_wp2_with (at_make; refine wp_make _ rfl _ _ 22 rfl w.heap.size 5 _ 1 bytesT rfl .i64 .i64 _ _ n rfl rfl rfl rfl (by omega) (by unfold maxLen; omega) (Nat.le_refl _) ?_; intro w1 hown hg)
  have hB1 : Below w.heap.size w w1 := (Below.refl _ _).grown hg (Nat.le_refl _) (fun k hk => by cases hk)
  clear hg
  go_loopw [8] (fun i wr => ∃ k : Nat, k ≤ n ∧ i = .int .i64 k ∧ wr.ownsRow w.heap.size 5 1 (.slice (some ⟨w.heap.size, 0, none⟩) n n) n ((X.take k ++ List.replicate (n - k) 0).map byV) ∧ Below w.heap.size w wr) (fun i _ => n - (intOf i).toNat)
  case atStart => exact ⟨0, Nat.zero_le _, rfl, by rw [byV_zeros] at hown; simpa using hown, hB1⟩
  case round =>
    obtain ⟨k, hk, rfl, hown', hbel⟩ := hrel
    clear hown hB1
    by_cases hlt : k < n
    · obtain ⟨b1, o1, x1, rfl, hbs1, hx1, hc1⟩ := ha.at hlt
      obtain ⟨b2, o2, x2, rfl, hbs2, hx2, hc2⟩ := hb.at hlt
      obtain ⟨b3, o3, x3, rfl, hbs3, hx3, hc3⟩ := hc.at hlt
      have c1 : wr.cell? ⟨b1, o1 + k, none⟩ = some (.int .u8 (N8 x1)) := (hbel.cell (by exact hbs1)).trans hc1
      have c2 : wr.cell? ⟨b2, o2 + k, none⟩ = some (.int .u8 (N8 x2)) := (hbel.cell (by exact hbs2)).trans hc2
      have c3 : wr.cell? ⟨b3, o3 + k, none⟩ = some (.int .u8 (N8 x3)) := (hbel.cell (by exact hbs3)).trans hc3
      have HX' : Hid (X[k]? = some (x1 ^^^ x2 ^^^ x3)) := by
        show X[k]? = _
        rw [HX.out]; simp [Crc.xorL, List.getElem?_zipWith, hx1, hx2, hx3]
      clear hx1 hx2 hx3 hc1 hc2 hc3
      have f0 := hown'.frozenAt k
      obtain ⟨v0, c0⟩ : ∃ v0, wr.cell? ⟨w.heap.size, k, none⟩ = some v0 := by
        rw [hown'.cellAt k (by omega)]
        have hl := hown'.1
        exact ⟨_, List.getElem?_eq_getElem (by omega)⟩
      have hst := hown'.drew.stored k (.int .u8 (N8 (x1 ^^^ x2 ^^^ x3)))
      have HST := hid hst.1
      clear hst
      go_wp2_with fail
      go_region
      go_wp2_with fail
      go_roundw
      case rel =>
        refine ⟨k + 1, by omega, by go_num, ?_, ?_⟩
        · have h := HST.out
          rw [set_nextB HX'.out hlt] at h
          exact h
        · exact (hbel.setCell (p := ⟨w.heap.size, k, none⟩) (Nat.le_refl _) _).drew
      case measure => simp [intOf]; omega
    · obtain rfl : k = n := by omega
      have hX2 : RB wr (some ⟨w.heap.size, 0, none⟩) k X := by
        have h := RL.of_own hown'
        rw [List.take_of_length_le (by rw [hXl.out]; exact Nat.le_refl _)] at h
        simpa [RB] using h
      have hmix : (Crc.crc la ^^^ Crc.crc lb ^^^ Crc.crc lc == Crc.crc X) = true := by
        rw [HX.out, Crc.crc_mix _ _ _ (by rw [ha.len, hb.len]) (by rw [ha.len, hc.len])]
        exact beq_self_eq_true _
      have hTr := hT.keep hbel
      clear hown'
      go_wp2_with fail
      refine (sum_any _ _ _ la _ hTr (ha.below hbel) (by omega)).mono ?_
      rintro e w' ⟨rfl, rfl⟩
      go_wp2_with fail
      refine (sum_any _ _ _ lb _ hTr (hb.below hbel) (by omega)).mono ?_
      rintro e w' ⟨rfl, rfl⟩
      go_wp2_with fail
      refine (sum_any _ _ _ lc _ hTr (hc.below hbel) (by omega)).mono ?_
      rintro e w' ⟨rfl, rfl⟩
      go_wp2_with fail
      refine (sum_any _ _ _ X _ hTr hX2 (by omega)).mono ?_
      rintro e w' ⟨rfl, rfl⟩
      go_wp2_with fail
      refine (awake_any _ hTr).mono ?_
      rintro e w' ⟨rfl, hbw⟩
      go_wp2_with fail
      go_ret
      exact ⟨rfl, hbel.trans (hbw.mono hbel.size)⟩
end Go.Proofs.YtdclpabfnfmikaaDoor
