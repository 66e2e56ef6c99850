/- ChecksumBursts: the walk. Conditions: the table of remainders is laid. -/
import Derived.Test.YtdclpabfnfmikaaDoorApp
set_option linter.unusedSimpArgs false
set_option linter.unusedVariables false
namespace Go.Proofs.YtdclpabfnfmikaaDoor
open Go.RowKit

theorem bitN : ∀ j : Fin 8, (2 : Int) ^ j.1 % 256 = N8 ⟨1#8 <<< j.1⟩ := by decide
theorem bursts_walk (A : Option Addr) (n c : Nat) (l : List UInt8) (at_ : Int) (h0 : 0 ≤ at_) (h1 : at_ < 65536) (x : BitVec 32) (w : World) (hT : Tab w) (hb : RB w A n l) (hc : n ≤ c) (hc2 : c ≤ 9223372036854775807) :
    Calls Tryd.prog 8 #[.slice A n c, .int .u16 at_, .int .u32 (N32 x)] w fun e w' => e = .returned (.bool true) ∧ Below w.heap.size w w' := by
  have HL := hid hb.len
  by_cases hn : 400 < n
  · go_enter Tryd.func8, Tryd.ntmps8
    go_wp2_with fail
    refine (awake_any _ hT).mono ?_
    rintro e w' ⟨rfl, hbw⟩
    go_wp2_with fail
    go_ret
    exact ⟨rfl, hbw⟩
  by_cases hx : x = 0#32
  · subst hx
    have hz : (N32 0#32 == (0 : Int)) = true := rfl
    go_enter Tryd.func8, Tryd.ntmps8
    go_wp2_with fail
    refine (awake_any _ hT).mono ?_
    rintro e w' ⟨rfl, hbw⟩
    go_wp2_with fail
    go_ret
    exact ⟨rfl, hbw⟩
  have hz : (N32 x == (0 : Int)) = false := by
    rw [beq_eq_false_iff_ne]
    intro h
    exact hx (N32_inj (b := 0#32) h)
  go_enter Tryd.func8, Tryd.ntmps8
  go_wp2_with fail
  refine (append_any _ _ _ l _ hT hb (by omega)).mono ?_
  rintro e w1 ⟨v, rfl, hown, hB1⟩
  obtain ⟨Ac, cc, rfl, hrc, hnc, hcc⟩ := own_form hown
  have hN4 : (sealed l).length = n + 4 := by rw [sealed_len, HL.out]
  generalize hN : (sealed l).length = N at *
  have HN := hid hN
  have HN4 := hid hN4
  have hNl : N ≤ 404 := by omega
  have hNg : 4 ≤ N := by omega
  clear hN hN4
  obtain ⟨f, hf, hfN⟩ : ∃ f : Nat, at_ % (8 * ↑N - 31) = (f : Int) ∧ f + 32 ≤ 8 * N := by
    have h0 := Int.emod_nonneg at_ (show (8 * (N : Int) - 31) ≠ 0 by omega)
    have h1 := Int.emod_lt_of_pos at_ (show 0 < (8 * (N : Int) - 31) by omega)
    exact ⟨(at_ % (8 * ↑N - 31)).toNat, by omega, by omega⟩
  go_wp2_with fail
  rw [hf]
  clear hf
  go_loopw [10] (fun i wr => ∃ k : Nat, k ≤ 32 ∧ i = .int .i64 k ∧ (∃ cur : List UInt8, wr.ownsRow w.heap.size 5 1 (.slice Ac N cc) N (cur.map byV) ∧
      Hid (cur.length = N ∧ Crc.run 0xffffffff#32 cur = Crc.run 0xffffffff#32 (sealed l) ^^^ Crc.shN (8 * N - f) (Crc.lowBits x k))) ∧ Below w.heap.size w wr) (fun i _ => 32 - (intOf i).toNat)
  case atStart => exact ⟨0, by omega, rfl, ⟨sealed l, hown, HN.out, by rw [Crc.lowBits_zero, Crc.shN_zero]; simp⟩, hB1⟩
  case round =>
    obtain ⟨k, hk, rfl, ⟨cur, hw, HC⟩, hB⟩ := hrel
    clear hown hB1 hrc
    by_cases hlt : k < 32
    · cases hbit : x.getLsbD k
      · have ht : (N32 (x >>> k &&& 1#32) == (1 : Int)) = false := low_no (by simpa using hbit)
        have HB := hid (Crc.lowBits_no x k hbit)
        clear hbit
        go_wp2_with fail
        go_roundw
        case rel => exact ⟨k + 1, by omega, by go_num, ⟨cur, hw, by rw [HB.out]; exact HC⟩, hB⟩
        case measure => simp [intOf]; omega
      · have ht : (N32 (x >>> k &&& 1#32) == (1 : Int)) = true := low_yes (by simpa using hbit)
        have HB := hid (Crc.lowBits_yes x k hlt hbit)
        have HR := hid (Crc.run_burst cur 0xffffffff#32 x f k hlt (by rw [HC.out.1]; exact hfN) hbit)
        clear hbit
        obtain ⟨g, rfl, hg1, hg2, hcell, hfz, hset⟩ := own_set hw (k := (f + k) / 8) (by omega)
        have hcl : (f + k) / 8 < cur.length := by rw [HC.out.1]; omega
        rw [List.getElem?_map, List.getElem?_eq_getElem hcl] at hcell
        have hc7 : wr.cell? ⟨g, (f + k) / 8, none⟩ = some (.int .u8 (N8 cur[(f + k) / 8])) := hcell
        obtain ⟨y, hy⟩ : ∃ y, y = cur[(f + k) / 8] := ⟨_, rfl⟩
        rw [← hy] at hc7
        have HY := hid hy
        clear hcell hy
        go_wp2_with fail
        have hv : bits .xor .u8 (N8 y) ((2 : Int) ^ ((f + k) % 8) % 256) = N8 (y ^^^ ⟨1#8 <<< ((f + k) % 8)⟩) := by
          rw [bitN ⟨(f + k) % 8, by omega⟩, xor8]
        rw [hv]
        have hst := (hset (.int .u8 (N8 (y ^^^ ⟨1#8 <<< ((f + k) % 8)⟩)))).1
        go_roundw
        case rel =>
          refine ⟨k + 1, by omega, by go_num, ⟨Crc.flip cur (f + k), ?_, ?_⟩, hB.setCell hg1 _⟩
          · rw [Crc.flip_set cur _ hcl, ← HY.out, List.map_set]
            exact hst
          · refine ⟨by rw [Crc.flip_length]; exact HC.out.1, ?_⟩
            rw [HR.out, HB.out, HC.out.1, HC.out.2, Crc.shN_xor, BitVec.xor_assoc]
        case measure => simp [intOf]; omega
    · obtain rfl : k = 32 := by omega
      obtain rfl : N = n + 4 := HN4.out
      have hl := HC.out.1
      have hr := HC.out.2
      rw [Crc.lowBits_all] at hr
      have hbad := burst_bad l cur n _ x hx hl hr
      have HBAD := hid hbad
      have hrw : RB wr Ac (n + 4) cur := RL.of_own hw
      clear HC hr hbad hl hw
      go_wp2_with fail
      refine (split_bad _ _ _ cur _ (hT.keep hB) hrw hnc hcc HBAD.out).mono ?_
      rintro e w2 ⟨rfl, hB2⟩
      have hBw := hB.trans (hB2.mono hB.size)
      go_wp2_with fail
      refine (awake_any _ (hT.keep hBw)).mono ?_
      rintro e w' ⟨rfl, hbw⟩
      go_wp2_with fail
      go_ret
      exact ⟨rfl, hBw.trans (hbw.mono hBw.size)⟩
end Go.Proofs.YtdclpabfnfmikaaDoor
