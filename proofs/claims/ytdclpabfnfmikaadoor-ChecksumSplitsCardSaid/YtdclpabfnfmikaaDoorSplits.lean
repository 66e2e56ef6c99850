/- ChecksumSplits: the walk. Conditions: the table of remainders is laid. -/
import Derived.Test.YtdclpabfnfmikaaDoorApp
import Derived.Deep.DeepCutAuto
set_option linter.unusedSimpArgs false
set_option linter.unusedVariables false
namespace Go.Proofs.YtdclpabfnfmikaaDoor
open Go.RowKit

def goodB (l : List UInt8) : Bool := decide (4 ≤ l.length) && (l.drop (l.length - 4) == sumBytes (Crc.crc (l.take (l.length - 4))))
def splitCode (l : List UInt8) : Int := if l.length < 4 then 14 else if l.drop (l.length - 4) = sumBytes (Crc.crc (l.take (l.length - 4))) then 0 else 29
def splitData (l : List UInt8) : List UInt8 := if l.length < 4 then [] else if l.drop (l.length - 4) = sumBytes (Crc.crc (l.take (l.length - 4))) then l.take (l.length - 4) else []

theorem sc_short {l : List UInt8} (h : l.length < 4) : splitCode l = 14 ∧ splitData l = [] := by simp [splitCode, splitData, h]
theorem sc_good {l : List UInt8} {m : Nat} (h : l.length = m + 4) (hg : l.drop m = sumBytes (Crc.crc (l.take m))) : splitCode l = 0 ∧ splitData l = l.take m := by
  have e : l.length - 4 = m := by omega
  have h4 : ¬ l.length < 4 := by omega
  unfold splitCode splitData
  rw [e, if_neg h4, if_neg h4, if_pos hg, if_pos hg]
  exact ⟨rfl, rfl⟩
theorem sc_bad {l : List UInt8} {m : Nat} (h : l.length = m + 4) (hg : l.drop m ≠ sumBytes (Crc.crc (l.take m))) : splitCode l = 29 ∧ splitData l = [] := by
  have e : l.length - 4 = m := by omega
  have h4 : ¬ l.length < 4 := by omega
  unfold splitCode splitData
  rw [e, if_neg h4, if_neg h4, if_neg hg, if_neg hg]
  exact ⟨rfl, rfl⟩

theorem split_any (A : Option Addr) (n c : Nat) (l : List UInt8) (w : World) (hT : Tab w) (hb : RB w A n l) (hn : n ≤ 70368744177664) (hc : n ≤ c) (hc2 : c ≤ 9223372036854775807) :
    Calls Tryd.prog 13 #[.slice A n c] w fun e w' => ∃ v, e = .returned (.tuple #[v, .int .i64 (splitCode l)]) ∧ w'.ownsRow w.heap.size 5 1 v (splitData l).length ((splitData l).map byV) ∧ Below w.heap.size w w' := by
  have hl := hb.len
  by_cases h4 : n < 4
  · refine (split_short A n c w h4).mono ?_
    rintro e w' ⟨rfl, rfl⟩
    obtain ⟨e1, e2⟩ := sc_short (l := l) (by omega)
    rw [e1, e2]
    exact ⟨_, rfl, World.ownsRow_nil _ _ _ _, Below.refl _ _⟩
  · obtain ⟨m, rfl⟩ : ∃ m, n = m + 4 := ⟨n - 4, by omega⟩
    by_cases hg : l.drop m = sumBytes (Crc.crc (l.take m))
    · obtain ⟨e1, e2⟩ := sc_good hl hg
      rw [e1, e2]
      have hs : l = sealed (l.take m) := by
        unfold sealed; rw [← hg, List.take_append_drop]
      refine (split_good A m c (l.take m) w hT (by rw [← hs]; exact hb) hc (by omega) hc2 (by rw [List.length_take]; omega)).mono ?_
      rintro e w' ⟨v, rfl, hown, hb2⟩
      exact ⟨v, rfl, hown, hb2⟩
    · obtain ⟨e1, e2⟩ := sc_bad hl hg
      rw [e1, e2]
      refine (split_bad A m c l w hT hb hc hc2 hg).mono ?_
      rintro e w' ⟨rfl, hb2⟩
      exact ⟨_, rfl, World.ownsRow_nil _ _ _ _, hb2⟩

theorem refSplit_any (A : Option Addr) (n c : Nat) (l : List UInt8) (w : World) (hb : RB w A n l) (hn : n ≤ 70368744177664) (hc : n ≤ c) (hc2 : c ≤ 9223372036854775807) :
    Calls Tryd.prog 14 #[.slice A n c] w fun e w' => ∃ A' n' c', e = .returned (.tuple #[.slice A' n' c', .int .i64 (splitCode l)]) ∧ RB w' A' n' (splitData l) ∧ Below w.heap.size w w' := by
  have hl := hb.len
  by_cases h4 : n < 4
  · refine (refSplit_short A n c w h4).mono ?_
    rintro e w' ⟨rfl, rfl⟩
    obtain ⟨e1, e2⟩ := sc_short (l := l) (by omega)
    rw [e1, e2]
    exact ⟨_, _, _, rfl, RB.nil _ _, Below.refl _ _⟩
  · obtain ⟨m, rfl⟩ : ∃ m, n = m + 4 := ⟨n - 4, by omega⟩
    by_cases hg : l.drop m = sumBytes (Crc.crc (l.take m))
    · obtain ⟨e1, e2⟩ := sc_good hl hg
      rw [e1, e2]
      have hs : l = sealed (l.take m) := by
        unfold sealed; rw [← hg, List.take_append_drop]
      have hpre := hb.pre (k := m) (by omega)
      refine (refSplit_good A m c (l.take m) w (by rw [← hs]; exact hb) (by omega) hc hc2 (by rw [List.length_take]; omega)).mono ?_
      rintro e w' ⟨rfl, hb2⟩
      exact ⟨_, _, _, rfl, hpre.below hb2, hb2⟩
    · obtain ⟨e1, e2⟩ := sc_bad hl hg
      rw [e1, e2]
      refine (refSplit_bad A m c l w hb (by omega) hc hc2 hg).mono ?_
      rintro e w' ⟨rfl, hb2⟩
      exact ⟨_, _, _, rfl, RB.nil _ _, hb2⟩

theorem split_sealed (A : Option Addr) (N c : Nat) (d : List UInt8) (w : World) (hT : Tab w) (hb : RB w A N (sealed d)) (hc : N ≤ c) (hm : N ≤ 70368744177664) (hm2 : c ≤ 9223372036854775807) :
    Calls Tryd.prog 13 #[.slice A N c] w fun e w' => ∃ v, e = .returned (.tuple #[v, .int .i64 0]) ∧ w'.ownsRow w.heap.size 5 1 v d.length (d.map byV) ∧ Below w.heap.size w w' := by
  have h := hb.len
  rw [sealed_len] at h
  subst h
  exact split_good A d.length c d w hT hb hc (by omega) hm2 rfl

set_option maxRecDepth 100000 in
set_option maxHeartbeats 1000000 in
theorem splits_walk (A : Option Addr) (n c : Nat) (l : List UInt8) (w : World) (hT : Tab w) (hb : RB w A n l) (hc : n ≤ c) (hc2 : c ≤ 9223372036854775807) :
    Calls Tryd.prog 7 #[.slice A n c] w fun e w' => e = .returned (.bool true) ∧ Below w.heap.size w w' := by
  have HL := hid hb.len
  by_cases hn : 400 < n
  · go_enter Tryd.func7, Tryd.ntmps7
    go_wp2_with fail
    refine (awake_any _ hT).mono ?_
    rintro e w' ⟨rfl, hbw⟩
    go_wp2_with fail
    go_ret
    exact ⟨rfl, hbw⟩
  · have hown0 : (w.alloc (.cells #[] 5)).ownsRow w.heap.size 5 1 (.slice (some ⟨w.heap.size, 0, none⟩) 0 0) 0 [] := World.ownsRow_made w #[] 0 (Nat.le_refl _) (by unfold maxLen; omega) rfl
    go_enter Tryd.func7, Tryd.ntmps7
    go_wp2_with (at_builtin; refine wp_app _ rfl _ _ 22 rfl w.heap.size 5 _ 1 bytesT _ _ _ hown0 rfl _ _ _ _ (RB.alloc hb _) rfl (byV_one _) (by unfold maxLen; omega) (by omega) (by simp) ?_; intro v1 w1 hown1 hg1 hat1)
    have hB1 : Below w.heap.size w w1 := ((Below.refl _ _).alloc (Nat.le_refl _) _).grown hg1 (by simp) (fun k hk => by simp [Value.ownBlock] at hk; omega)
    simp only [Nat.zero_add, List.nil_append] at hown1
    obtain ⟨Ao, co, rfl, hro, hno, hco⟩ := own_form hown1
    refine (split_any _ _ _ l _ (hT.keep hB1) (hb.below hB1) (by omega) hc hc2).mono ?_
    rintro e w2 ⟨vx, rfl, hx2, hB2⟩
    obtain ⟨Ax, cx, rfl, hrx, hnx, hcx⟩ := own_form hx2
    have ho2 : RB w2 Ao n l := RB.below hro hB2
    have hB12 : Below w.heap.size w w2 := hB1.trans (hB2.mono hB1.size)
    go_wp2_with fail
    refine (refSplit_any _ _ _ l _ ho2 (by omega) hno hco).mono ?_
    rintro e w3 ⟨Ay, ny, cy, rfl, hry, hB3⟩
    have hkx := run_str (RB.below hrx hB3) 22 9 _ cx Tryd.underlying22 Tryd.underlying5 Tryd.underlying9
    have hky := run_str hry 22 9 _ cy Tryd.underlying22 Tryd.underlying5 Tryd.underlying9
    have hB13 : Below w.heap.size w w3 := hB12.trans (hB3.mono hB12.size)
    go_wp2_with fail
    clear hkx hky
    refine (append_any _ _ _ l _ (hT.keep hB13) (hb.below hB13) (by omega)).mono ?_
    rintro e w4 ⟨vc, rfl, hc4, hB4⟩
    obtain ⟨Ac, cc, rfl, hrc, hnc, hcc⟩ := own_form hc4
    have HS := hid (sealed_len l)
    have hsl := sealed_len l
    have hlen : l.length ≤ 400 := by rw [HL.out]; omega
    have hB14 : Below w.heap.size w w4 := hB13.trans (hB4.mono hB13.size)
    have hB24 : Below w2.heap.size w2 w4 := hB3.trans (hB4.mono hB3.size)
    have hB25 : Below w1.heap.size w1 w4 := hB2.trans (hB24.mono hB2.size)
    have hxw4 : w4.ownsRow w1.heap.size 5 1 (.slice Ax (splitData l).length cx) (splitData l).length ((splitData l).map byV) := own_below hx2 hB24
    have hkc : ∀ w', Below w4.heap.size w4 w' → (convert 22 9 (.slice Ac (sealed l).length cc)).run Tryd.prog w' = .ok (str (sealed l)) w' := fun w' h => run_str (RB.below hrc h) _ _ _ _ Tryd.underlying22 Tryd.underlying5 Tryd.underlying9
    have hkc0 := hkc _ (Below.refl _ _).drew
    have ho4 : RB w4 Ao n l := RB.below hro hB25
    have hgx := hx2.lt
    have hz1 := hB1.size
    have hz23 : w2.heap.size ≤ w3.heap.size := hB3.size
    have hz12 : w1.heap.size ≤ w2.heap.size := hB2.size
    clear hrx hx2 hown1 hg1 hat1 hry hB2 hB3 hB1 hB12 hB24
    clear hsl
    go_upto_region 9 with fail
    go_cut [47] (fun t wx => t = .bool false ∧ Below w4.heap.size w4 wx)
    case first =>
      go_region_with (go_at_call 16; refine (refAppend_any _ _ _ l _ (RL.drew ho4) (by omega)).mono ?_; rintro e w5 ⟨v5, rfl, hown5, hb5⟩; have hB5 : Below w4.heap.size w4 w5 := ((Below.refl _ _).drew).trans hb5; obtain ⟨A5, c5, rfl, hr5, hn5, hc5⟩ := own_form hown5; have hk5 := run_str hr5 22 9 _ c5 Tryd.underlying22 Tryd.underlying5 Tryd.underlying9)
      all_goals
        go_wp2_with fail
        go_meet
        case rel => exact ⟨rfl, hB5⟩
    case rest =>
      obtain ⟨rfl, hB5⟩ := hcut
      go_wp2_with fail
      have hB15 : Below w.heap.size w wc := hB14.trans (hB5.mono hB14.size)
      refine (split_sealed _ _ _ l _ (hT.keep hB15) (RB.below hrc hB5) hnc (by rw [HS.out]; omega) hcc).mono ?_
      rintro e w6 ⟨vz, rfl, hz6, hB6⟩
      obtain ⟨Az, cz, rfl, hrz, hnz, hcz⟩ := own_form hz6
      have hkz := run_str hrz 22 9 _ cz Tryd.underlying22 Tryd.underlying5 Tryd.underlying9
      have hB46 : Below w4.heap.size w4 w6 := hB5.trans (hB6.mono hB5.size)
      have hko := run_str (RB.below ho4 hB46) 22 9 _ co Tryd.underlying22 Tryd.underlying5 Tryd.underlying9
      go_wp2_with fail
      clear hkz hko
      go_loopw [11] (fun i wr => ∃ k : Nat, k ≤ l.length ∧ i = .int .i64 k ∧ (∃ cur : List UInt8, wr.ownsRow wc.heap.size 5 1 (.slice Az l.length cz) l.length (cur.map byV)) ∧ Below wc.heap.size wc wr) (fun i _ => l.length - (intOf i).toNat)
      case atStart => exact ⟨0, Nat.zero_le _, rfl, ⟨l, hz6⟩, hB6⟩
      case round =>
        obtain ⟨k, hk, rfl, ⟨cur, hz7⟩, hB7⟩ := hrel
        by_cases hlt : k < l.length
        · obtain ⟨g, rfl, hg1, hg2, hcell, hfz, hset⟩ := own_set hz7 hlt
          have hcl : k < cur.length := by have := hz7.1; simp at this; omega
          rw [List.getElem?_map, List.getElem?_eq_getElem hcl] at hcell
          have hst := hid (hset (.int .u8 (N8 (cur[k] + 1)))).1
          have hc7 : wr.cell? ⟨g, k, none⟩ = some (.int .u8 (N8 cur[k])) := hcell
          generalize cur[k] = x at *
          clear hset hcell hcl hz6 hz7
          go_wp2_with fail
          go_roundw
          case rel =>
            refine ⟨k + 1, by omega, by go_num, ⟨cur.set k (x + 1), ?_⟩, hB7.setCell hg1 _⟩
            have h := hst.out
            rw [List.map_set]
            exact h
          case measure => simp [intOf]; omega
        · clear hz6 hz7 hB6 hB46 hrz
          have hBc7 : Below w4.heap.size w4 wr := hB5.trans (hB7.mono hB5.size)
          have hx7 := own_below hxw4 hBc7
          have hcr := own_below hc4 hBc7
          obtain ⟨w7, rfl⟩ : ∃ w7 : World, w7 = wr := ⟨_, rfl⟩
          have hB17 : Below w1.heap.size w1 w7 := hB25.trans (hBc7.mono hB25.size)
          have hBw7 : Below w.heap.size w w7 := hB14.trans (hBc7.mono hB14.size)
          clear hB5 hB7 hB15 hBc7 hxw4
          generalize splitData l = D at *
          go_wp2_with fail
          go_loopw [12] (fun i wr => ∃ k : Nat, k ≤ D.length ∧ i = .int .i64 k ∧ (∃ cur : List UInt8, wr.ownsRow w1.heap.size 5 1 (.slice Ax D.length cx) D.length (cur.map byV)) ∧ w7.grownBy wr (Value.ownBlock (.slice Ax D.length cx))) (fun i _ => D.length - (intOf i).toNat)
          case atStart => exact ⟨0, Nat.zero_le _, rfl, ⟨D, hx7⟩, World.grownBy.refl _ _⟩
          case round =>
            obtain ⟨k, hk, rfl, ⟨cur, hx8⟩, hg8⟩ := hrel
            by_cases hlt : k < D.length
            · obtain ⟨g, rfl, hg1, hg2, hcell, hfz, hset⟩ := own_set hx8 hlt
              have hcl : k < cur.length := by have := hx8.1; simp at this; omega
              rw [List.getElem?_map, List.getElem?_eq_getElem hcl] at hcell
              have hst := hid (hset (.int .u8 (N8 (cur[k] + 1))))
              have hc8 : wr.cell? ⟨g, k, none⟩ = some (.int .u8 (N8 cur[k])) := hcell
              generalize cur[k] = x at *
              clear hset hcell hcl hx7 hx8
              go_wp2_with fail
              go_roundw
              case rel =>
                refine ⟨k + 1, by omega, by go_num, ⟨cur.set k (x + 1), ?_⟩, hg8.trans hst.out.2⟩
                have h := hst.out.1
                rw [List.map_set]
                exact h
              case measure => simp [intOf]; omega
            · clear hx7
              have hgx7 : ∀ g, Value.ownBlock (.slice Ax D.length cx) = some g → w1.heap.size ≤ g := fun g h => (hgx g h).1
              have hB18 : Below w1.heap.size w1 wr := hB17.grown hg8 hB17.size hgx7
              have hBw8 : Below w.heap.size w wr := hBw7.grown hg8 hBw7.size (fun g h => Nat.le_trans hz1 (hgx7 g h))
              have hrow : ∀ g, Value.ownBlock (.slice Ax D.length cx) = some g → g < w3.heap.size := fun g h => Nat.lt_of_lt_of_le (hgx g h).2 hz23
              have hc8 : wr.ownsRow w3.heap.size 5 1 (.slice Ac (sealed l).length cc) (sealed l).length ((sealed l).map byV) := by
                refine hcr.kept hg8 ?_
                by_cases h : (Value.slice Ac (sealed l).length cc).ownBlock = none
                · exact .inl h
                · right
                  intro e
                  cases hq : (Value.slice Ac (sealed l).length cc).ownBlock with
                  | none => exact h hq
                  | some g =>
                    rw [hq] at e
                    have h1 := (hcr.lt g hq).1
                    have h2 := hrow g e.symm
                    omega
              clear hcr hg8 hx8 hrow hgx hgx7
              have ho8 : RB wr Ao n l := RB.below hro hB18
              have hb8 : RB wr A n l := hb.below hBw8
              have hsl : (sealed l).length = n + 4 := by rw [HS.out, HL.out]
              rw [hsl] at hc8 hnc
              rw [hsl]
              have hrc8 : RB wr Ac (n + 4) (sealed l) := RL.of_own hc8
              have hpc8 : RB wr Ac n l := by
                have h := hrc8.pre (k := n) (by omega)
                have e : (sealed l).take n = l := by unfold sealed; rw [← HL.out]; exact List.take_left
                rw [e] at h
                exact h
              have k1 : ∀ x : Ext wr, (convert 22 9 (.slice A n c)).run Tryd.prog x.w = .ok (str l) x.w := fun x => run_str (hb8.below x.h) _ _ _ _ Tryd.underlying22 Tryd.underlying5 Tryd.underlying9
              have k2 : ∀ x : Ext wr, (convert 22 9 (.slice Ao n co)).run Tryd.prog x.w = .ok (str l) x.w := fun x => run_str (ho8.below x.h) _ _ _ _ Tryd.underlying22 Tryd.underlying5 Tryd.underlying9
              have k3 : ∀ x : Ext wr, (convert 22 9 (.slice Ac n cc)).run Tryd.prog x.w = .ok (str l) x.w := fun x => run_str (hpc8.below x.h) _ _ _ _ Tryd.underlying22 Tryd.underlying5 Tryd.underlying9
              have i0 : (0 : Int) ≤ ↑n := by omega
              have i1 : (↑n : Int) ≤ ↑cc := by omega
              clear hkc hkc0 HS hsl
              go_wp2_with fail
              refine wp_region_ext (by kernel_rfl) (by kernel_rfl) ?_
              repeat (go_big_quiet_step (fail))
              refine wpQuiet_nil ?_
              rintro _ ⟨y, rfl⟩
              have hc9 := own_below hc8 y.h
              have hz3 : w1.heap.size ≤ w3.heap.size := by omega
              have hB19 := hB18.trans (y.h.mono hB18.size)
              have hBw9 := hBw8.trans (y.h.mono hBw8.size)
              obtain ⟨g, rfl, hg1, hg2, hcell, hfz, hset⟩ := own_set hc9 (k := 0) (by omega)
              obtain ⟨x0, hx0⟩ : ∃ x0, (sealed l)[0]? = some x0 := by
                have hsl : (sealed l).length = n + 4 := hrc8.len
                exact ⟨_, List.getElem?_eq_getElem (by omega)⟩
              rw [List.getElem?_map, hx0] at hcell
              have hcell' : y.w.cell? ⟨g, 0, none⟩ = some (.int .u8 (N8 x0)) := hcell
              have hBa : ∀ u, Below w1.heap.size w1 (y.w.setCell ⟨g, 0, none⟩ u) := fun u => hB19.setCell (Nat.le_trans hz3 hg1) u
              have hBb : ∀ u, Below w.heap.size w (y.w.setCell ⟨g, 0, none⟩ u) := fun u => hBw9.setCell (Nat.le_trans hz1 (Nat.le_trans hz3 hg1)) u
              have k4 : ∀ u, (convert 22 9 (.slice A n c)).run Tryd.prog (y.w.setCell ⟨g, 0, none⟩ u) = .ok (str l) (y.w.setCell ⟨g, 0, none⟩ u) := fun u => run_str (hb.below (hBb u)) _ _ _ _ Tryd.underlying22 Tryd.underlying5 Tryd.underlying9
              have k5 : ∀ u, (convert 22 9 (.slice Ao n co)).run Tryd.prog (y.w.setCell ⟨g, 0, none⟩ u) = .ok (str l) (y.w.setCell ⟨g, 0, none⟩ u) := fun u => run_str (RB.below hro (hBa u)) _ _ _ _ Tryd.underlying22 Tryd.underlying5 Tryd.underlying9
              clear k1 k2 k3 hc8 hrc8 hpc8 hcell hset hc9 hx0
              go_wp2_with fail
              refine (awake_any _ (hT.keep (hBb _))).mono ?_
              rintro e w' ⟨rfl, hbw⟩
              go_wp2_with fail
              go_ret
              exact ⟨rfl, (hBb _).trans (hbw.mono (hBb _).size)⟩
end Go.Proofs.YtdclpabfnfmikaaDoor
