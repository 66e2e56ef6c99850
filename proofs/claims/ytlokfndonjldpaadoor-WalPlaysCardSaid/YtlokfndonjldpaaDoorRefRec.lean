/- The reference's Header, data, Bytes, Sectors, walked. Conditions: those of each theorem. -/
import Derived.Test.YtlokfndonjldpaaDoorRefPut
import Derived.Test.YtlokfndonjldpaaDoorAppend
import Derived.Test.YtlokfndonjldpaaDoorStep
import Derived.Lib.SlBytesConst
set_option linter.unusedSimpArgs false
set_option linter.unusedVariables false
namespace Go.Proofs.YtlokfndonjldpaaDoor
open Go.RowKit

theorem hdr_pad (e f : Nat) : padB (sealed (hdrB e f)) = hdr e f := by
  unfold padB
  rw [sealed_len, hdrB_len]
  rfl
set_option maxRecDepth 100000 in
set_option maxHeartbeats 1000000 in
/-- put behind a slice that is full -/
theorem put_lit (A : Option Addr) (m : Nat) (xs : List Value) (x n : Nat) (w : World) (hr : RL w 1 A m xs) (hm0 : 0 < m) (hx : x < 18446744073709551616) (hn : n ≤ 8) (hn1 : 1 ≤ n) (hm : m ≤ 1000000) :
    Calls Tryd.prog 32 #[.slice A m m, .int .u64 x, .int .i64 n] w fun e w' => ∃ v', e = .returned v' ∧ w'.ownsRow w.heap.size 5 1 v' (m + n) (xs ++ (le n x).map byV) ∧ Below w.heap.size w w' := by
  go_enter Tryd.func32, Tryd.ntmps32
  go_wp2_with fail
  go_loopw [0, 7] (fun b i wr => ∃ k : Nat, k ≤ n ∧ i = .int .i64 k ∧ ((k = 0 ∧ b = .slice A m m ∧ wr = w) ∨ (1 ≤ k ∧ wr.ownsRow w.heap.size 5 1 b (m + k) (xs ++ (le k x).map byV) ∧ Below w.heap.size w wr))) (fun _ i _ => n - (intOf i).toNat)
  case atStart => exact ⟨0, Nat.zero_le _, rfl, .inl ⟨rfl, rfl, rfl⟩⟩
  case round =>
    obtain ⟨k, hk, rfl, hc⟩ := hrel
    by_cases hlt : k < n
    · have HE : Hid (le (k + 1) x = le k x ++ [UInt8.ofNat (x / 256 ^ k)]) := hid (le_snoc k x)
      have eb : Hid (byV (UInt8.ofNat (x / 256 ^ k)) = .int .u8 ((x : Int) / 2 ^ (8 * k) % 256)) := hid (byte_val x k)
      rcases hc with ⟨rfl, rfl, rfl⟩ | ⟨h1, hown2, hbel⟩
      · have HE0 : Hid (byV (UInt8.ofNat x) = .int .u8 ((x : Int) % 256)) := by
          have := eb.out
          simp only [Nat.pow_zero, Nat.div_one, Nat.mul_zero, Int.pow_zero, Int.ediv_one] at this
          exact hid this
        go_wp2_with (at_builtin; refine wp_app_full rfl _ _ 25 rfl 5 _ 1 1 bytesT.1 bytesT.2.1 bytesT.2.2 (by omega) A m m xs (hr.alloc _) hm0 rfl _ 1 1 _ (RL.new wr _ _ _ 1 1 rfl) (by omega) rfl (by omega) (by unfold maxLen; omega) (by omega) ?_; intro v3 w3 hown3 hg3)
        have hB3 : Below wr.heap.size wr w3 := ((Below.refl _ _).alloc (Nat.le_refl _) _).grown hg3 (by simp) (fun g hg => by cases hg)
        go_roundw
        case rel =>
          refine ⟨1, by omega, rfl, .inr ⟨Nat.le_refl _, ?_, hB3⟩⟩
          have h9 := own_base (base' := wr.heap.size) hown3 (by simp)
          show w3.ownsRow _ _ _ _ (m + 1) (xs ++ [byV (UInt8.ofNat x)])
          rw [HE0.out]
          exact h9
        case measure => simp [intOf]; omega
      · have hsz := hbel.size
        go_wp2_with (at_builtin; refine wp_app _ rfl _ _ 25 rfl w.heap.size 5 _ 1 bytesT _ _ _ (hown2.alloc _) rfl _ 1 1 _ (RL.new wr _ _ _ 1 1 rfl) rfl (one_only rfl) (by unfold maxLen; omega) (by omega) (by simp; omega) ?_; intro v3 w3 hown3 hg3 hat3)
        have hB3 : Below w.heap.size w w3 := (hbel.alloc hsz _).grown hg3 (by simp; omega) (fun g hg => (hown2.lt g hg).1)
        go_roundw
        case rel =>
          refine ⟨k + 1, by omega, by go_num, .inr ⟨by omega, ?_, hB3⟩⟩
          rw [HE.out, List.map_append, ← List.append_assoc, List.map_cons, eb.out]
          exact hown3
        case measure => simp [intOf]; omega
    · obtain rfl : k = n := by omega
      rcases hc with ⟨h0, _⟩ | ⟨h1, hown2, hbel⟩
      · omega
      · go_wp2_with fail
        go_ret
        exact ⟨_, rfl, hown2, hbel⟩
set_option maxRecDepth 100000 in
set_option maxHeartbeats 1000000 in
theorem refHeader_any (e f : Nat) (w : World) (he : e < 18446744073709551616) (hf : f < 18446744073709551616) :
    Calls Tryd.prog 10 #[.int .u64 e, .int .u64 f] w fun ex w' => ∃ v, ex = .returned v ∧ w'.ownsRow w.heap.size 5 1 v 128 ((hdr e f).map byV) ∧ Below w.heap.size w w' := by
  have kc := Lib.run_convert_bytes_const (P := Tryd.prog) w 25 5 #[.int .u8 79, .int .u8 87, .int .u8 65, .int .u8 76] 4 4 Tryd.underlying25 Tryd.underlying5
  go_enter Tryd.func10, Tryd.ntmps10
  go_wp2_with fail
  have hr0 := RL.new w #[.int .u8 79, .int .u8 87, .int .u8 65, .int .u8 76] 5 (4, 5) 1 4 rfl
  have hB : Below w.heap.size w (w.alloc (.cells #[.int .u8 79, .int .u8 87, .int .u8 65, .int .u8 76] 5 (4, 5))) := (Below.refl _ _).alloc (Nat.le_refl _) _
  generalize w.alloc (.cells #[.int .u8 79, .int .u8 87, .int .u8 65, .int .u8 76] 5 (4, 5)) = w1 at hr0 hB ⊢
  have hr1 : RL w1 1 (some ⟨w.heap.size, 0, none⟩) 4 (([79, 87, 65, 76] : List UInt8).map byV) := hr0
  refine (put_lit _ 4 _ e 8 w1 hr1 (by omega) he (by omega) (by omega) (by omega)).mono ?_
  rintro ex w2 ⟨v2, rfl, hown2, b2⟩
  have B2 := hB.trans (b2.mono hB.size)
  clear kc hr0 hr1
  go_wp2_with fail
  refine (put_any w1.heap.size _ 12 _ f 8 w2 hown2 hf (by omega) (by omega) b2.size).mono ?_
  rintro ex w3 ⟨v3, rfl, hown3, b3⟩
  have B3 := B2.trans (b3.mono hB.size)
  have hown3' : w3.ownsRow w1.heap.size 5 1 v3 20 ((hdrB e f).map byV) := by
    have := hown3
    rw [← List.map_append, ← List.map_append] at this
    exact this
  obtain ⟨A3, c3, rfl, hr3, _, _⟩ := own_form hown3'
  clear hown2 hown3 b2 b3 B2
  go_wp2_with fail
  refine (refAppend_any A3 20 c3 (hdrB e f) w3 hr3 (by omega)).mono ?_
  rintro ex w4 ⟨v4, rfl, hown4, b4⟩
  have B4 := B3.trans (b4.mono B3.size)
  rw [sealed_len, hdrB_len] at hown4
  go_wp2_with fail
  refine (pad_any w3.heap.size v4 24 (sealed (hdrB e f)) w4 hown4 (by rw [sealed_len, hdrB_len]) (by omega) b4.size).mono ?_
  rintro ex w5 ⟨v5, rfl, hown5, b5⟩
  go_wp2_with fail
  go_ret
  rw [hdr_pad, hdr_len] at hown5
  exact ⟨v5, rfl, own_base hown5 B3.size, B4.trans (b5.mono B3.size)⟩
theorem refSectors_any (n : Nat) (w : World) (hn : n ≤ 4294967296) :
    Calls Tryd.prog 31 #[.int .i64 n] w fun e w' => e = .returned (.int .i64 (cnt n)) ∧ w = w' := by
  have e1 : ((n : Int) + 8 + 79) / 80 = (cnt n : Int) := by unfold cnt; omega
  go_enter Tryd.func31, Tryd.ntmps31
  go_wp2_with fail
  go_ret
  exact ⟨rfl, rfl⟩
set_option maxRecDepth 100000 in
set_option maxHeartbeats 1000000 in
theorem refData_any (A : Option Addr) (n c : Nat) (p : List UInt8) (w : World) (hp : RB w A n p) (hn : n ≤ 8192) :
    Calls Tryd.prog 35 #[.slice A n c] w fun e w' => ∃ v, e = .returned v ∧ w'.ownsRow w.heap.size 5 1 v (80 * cnt n) ((recData p).map byV) ∧ Below w.heap.size w w' := by
  have HL := hid hp.len
  obtain ⟨S, hS⟩ : ∃ z, sealed (le 4 n ++ p) = z := ⟨_, rfl⟩
  have hSl : S.length = n + 8 := by rw [← hS, sealed_len, List.length_append, le_len, HL.out]; omega
  have HSl := hid hSl
  have hK : n + 8 ≤ 80 * cnt n := cnt_room n
  have hK2 : 80 * cnt n < n + 8 + 80 := by unfold cnt; omega
  have HD : Hid (recData p = S ++ zeroB (80 * cnt n - (n + 8))) := by
    show _ = _
    unfold recData
    rw [HL.out, hS]
  have HK := hid (show 80 * cnt n % 80 = 0 by omega)
  obtain ⟨T, hT⟩ : ∃ z, 80 * cnt n = z := ⟨_, rfl⟩
  have HT := hid hT
  rw [hT] at hK hK2 HD HK
  have hT80 := HK.out
  go_enter Tryd.func35, Tryd.ntmps35
  go_wp2_with fail
  refine (put_any w.heap.size (.slice none 0 0) 0 [] n 4 w (World.ownsRow_nil _ _ _ _) (by omega) (by omega) (by omega) (Nat.le_refl _)).mono ?_
  rintro e w1 ⟨v1, rfl, hown1, b1⟩
  have hp1 := hp.below b1
  go_wp2_with (at_builtin; refine wp_app _ rfl _ _ 25 rfl w.heap.size 5 _ 1 bytesT _ _ _ hown1 rfl _ _ _ _ hp1 rfl (byV_one _) (by unfold maxLen; omega) (by omega) b1.size ?_; intro v2 w2 hown2 r2 a2; go_frame)
  have B2 := b1.grown r2 b1.size (fun g hg => (hown1.lt g hg).1)
  have hown2' : w2.ownsRow w.heap.size 5 1 v2 (4 + n) ((le 4 n ++ p).map byV) := by
    have := hown2
    rw [List.nil_append, ← List.map_append, Nat.zero_add] at this
    exact this
  obtain ⟨A2, c2, rfl, hr2, _, _⟩ := own_form hown2'
  have hr2 : RB w2 A2 (4 + n) (le 4 n ++ p) := hr2
  have R := refAppend_any A2 (4 + n) c2 (le 4 n ++ p) w2 hr2 (by omega)
  rw [hS, hSl] at R
  clear hS hown1 hown2 hown2' r2 a2 b1 hr2 hp1 hSl hT
  refine R.mono ?_
  clear R
  rintro e w3 ⟨v3, rfl, hown3, b3⟩
  have B3 := B2.trans (b3.mono B2.size)
  have hb2 := B2.size
  have hb3 := b3.size
  have hown3 := own_base hown3 B2.size
  obtain ⟨A3, c3, rfl, _, _, _⟩ := own_form hown3
  clear b3 B2
  go_wp2_with fail
  go_loopg [3] (T - (n + 8)) (fun gh b wr => ∃ (k : Nat) (A : Option Addr) (c : Nat), gh + k = T - (n + 8) ∧ b = .slice A (n + 8 + k) c ∧ wr.ownsRow w.heap.size 5 1 (.slice A (n + 8 + k) c) (n + 8 + k) ((S ++ zeroB k).map byV) ∧ Below w.heap.size w wr) 
  case atStart => exact ⟨0, A3, c3, by omega, rfl, by simpa [zeroB] using hown3, B3⟩
  case round =>
    obtain ⟨k, A, c, hk, rfl, hown4, hbel⟩ := hrel
    clear hown3 B3
    have hsz := hbel.size
    by_cases hlt : 0 < gk
    · have t1 : (((n : Int) + 8 + (k : Int)).tmod 80 != 0) = true := by rw [bne_iff_ne, Int.tmod_eq_emod_of_nonneg (by omega)]; omega
      have t2 : (((n : Int) + 8 + (k : Int)) % 80 != 0) = true := by rw [bne_iff_ne]; omega
      go_wp2_with (at_builtin; refine wp_app _ rfl _ _ 25 rfl w.heap.size 5 _ 1 bytesT _ _ _ (hown4.alloc _) rfl _ 1 1 _ (RL.new wr _ _ _ 1 1 rfl) rfl (one_only rfl) (by unfold maxLen; omega) (by omega) (by simp; omega) ?_; intro v5 w5 hown5 hg5 hat5)
      have hB5 : Below w.heap.size w w5 := (hbel.alloc hsz _).grown hg5 (by simp; omega) (fun g hg => (hown4.lt g hg).1)
      have ez : List.map byV (S ++ zeroB k) ++ [Value.int .u8 0] = (S ++ zeroB (k + 1)).map byV := by
        unfold zeroB
        rw [List.replicate_succ', ← List.append_assoc, List.map_append (l₁ := S ++ List.replicate k 0)]
        rfl
      have hown6 : w5.ownsRow w.heap.size 5 1 v5 (n + 8 + k + 1) ((S ++ zeroB (k + 1)).map byV) := by rw [← ez]; exact hown5
      obtain ⟨A5, c5, rfl, _, _, _⟩ := own_form hown6
      clear ez hown5
      go_roundg (gk - 1)
      case measure => omega
      case rel => exact ⟨k + 1, A5, c5, by omega, rfl, hown6, hB5⟩
    · obtain rfl : gk = 0 := by omega
      have t1 : (((n : Int) + 8 + (k : Int)).tmod 80 != 0) = false := by rw [bne_eq_false_iff_eq, Int.tmod_eq_emod_of_nonneg (by omega)]; omega
      have t2 : (((n : Int) + 8 + (k : Int)) % 80 != 0) = false := by rw [bne_eq_false_iff_eq]; omega
      go_wp2_with fail
      go_ret
      refine ⟨_, rfl, ?_, hbel⟩
      rw [HD.out, ← hk, Nat.zero_add]
      have e : n + 8 + k = T := by omega
      rw [HT.out, ← e]
      exact hown4

theorem recSecs_len128 {t : List UInt8} (ht : t.length = 24) (p : List UInt8) : (recSecs t p).flatten.length = 128 * cnt p.length := by
  have h : ∀ (l : List (List UInt8)), (∀ s ∈ l, s.length = 128) → l.flatten.length = 128 * l.length := by
    intro l
    induction l with
    | nil => intro _; rfl
    | cons s r ih =>
      intro hl
      rw [List.flatten_cons, List.length_append, hl s (List.mem_cons_self ..), ih (fun x hx => hl x (List.mem_cons_of_mem _ hx)), List.length_cons]
      omega
  rw [h _ (recSecs_128 ht p), recSecs_len]
set_option maxRecDepth 100000 in
set_option maxHeartbeats 4000000 in
theorem refBytes_any (e g l : Nat) (A : Option Addr) (n c : Nat) (p : List UInt8) (w : World) (he : e < 18446744073709551616) (hg : g < 18446744073709551616) (hl : l < 18446744073709551616) (hp : RB w A n p) (hn : n ≤ 8192) :
    Calls Tryd.prog 11 #[.int .u64 e, .int .u64 g, .int .u64 l, .slice A n c] w fun ex w' => ∃ v, ex = .returned v ∧ w'.ownsRow w.heap.size 5 1 v (128 * cnt n) ((recSecs (tagB e g l) p).flatten.map byV) ∧ Below w.heap.size w w' := by
  have HL := hid hp.len
  have hk103 : cnt n ≤ 103 := by unfold cnt; omega
  have HRD := fun w' (hb : RB w' A n p) => refData_any A n c p w' hb hn
  obtain ⟨k, hk⟩ : ∃ z, cnt n = z := ⟨_, rfl⟩
  have HK := hid hk
  rw [hk] at HRD hk103
  have HRD := hid HRD
  clear hk
  go_enter Tryd.func11, Tryd.ntmps11
  go_wp2_with fail
  refine (put_any w.heap.size (.slice none 0 0) 0 [] e 8 w (World.ownsRow_nil _ _ _ _) he (by omega) (by omega) (Nat.le_refl _)).mono ?_
  rintro ex w1 ⟨v1, rfl, hown1, b1⟩
  go_wp2_with fail
  refine (put_any w.heap.size v1 8 _ g 8 w1 hown1 hg (by omega) (by omega) b1.size).mono ?_
  rintro ex w2 ⟨v2, rfl, hown2, b2⟩
  have B2 := b1.trans b2
  go_wp2_with fail
  refine (put_any w.heap.size v2 16 _ l 8 w2 hown2 hl (by omega) (by omega) B2.size).mono ?_
  rintro ex w3 ⟨v3, rfl, hown3, b3⟩
  have B3 := B2.trans b3
  have hown3' : w3.ownsRow w.heap.size 5 1 v3 24 ((tagB e g l).map byV) := by
    have := hown3
    rw [List.nil_append, ← List.map_append, ← List.map_append] at this
    exact this
  obtain ⟨At, ct, rfl, hrt, hct, hctm⟩ := own_form hown3'
  have hst : SlR (fun b => b < w3.heap.size) w3 ⟨At, 24, ct⟩ (tagB e g l) := ((⟨RN.all hrt, hct, hctm⟩ : SlR (fun _ => True) w3 ⟨At, 24, ct⟩ (tagB e g l)).lt).mono (fun b hb => hb.2)
  have hp3 := hp.below B3
  clear hown1 hown2 hown3 hown3' b1 b2 b3 B2 hp hrt
  go_wp2_with fail
  refine (HRD.out w3 hp3).mono ?_
  rintro ex w4 ⟨v4, rfl, hown4, b4⟩
  obtain ⟨Ad, cd, rfl, hrd, hcd, hcdm⟩ := own_form hown4
  have hsd : SlR (fun b => b < w4.heap.size) w4 ⟨Ad, 80 * k, cd⟩ (recData p) := ((⟨RN.all hrd, hcd, hcdm⟩ : SlR (fun _ => True) w4 ⟨Ad, 80 * k, cd⟩ (recData p)).lt).mono (fun b hb => hb.2)
  have B := B3.trans (b4.mono B3.size)
  replace hst := (hst.keep b4).mono (N' := fun b => b < w4.heap.size) (fun b hb => Nat.lt_of_lt_of_le hb b4.size)
  clear hown4 b4 B3 hp3 hrd
  obtain ⟨d, hd⟩ : ∃ z, recData p = z := ⟨_, rfl⟩
  have HD := hid hd
  rw [hd] at hsd
  clear hd
  obtain ⟨t, ht⟩ : ∃ z, tagB e g l = z := ⟨_, rfl⟩
  have HT := hid ht
  rw [ht] at hst
  clear ht
  have hwg := B.size
  go_wp2_with fail
  obtain ⟨g0, hg0⟩ : ∃ z, z = w4.heap.size := ⟨_, rfl⟩
  rw [← hg0] at hsd hst hwg
  go_loopg [11, 12] (2 * k) (fun gh b i wr => ∃ (j : Nat), gh + j = 2 * k ∧ i = .int .i64 (40 * (j : Int)) ∧ wr.ownsRow g0 5 1 b (64 * j) (((List.range j).flatMap (halfR t d)).map byV) ∧ SlR (fun b => b < g0) wr ⟨At, 24, ct⟩ t ∧ SlR (fun b => b < g0) wr ⟨Ad, 80 * k, cd⟩ d ∧ Below w.heap.size w wr ∧ g0 ≤ wr.heap.size)
  case atStart => exact ⟨0, by omega, rfl, World.ownsRow_nil _ _ _ _, hst, hsd, B, by omega⟩
  case round =>
    obtain ⟨j, hj, rfl, hown, ht, hd, hbel, hgr⟩ := hrel
    clear hst hsd B
    by_cases hlt : 0 < gk
    · have hjk : j < 2 * k := by omega
      have t1 : (40 * (j : Int)) < 80 * (k : Int) := by omega
      have hdl : d.length = 80 * k := hd.len
      have n1 : ¬ cd = 40 * j := by omega
      have ei := IntWalk.i64_in (40 * (j : Int) + 40) (by omega)
      obtain ⟨bd, od, xd, eAd, _⟩ := RB.at hd.rb (k := 0) (show 0 < 80 * k by omega)
      dsimp only at eAd
      subst eAd
      have HBD : Hid (bd < g0) := hid (hd.r.2 bd od rfl (show 0 < 80 * k by omega))
      have ks : ∀ wx, (Instr.slice 25 (.slice (some ⟨bd, od, none⟩) (80 * k) cd) (some (.int .i64 (40 * (j : Int)))) (some (.int .i64 (40 * (j : Int) + 40))) none).run Tryd.prog wx = .ok (.slice (some ⟨bd, od + 40 * j, none⟩) 40 (cd - 40 * j)) wx := fun wx => by
        have := run_part (P := Tryd.prog) 25 5 Tryd.underlying25 bytesN (some ⟨bd, od, none⟩) (80 * k) cd (40 * j) (40 * j + 40) .i64 .i64 (40 * (j : Int)) (40 * (j : Int) + 40) (by omega) (by omega) (by omega) (by omega) wx
        rw [if_neg n1, show 40 * j + 40 - 40 * j = 40 by omega] at this
        simpa [add_spot] using this
      obtain ⟨Ab, cb, rfl, _, _, _⟩ := own_form hown
      have hrj : ∀ wx, Below wr.heap.size wr wx → RB wx (some ⟨bd, od + 40 * j, none⟩) 40 ((d.drop (40 * j)).take 40) := fun wx hb => (show RB wx (some ⟨bd, od, none⟩) (80 * k) d from hd.rb.below hb).sub (40 * j) 40 (by omega)
      go_wp2_with fail
      go_region_law (first
        | (refine step_app rfl (.tmp 27) (.tmp 28) 25 rfl g0 5 _ 1 bytesT (.slice Ab (64 * j) cb) (64 * j) _ (show World.ownsRow wr.drew _ _ _ _ _ _ from hown) (by simp [Act.eval, Act.put]) At 24 ct (t.map byV) (show RL wr.drew 1 At 24 (t.map byV) from ht.rb) (by simp [Act.eval, Act.put]) (byV_one t) (by unfold maxLen; omega) (by omega) hgr ?_; intro v5 w5 hown5 r5 a5; obtain ⟨A5, c5, rfl, _, _, _⟩ := own_form hown5)
        | (refine step_app rfl (.tmp 29) (.tmp 34) 25 rfl g0 5 _ 1 bytesT (.slice A5 (64 * j + 24) c5) (64 * j + 24) _ hown5 (by simp [Act.eval, Act.put]) (some ⟨bd, od + 40 * j, none⟩) 40 (cd - 40 * j) _ (RL.grown (hrj wr.drew (Below.refl _ _).drew) r5 (fun g hg _ b o hA he => by cases hA; have := (hown.lt g hg).1; have := HBD.out; omega)) (by simp [Act.eval, Act.put]) (byV_one _) (by unfold maxLen; omega) (by omega) (Nat.le_trans hgr r5.size) ?_; intro v6 w6 hown6 r6 a6))
      have q1 : ∀ g, (Value.slice Ab (64 * j) cb).ownBlock = some g → g0 ≤ g := fun g hg => (hown.lt g hg).1
      have q2 : ∀ g, (Value.slice A5 (64 * j + 24) c5).ownBlock = some g → g0 ≤ g := fun g hg => (hown5.lt g hg).1
      have ht6 := (((ht.keep (Below.refl _ _).drew).grown r5 (fun g hg hN => by have := q1 g hg; omega)).grown r6 (fun g hg hN => by have := q2 g hg; omega))
      have hd6 := (((hd.keep (Below.refl _ _).drew).grown r5 (fun g hg hN => by have := q1 g hg; omega)).grown r6 (fun g hg hN => by have := q2 g hg; omega))
      have B5 := hbel.drew.grown r5 hbel.drew.size (fun g hg => by have := q1 g hg; omega)
      have B6 := B5.grown r6 B5.size (fun g hg => by have := q2 g hg; omega)
      have ex : List.map byV ((List.range j).flatMap (halfR t d)) ++ List.map byV t ++ List.map byV ((d.drop (40 * j)).take 40) = ((List.range (j + 1)).flatMap (halfR t d)).map byV := by
        rw [List.range_succ, List.flatMap_append, List.map_append]
        simp [halfR, List.append_assoc]
      rw [ex, show 64 * j + 24 + 40 = 64 * (j + 1) by omega] at hown6
      have hg6 : g0 ≤ w6.heap.size := Nat.le_trans (Nat.le_trans hgr r5.size) r6.size
      clear ex ks hrj hown hown5 r5 r6 a5 a6 ht hd hbel B5 q1 q2 hgr
      simp only [List.getElem_toArray, List.getElem_cons_succ, List.getElem_cons_zero]
      go_frame
      go_wp2_with fail
      go_roundg (gk - 1)
      case measure => omega
      case rel => exact ⟨j + 1, by omega, by go_num, hown6, ht6, hd6, B6, hg6⟩
    · obtain rfl : gk = 0 := by omega
      obtain rfl : j = 2 * k := by omega
      go_wp2_with fail
      go_ret
      refine ⟨_, rfl, ?_, hbel⟩
      unfold recSecs
      rw [recSecs_flat, HL.out, HK.out, HD.out, HT.out]
      rw [show 64 * (2 * k) = 128 * k by omega] at hown
      exact own_base hown hwg
end Go.Proofs.YtlokfndonjldpaaDoor
