/- The reference's Same, walked: lists of records that read alike. Conditions: both read. The acts of layer 12's laws as values; payload, walked. Conditions: the act's numbers fit. The arguments of layer 12's laws that came in. Conditions: none. -/
import Derived.Test.YtlokfndonjldpaaDoorRecR
import Derived.Deep.QuietTactic
import Derived.BigQuiet
import Derived.Test.YtlokfndonjldpaaDoorAppend
import Derived.Test.YtlokfndonjldpaaDoorEnd
import Derived.Lib.SmallJoins
set_option linter.unusedSimpArgs false
set_option linter.unusedVariables false
namespace Go.Proofs.YtlokfndonjldpaaDoor
open Go.RowKit

set_option maxRecDepth 100000 in
set_option maxHeartbeats 4000000 in
theorem same_yes (N N' : Nat → Prop) (a b : Sl) (R : List (Nat × List UInt8)) (w : World) (ha : RecR N w a R) (hb : RecR N' w b R) :
    Calls Tryd.prog 18 #[a.v, b.v] w fun e w' => e = .returned (.bool true) ∧ Below w.heap.size w w' := by
  obtain ⟨A, n, c⟩ := a
  obtain ⟨A', n', c'⟩ := b
  have e1 := ha.e
  have e2 := hb.e
  dsimp only at e1 e2
  obtain rfl : n = n' := by omega
  have ncA := ha.nc
  have ncB := ha.cm
  dsimp only at ncA ncB
  have HA := hid (fun wr (h : Below w.heap.size w wr) => ha.keep h)
  have HB := hid (fun wr (h : Below w.heap.size w wr) => hb.keep h)
  have HE := hid e1
  clear ha hb e2 e1
  unfold Sl.v
  dsimp only
  go_enter Tryd.func18, Tryd.ntmps18
  have y0 : ((n : Int) == (n : Int)) = true := beq_self_eq_true _
  go_wp2_with fail
  go_loopw [5] (fun v wr => ∃ i : Nat, i ≤ n ∧ v = .int .i64 i ∧ Below w.heap.size w wr) (fun v _ => n - (intOf v).toNat)
  case atStart => exact ⟨0, Nat.zero_le _, rfl, Below.refl _ _⟩
  case round =>
    obtain ⟨i, hi, rfl, hbel⟩ := hrel
    by_cases hlt : i < n
    · obtain ⟨x, hx⟩ : ∃ x, R[i]? = some x := ⟨_, List.getElem?_eq_getElem (by rw [← HE.out]; exact hlt)⟩
      obtain ⟨b1, o1, s1, rA, hb1, hc1, hp1, hs1⟩ := (HA.out wr hbel).at hx
      obtain ⟨b2, o2, s2, rB, hb2, hc2, hp2, hs2⟩ := (HB.out wr hbel).at hx
      dsimp only at rA rB
      subst rA rB
      obtain ⟨A1, n1, c1⟩ := s1
      obtain ⟨A2, n2, c2⟩ := s2
      have cv1 := fun wx (h : Below wr.heap.size wr wx) => run_str (hs1.rb.below h) 25 9 5 c1 Tryd.underlying25 Tryd.underlying5 Tryd.underlying9
      have cv2 := fun wx (h : Below wr.heap.size wr wx) => run_str (hs2.rb.below h) 25 9 5 c2 Tryd.underlying25 Tryd.underlying5 Tryd.underlying9
      unfold Sl.v at hp1 hp2
      dsimp only at hp1 hp2 cv1 cv2
      clear hs1 hs2 hx
      obtain ⟨xl, xp⟩ := x
      dsimp only at hc1 hc2 hp1 hp2 cv1 cv2
      have y1 : ((xl : Int) == (xl : Int)) = true := beq_self_eq_true _
      have hd : decide ((xl : Int) = (xl : Int)) = true := by simp
      have t1 : (i : Int) < (n : Int) := by omega
      go_wp2_with fail
      have g1 := fun x : Ext wr => (x.h.cell hb1).trans hc1
      have g2 := fun x : Ext wr => (x.h.cell hb1).trans hp1
      have g3 := fun x : Ext wr => (x.h.cell hb2).trans hc2
      have g4 := fun x : Ext wr => (x.h.cell hb2).trans hp2
      have v1 := fun x : Ext wr => cv1 x.w x.h
      have v2 := fun x : Ext wr => cv2 x.w x.h
      clear hc1 hp1 hc2 hp2 cv1 cv2
      (refine wp_region_ext (by kernel_rfl) (by kernel_rfl) ?_; (repeat (go_big_quiet_step ((fail)))); refine wpQuiet_nil ?_; rintro _ ⟨y, rfl⟩)
      have hb' := hbel.trans (y.h.mono hbel.size)
      go_wp2_with fail
      go_roundw
      case rel => exact ⟨i + 1, by omega, by go_num, hb'⟩
      case measure => simp [intOf]; omega
    · obtain rfl : i = n := by omega
      go_wp2_with fail
      go_ret
      exact ⟨rfl, hbel⟩
end Go.Proofs.YtlokfndonjldpaaDoor
set_option linter.unusedSimpArgs false
set_option linter.unusedVariables false
namespace Go.Proofs.YtlokfndonjldpaaDoor
open Go.RowKit

structure Ac where
  (kd n v ch : Nat)
def Ac.cs (x : Ac) : List Value := [.int .u8 x.kd, .int .u16 x.n, .int .u8 x.v, .int .u64 x.ch]
def Ac.val (x : Ac) : Value := .agg #[.int .u8 x.kd, .int .u16 x.n, .int .u8 x.v, .int .u64 x.ch]
structure Ac.ok (x : Ac) : Prop where
  k : x.kd < 256
  n : x.n < 65536
  v : x.v < 256
  c : x.ch < 18446744073709551616
/-- the payload -/
def payB (n v : Nat) : List UInt8 := (List.range (n % 400)).map fun i => UInt8.ofNat (v + i)
theorem payB_len (n v : Nat) : (payB n v).length = n % 400 := by simp [payB]
theorem payB_at {n v i : Nat} (h : i < n % 400) : (payB n v)[i]? = some (UInt8.ofNat (v + i)) := by simp [payB, h]
def Ac.pay (x : Ac) : List UInt8 := payB x.n x.v
set_option maxRecDepth 100000 in
set_option maxHeartbeats 2000000 in
theorem payload_any (x : Ac) (w : World) (hx : x.ok) :
    Calls Tryd.prog 12 #[x.val] w fun e w' => ∃ g, e = .returned (.slice (some ⟨g, 0, none⟩) x.pay.length x.pay.length) ∧ w.heap.size ≤ g ∧ BlkB w' g 5 x.pay ∧ Below w.heap.size w w' := by
  obtain ⟨kd, n, v, ch⟩ := x
  obtain ⟨h1, h2, h3, h4⟩ := hx
  dsimp only at h1 h2 h3 h4
  unfold Ac.val Ac.pay
  dsimp only
  obtain ⟨P, hP0⟩ : ∃ z, payB n v = z := ⟨_, rfl⟩
  have HP := hid hP0
  have hl : P.length = n % 400 := by rw [← hP0]; exact payB_len n v
  rw [hP0, hl]
  clear hP0
  obtain ⟨m, hm⟩ : ∃ z, n % 400 = z := ⟨_, rfl⟩
  have HM := hid hm
  have em : ((n : Int) % 400) = (m : Int) := by omega
  have hm4 : m < 400 := by omega
  have em2 : (n : Int).tmod 400 = (m : Int) := by rw [Int.tmod_eq_emod_of_nonneg (by omega)]; exact em
  rw [hm] at hl ⊢
  have HL := hid hl
  clear hm hl
  go_enter Tryd.func12, Tryd.ntmps12
  go_wp2_with (at_make; refine wp_make _ rfl _ _ 25 rfl (w.heap.size + 1) 5 _ 1 bytesT rfl .i64 .i64 _ _ m rfl rfl rfl rfl (by omega) (by unfold maxLen; omega) (by simp) ?_; intro w1 hown hg)
  have hBx : Below w.heap.size w (w.alloc (.cells #[.int .u8 kd, .int .u16 n, .int .u8 v, .int .u64 ch] 34)) := (Below.refl _ _).alloc (Nat.le_refl _) _
  have kx := (Blk.new w 34 [.int .u8 kd, .int .u16 n, .int .u8 v, .int .u64 ch]).grown hg (by simp)
  have hB1 : Below w.heap.size w w1 := hBx.grown hg hBx.size (fun k hk => by cases hk)
  have kr := own_blk hown
  rw [byV_zeros] at kr
  clear hBx hown hg
  go_loopw [4] (fun i wr => ∃ k : Nat, k ≤ m ∧ i = .int .i64 k ∧ Blk wr (w.heap.size + 1) 5 ((P.take k ++ List.replicate (m - k) 0).map byV) ∧ Blk wr w.heap.size 34 [.int .u8 kd, .int .u16 n, .int .u8 v, .int .u64 ch] ∧ Below w.heap.size w wr) (fun i _ => m - (intOf i).toNat)
  case atStart => exact ⟨0, Nat.zero_le _, rfl, by simpa using kr, kx, hB1⟩
  case round =>
    obtain ⟨k, hk, rfl, kr', kx', hbel⟩ := hrel
    clear kr kx hB1
    by_cases hlt : k < m
    · obtain ⟨x0, x1, x2, x3⟩ := kx'.c4
      have HX' : Hid (P[k]? = some (UInt8.ofNat (v + k))) := hid (by rw [← HP.out]; exact payB_at (by rw [HM.out]; exact hlt))
      have hv : IntKind.u8.wrap ((v : Int) + IntKind.u8.wrap (k : Int)) = N8 (UInt8.ofNat (v + k)) := by
        unfold N8
        rw [show IntKind.u8.wrap (k : Int) = (k : Int) % 256 from rfl, show IntKind.u8.wrap ((v : Int) + (k : Int) % 256) = ((v : Int) + (k : Int) % 256) % 256 from rfl]
        simp
      have kl : (P.take k ++ List.replicate (m - k) (0 : UInt8)).length = m := by simp [HL.out]; omega
      have HK := hid kl
      clear kl
      go_wp2_with ((with_reducible refine is_store 5 ?_); go_loud (refine wp_store1 (w.heap.size + 1) k _ _ (.int .u8 (N8 (UInt8.ofNat (v + k)))) kr' rfl bytesN (by rw [List.length_map, HK.out]; exact hlt) rfl rfl (by simp only [Act.eval, Act.put]; exact congrArg _ hv) ?_); intro w2 k2 r2; go_frame)
      rw [set_nextB HX'.out hlt] at k2
      go_roundw
      case rel => exact ⟨k + 1, by omega, by go_num, k2, kx'.grown r2 (by simp), hbel.grown r2 hbel.size (fun g hg => by cases hg; omega)⟩
      case measure => simp [intOf]; omega
    · obtain rfl : k = m := by omega
      go_wp2_with fail
      go_ret
      refine ⟨w.heap.size + 1, rfl, by omega, ?_, hbel⟩
      simp only [Nat.sub_self, List.replicate_zero, List.append_nil] at kr'
      rwa [List.take_of_length_le (by rw [HL.out]; exact Nat.le_refl _)] at kr'
end Go.Proofs.YtlokfndonjldpaaDoor
set_option linter.unusedSimpArgs false
set_option linter.unusedVariables false
namespace Go.Proofs.YtlokfndonjldpaaDoor
open Go.ChangeShapes Go.WideShapes Go.ChangeAt Go.RowKit Go.Joins
set_option maxRecDepth 100000

theorem u8_lim {x : Int} (h : (Lit.int .u8 x).wf = true) : ∃ n : Nat, x = n ∧ n ≤ 255 := by
  have : 0 ≤ x ∧ x ≤ 255 := by simpa [Lit.wf, IntKind.min, IntKind.max, IntKind.signed, IntKind.bits] using h
  exact ⟨x.toNat, by omega, by omega⟩
theorem u64_lim {x : Int} (h : (Lit.int .u64 x).wf = true) : ∃ n : Nat, x = n ∧ n < 18446744073709551616 := by
  have : 0 ≤ x ∧ x ≤ 18446744073709551615 := by simpa [Lit.wf, IntKind.min, IntKind.max, IntKind.signed, IntKind.bits] using h
  exact ⟨x.toNat, by omega, by omega⟩
theorem u16_lim {x : Int} (h : (Lit.int .u16 x).wf = true) : ∃ n : Nat, x = n ∧ n < 65536 := by
  have : 0 ≤ x ∧ x ≤ 65535 := by simpa [Lit.wf, IntKind.min, IntKind.max, IntKind.signed, IntKind.bits] using h
  exact ⟨x.toNat, by omega, by omega⟩
theorem i8_lim {x : Int} (h : (Lit.int .i8 x).wf = true) : -128 ≤ x ∧ x ≤ 127 := by
  simpa [Lit.wf, IntKind.min, IntKind.max, IntKind.signed, IntKind.bits] using h
theorem cellI : Tryd.prog.cellsOf 5 = 1 ∧ Tryd.prog.cellsOf 29 = 1 ∧ Tryd.prog.cellsOf 27 = 1 ∧ Tryd.prog.cellsOf 34 = 4 := ⟨by kernel_rfl, by kernel_rfl, by kernel_rfl, by kernel_rfl⟩
section
variable {H : Type} {enc : TypeId × Value → H}
theorem act_el (W : World) {base : Nat} {sp : Nat → Bool} {held : Bool} (n : Nat) (cs : List Value) (y : DataW H × List MemPlace) (hl : cs.length = 4)
    (h : DataW.trod enc Tryd.prog W base sp held n 34 cs = some y) : ∃ x : Ac, cs = x.cs ∧ x.ok := by
  obtain ⟨q1, q2, q3, q4⟩ := cellI
  obtain ⟨xs, m, _, _, _, hlen, hf⟩ := DataW.trod_struct Tryd.underlying34 h
  match cs, hl with
  | [c0, c1, c2, c3], _ =>
    match xs, hlen with
    | [y0, y1, y2, y3], _ =>
      have h0 : DataW.trod enc Tryd.prog W base sp held m 5 [c0] = some y0 := by have := hf 0 _ rfl; simpa [q1] using this
      have h1 : DataW.trod enc Tryd.prog W base sp held m 29 [c1] = some y1 := by have := hf 1 _ rfl; simpa [q2, q1] using this
      have h2 : DataW.trod enc Tryd.prog W base sp held m 5 [c2] = some y2 := by have := hf 2 _ rfl; simpa [q1, q2] using this
      have h3 : DataW.trod enc Tryd.prog W base sp held m 27 [c3] = some y3 := by have := hf 3 _ rfl; simpa [q1, q2, q3] using this
      obtain ⟨x0, e0, _, w0⟩ := DataW.trod_int Tryd.underlying5 h0
      obtain ⟨x1, e1, _, w1⟩ := DataW.trod_int Tryd.underlying29 h1
      obtain ⟨x2, e2, _, w2⟩ := DataW.trod_int Tryd.underlying5 h2
      obtain ⟨x3, e3, _, w3⟩ := DataW.trod_int Tryd.underlying27 h3
      obtain ⟨a, rfl, ha⟩ := u8_lim w0
      obtain ⟨b, rfl, hb⟩ := u16_lim w1
      obtain ⟨c, rfl, hc⟩ := u8_lim w2
      obtain ⟨d, rfl, hd⟩ := u64_lim w3
      simp only [List.cons.injEq, and_true] at e0 e1 e2 e3
      subst e0 e1 e2 e3
      exact ⟨⟨a, b, c, d⟩, rfl, by show a < 256; omega, hb, by show c < 256; omega, hd⟩
theorem open_acts {W : World} {r : Reach} {b0 base : Nat} {sp : Nat → Bool} {held : Bool} {v : Value} {d : DataW H} {p : List MemPlace}
    (hv : Value.okWide Tryd.prog W r b0 62 v) (h : DataW.Trod enc Tryd.prog W base sp held 62 v d p) :
    ∃ (A : Option Addr) (n c : Nat) (X : List Ac), v = .slice A n c ∧ X.length = n ∧ RL W 4 A n (X.flatMap Ac.cs) ∧ (∀ x ∈ X, x.ok) ∧ n ≤ c ∧ c ≤ 9223372036854775807 :=
  open_list 4 (by omega) Ac.cs (fun _ => rfl) Ac.ok Tryd.underlying62 cellI.2.2.2 (act_el W) hv h
end
end Go.Proofs.YtlokfndonjldpaaDoor
