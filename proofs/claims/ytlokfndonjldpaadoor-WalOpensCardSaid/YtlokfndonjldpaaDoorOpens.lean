/- The walk of WalOpens. Conditions: the table of remainders is laid; the arguments read. -/
import Derived.Test.YtlokfndonjldpaaDoorAct
import Derived.Test.YtlokfndonjldpaaDoorRefOpen
import Derived.Test.YtlokfndonjldpaaDoorLawC
import Derived.Test.YtlokfndonjldpaaDoorLawR
import Derived.Test.YtlokfndonjldpaaDoorIs
import Derived.Test.YtlokfndonjldpaaDoorAwake
import Derived.Test.YtlokfndonjldpaaDoorOpensP
import Derived.Test.YtlokfndonjldpaaDoorHead
set_option linter.unusedSimpArgs false
set_option linter.unusedVariables false
namespace Go.Proofs.YtlokfndonjldpaaDoor
open Go.RowKit

/-- a piece of a region -/
structure Pc where
  (e g l n d : Nat)
def Pc.cs (x : Pc) : List Value := [.int .u8 x.e, .int .u8 x.g, .int .u8 x.l, .int .u16 x.n, .int .u16 x.d]
structure Pc.ok (x : Pc) : Prop where
  e : x.e < 256
  g : x.g < 256
  l : x.l < 256
  n : x.n < 65536
  d : x.d < 65536
theorem xor64 : ∀ n : Fin 256, bits .xor .u8 (n.1 : Int) 64 = (((UInt8.ofNat n.1) ^^^ 64).toNat : Int) := by decide +kernel
theorem xor64B (x : UInt8) : bits .xor .u8 (N8 x) 64 = N8 (x ^^^ 64) := by
  have := xor64 ⟨x.toNat, x.toNat_lt⟩
  simp only [UInt8.ofNat_toNat] at this
  exact this

theorem cpB {w : World} {g : Nat} {t : TypeId} {l s : List UInt8} {off n : Nat} (h : Blk w g t ((l.map byV).take off ++ (s.map byV).take n ++ (l.map byV).drop (off + n))) (hs : n ≤ s.length) (hl : off + n ≤ l.length) :
    ∃ l2 : List UInt8, l2.length = l.length ∧ BlkB w g t l2 := by
  refine ⟨l.take off ++ s.take n ++ l.drop (off + n), ?_, ?_⟩
  · rw [List.length_append, List.length_append, List.length_take, List.length_take, List.length_drop]; omega
  · unfold BlkB
    rw [List.map_append, List.map_append, List.map_take, List.map_take, List.map_drop]
    exact h
theorem setB {w : World} {g : Nat} {t : TypeId} {l : List UInt8} {o : Nat} {x : UInt8} (h : Blk w g t ((l.map byV).set o (.int .u8 (N8 x)))) : BlkB w g t (l.set o x) := by
  unfold BlkB
  rw [List.map_set]
  exact h
/-- a sector's bytes -/
def chk (l : List UInt8) (j : Nat) : List UInt8 := (l.drop (j * 128)).take 128
theorem chk_len {l : List UInt8} {k j : Nat} (h : l.length = 128 * k) (hj : j < k) : (chk l j).length = 128 := by
  unfold chk
  rw [List.length_take, List.length_drop]
  omega
theorem chk_flat {l : List UInt8} : ∀ k, 128 * k ≤ l.length → ((List.range k).map (chk l)).flatten = l.take (128 * k)
  | 0, _ => by simp
  | k + 1, h => by
    rw [List.range_succ, List.map_append, List.flatten_append, chk_flat k (by omega)]
    simp only [List.map_cons, List.map_nil, List.flatten_cons, List.flatten_nil, List.append_nil]
    unfold chk
    rw [Nat.mul_add, Nat.mul_comm k 128, ← List.take_add]
theorem seg_chk {f : Secs} {l : List UInt8} {k : Nat} (hl : l.length = 128 * k) (h : ∀ j, j < k → f j = chk l j) : (seg f 0 k).flatten = l := by
  have : seg f 0 k = (List.range k).map (chk l) := by
    unfold seg
    apply List.map_congr_left
    intro j hj
    rw [Nat.zero_add]
    exact h j (List.mem_range.1 hj)
  rw [this, chk_flat k (by omega), ← hl, List.take_length]

set_option maxRecDepth 100000 in
set_option maxHeartbeats 30000000 in
theorem opens_walk (n0 h0 h1 : Nat) (A : Option Addr) (m c : Nat) (X : List Pc) (w : World) (hT : Tab w) (hn0 : n0 < 256) (hh0 : h0 < 256) (hh1 : h1 < 256) (hX : X.length = m) (hr : RL w 5 A m (X.flatMap Pc.cs)) (hok : ∀ x ∈ X, x.ok) (hmc : m ≤ c) (hcm : c ≤ 9223372036854775807) :
    Calls Tryd.prog 3 #[.int .u8 n0, .slice A m c, .agg #[.int .u8 h0, .int .u8 h1]] w fun e w' => e = .returned (.bool true) ∧ Below w.heap.size w w' := by
  have HTb := hid hT
  have HR := hid hr
  have HX := hid hX
  have HOK := hid hok
  clear hT hr hX hok
  go_enter Tryd.func3, Tryd.ntmps3
  go_upto_region 1 with fail
  have kh : Blk (w.alloc (.cells #[.int .u8 h0, .int .u8 h1] 23)) w.heap.size 23 [.int .u8 h0, .int .u8 h1] := Blk.new w _ _
  have B0 : Below w.heap.size w (w.alloc (.cells #[.int .u8 h0, .int .u8 h1] 23)) := (Below.refl _ _).alloc (Nat.le_refl _) _
  obtain ⟨w0, hw0⟩ : ∃ z, w.alloc (.cells #[.int .u8 h0, .int .u8 h1] 23) = z := ⟨_, rfl⟩
  rw [hw0] at kh B0 ⊢
  clear hw0
  by_cases hm : m ≤ 20
  rotate_left
  · have t1 : ((m : Int) > 20) := by omega
    go_wp2_with fail
    refine (awake_any w0 (HTb.out.keep B0)).mono ?_
    rintro e w1 ⟨rfl, b1⟩
    go_wp2_with fail
    go_ret
    exact ⟨rfl, B0.trans (b1.mono B0.size)⟩
  have t1 : ¬ ((m : Int) > 20) := by omega
  obtain ⟨nn, hnn⟩ : ∃ z, n0 % 20 = z := ⟨_, rfl⟩
  have q1 : (n0 : Int).tmod 20 = (nn : Int) := by rw [Int.tmod_eq_emod_of_nonneg (by omega)]; omega
  have q2 := IntWalk.i64_in (nn : Int) (by omega)
  obtain ⟨kk, hkk⟩ : ∃ z, 2 + nn = z := ⟨_, rfl⟩
  have q3 : 2 + (nn : Int) = (kk : Int) := by omega
  have q4 := IntWalk.i64_in (kk : Int) (by omega)
  have hk1 : 2 ≤ kk ∧ kk ≤ 21 := by omega
  obtain ⟨K, hK⟩ : ∃ z, 128 * kk = z := ⟨_, rfl⟩
  have q5 : (kk : Int) * 128 = (K : Int) := by omega
  have q6 := IntWalk.i64_in (K : Int) (by omega)
  obtain ⟨p1, hp1⟩ : ∃ z, h0 % 4 = z := ⟨_, rfl⟩
  obtain ⟨p2, hp2⟩ : ∃ z, h1 % 4 = z := ⟨_, rfl⟩
  have q7 : (h0 : Int).tmod 4 = (p1 : Int) := by rw [Int.tmod_eq_emod_of_nonneg (by omega)]; omega
  have q8 : (h1 : Int).tmod 4 = (p2 : Int) := by rw [Int.tmod_eq_emod_of_nonneg (by omega)]; omega
  have q9 : IntKind.u64.wrap (p1 : Int) = (p1 : Int) := by rw [IntKind.wrap_u64]; omega
  have q10 : IntKind.u64.wrap (p2 : Int) = (p2 : Int) := by rw [IntKind.wrap_u64]; omega
  have hp4 : p1 < 4 ∧ p2 < 4 := by omega
  have HK := hid hK
  clear hnn hkk hK hp1 hp2
  have hKl : 256 ≤ K ∧ K ≤ 2688 := by have := HK.out; omega
  obtain ⟨z0, z1⟩ := kh.c2
  have lh := kh.lt
  have hgs := B0.size
  go_wp2_with (at_make; refine wp_make _ rfl _ _ 25 rfl w0.heap.size 5 _ 1 bytesT rfl .i64 .i64 _ _ K rfl rfl rfl rfl (by omega) (by unfold maxLen; omega) (Nat.le_refl _) ?_; intro w5 hown5 r5; go_frame; obtain ⟨zz0, zz1⟩ := (kh.grown r5 (by simp)).c2; have lh5 := (kh.grown r5 (by simp)).lt)
  have kA := own_blk hown5
  have B5 := B0.grown r5 B0.size (fun z hz => by cases hz)
  have hAl : List.replicate K (Value.int .u8 0) = (zeroB K).map byV := by unfold zeroB; rw [List.map_replicate]; rfl
  rw [hAl] at kA
  obtain ⟨l0, hl0⟩ : ∃ z, zeroB K = z := ⟨_, rfl⟩
  have hl0l : l0.length = K := by rw [← hl0]; exact zeroB_len K
  rw [hl0] at kA
  clear hAl hl0 hown5 r5 kh z0 z1 lh zz0 zz1 lh5 B0 t1 q1 q2 q3 q5
  generalize w0.heap.size = GA at *
  refine (refHeader_any p1 p2 w5 (by omega) (by omega)).mono ?_
  rintro e w6 ⟨v, rfl, hown, b6⟩
  obtain ⟨A8, c8, rfl, hr8, _, _⟩ := own_form hown
  have kA6 := kA.keep b6
  have B6 := B5.trans (b6.mono B5.size)
  clear kA B5 b6 hown q7 q8 q9 q10
  go_wp2_with ((with_reducible refine is_copy ?_); refine wp_copyB GA 0 K K 5 5 _ kA6 Tryd.underlying25 bytesN A8 128 c8 _ hr8 (byV_one _) rfl rfl (by rw [List.length_map, hl0l]; omega) ?_; intro w7 kA7 r7; go_frame)
  obtain ⟨l1, hl1, kB⟩ := cpB kA7 (by rw [hdr_len]; omega) (by rw [hl0l]; omega)
  rw [hl0l] at hl1
  have B7 := B6.grown r7 B6.size (fun z hz => by cases hz; exact hgs)
  clear kA7 kA6 r7 B6 hr8 hl0l
  go_loopw [9, 10] (fun at_ iv wr => ∃ (i ax : Nat) (l : List UInt8), i ≤ m ∧ iv = .int .i64 i ∧ at_ = .int .i64 ax ∧ ax ≤ K ∧ l.length = K ∧ BlkB wr GA 5 l ∧ Below w.heap.size w wr) (fun _ iv _ => m - (intOf iv).toNat)
  case atStart => exact ⟨0, 128, l1, Nat.zero_le _, rfl, rfl, by omega, hl1, kB, B7⟩
  case round =>
    clear kB B7
    obtain ⟨i, ax, l, hi, rfl, rfl, hax, hll, kB, hbel⟩ := hrel
    by_cases hlt : i < m
    · obtain ⟨b, off, x, rfl, hbb, hx, hcell⟩ := (HR.out.below hbel).el (f := Pc.cs) (fun _ => rfl) hlt (by omega)
      obtain ⟨b2, o2, x2, ee, hbW, _⟩ := HR.out.el (f := Pc.cs) (fun _ => rfl) hlt (by omega)
      cases ee
      have HBW := hid hbW
      clear hbW
      have C0 := hcell 0 _ rfl
      have C1 := hcell 1 _ rfl
      have C2 := hcell 2 _ rfl
      have C3 := hcell 3 _ rfl
      have C4 := hcell 4 _ rfl
      rw [Nat.add_zero] at C0
      have hxok := HOK.out x (List.mem_of_getElem? hx)
      obtain ⟨ac, hac⟩ : ∃ z : Ac, z = ⟨0, x.n, x.g, 0⟩ := ⟨_, rfl⟩
      have hacok : ac.ok := by rw [hac]; exact ⟨by show (0 : Nat) < 256; omega, hxok.n, hxok.g, by show (0 : Nat) < _; omega⟩
      have hpl0 : ac.pay.length < 400 := by
        unfold Ac.pay
        rw [payB_len]
        omega
      have HP : Hid (∀ w', Calls Tryd.prog 12 #[ac.val] w' fun e w'' => ∃ g, e = .returned (.slice (some ⟨g, 0, none⟩) ac.pay.length ac.pay.length) ∧ RB w'' (some ⟨g, 0, none⟩) ac.pay.length ac.pay ∧ Below w'.heap.size w' w'') := hid fun w' => (payload_any ac w' hacok).mono fun e w'' ⟨g, h1, h2, h3, h4⟩ => ⟨g, h1, h3.cells rfl, h4⟩
      generalize hpay : ac.pay = pay at *
      obtain ⟨pl, hpl⟩ : ∃ z, pay.length = z := ⟨_, rfl⟩
      rw [hpl] at HP hpl0
      obtain ⟨a1, ha1⟩ : ∃ z, x.e % 4 = z := ⟨_, rfl⟩
      obtain ⟨a2, ha2⟩ : ∃ z, x.g % 4 = z := ⟨_, rfl⟩
      obtain ⟨a3, ha3⟩ : ∃ z, x.l % 4 = z := ⟨_, rfl⟩
      have u1 : (x.e : Int).tmod 4 = (a1 : Int) := by rw [Int.tmod_eq_emod_of_nonneg (by omega)]; omega
      have u2 : (x.g : Int).tmod 4 = (a2 : Int) := by rw [Int.tmod_eq_emod_of_nonneg (by omega)]; omega
      have u3 : (x.l : Int).tmod 4 = (a3 : Int) := by rw [Int.tmod_eq_emod_of_nonneg (by omega)]; omega
      have y1 : IntKind.u64.wrap (a1 : Int) = (a1 : Int) := by rw [IntKind.wrap_u64]; omega
      have y2 : IntKind.u64.wrap (a2 : Int) = (a2 : Int) := by rw [IntKind.wrap_u64]; omega
      have y3 : IntKind.u64.wrap (a3 : Int) = (a3 : Int) := by rw [IntKind.wrap_u64]; omega
      have h4 : a1 < 4 ∧ a2 < 4 ∧ a3 < 4 := by omega
      have HBy : Hid (∀ wx A' n', RB wx A' pl pay → Calls Tryd.prog 11 #[.int .u64 a1, .int .u64 a2, .int .u64 a3, .slice A' pl n'] wx fun ex w' => ∃ v, ex = .returned v ∧ w'.ownsRow wx.heap.size 5 1 v (128 * cnt pl) ((recSecs (tagB a1 a2 a3) pay).flatten.map byV) ∧ Below wx.heap.size wx w') := hid fun wx A' n' hp => refBytes_any a1 a2 a3 A' pl n' pay wx (by omega) (by omega) (by omega) hp (by omega)
      have hbl : (recSecs (tagB a1 a2 a3) pay).flatten.length = 128 * cnt pl := by rw [recSecs_len128 (by simp [tagB]), hpl]
      generalize (recSecs (tagB a1 a2 a3) pay).flatten = bs at HBy hbl
      have hcl : 128 ≤ 128 * cnt pl ∧ 128 * cnt pl ≤ 780 := by unfold cnt; omega
      obtain ⟨bl, hble⟩ : ∃ z, 128 * cnt pl = z := ⟨_, rfl⟩
      rw [hble] at HBy hbl hcl
      have HD := hid hxok.d
      have hxd := HX
      have HAc := hid hac
      clear hcell hx hxok hacok hpl hpay ha1 ha2 ha3 hble hac
      have tk : (i : Int) < (m : Int) := by omega
      go_upto_region 10 with fail
      refine wp_region_head 243 35 [52, 53, 54, 55, 56, 57, 58, 59, 60, 61, 62, 63, 64, 65, 66, 67, 68, 69, 70, 71, 72, 73, 74, 75, 76, 77, 78, 79, 80, 81, 82, 83, 84, 85, 11] [] ((fun kq => ([fun u w' => u = .slice (some ⟨b, off, none⟩) m c, fun u w' => u = .int .i64 (i : Int), fun u w' => u = .pointer (some ⟨b, off + i * 5, none⟩), fun u w' => u = .pointer (some ⟨b, off + i * 5, none⟩), fun u w' => u = .int .u8 x.e, fun u w' => u = .int .u8 (a1 : Int), fun u w' => u = .int .u64 (a1 : Int), fun u w' => u = .slice (some ⟨b, off, none⟩) m c, fun u w' => u = .int .i64 (i : Int), fun u w' => u = .pointer (some ⟨b, off + i * 5, none⟩), fun u w' => u = .pointer (some ⟨b, off + i * 5 + 1, none⟩), fun u w' => u = .int .u8 x.g, fun u w' => u = .int .u8 (a2 : Int), fun u w' => u = .int .u64 (a2 : Int), fun u w' => u = .slice (some ⟨b, off, none⟩) m c, fun u w' => u = .int .i64 (i : Int), fun u w' => u = .pointer (some ⟨b, off + i * 5, none⟩), fun u w' => u = .pointer (some ⟨b, off + i * 5 + 2, none⟩), fun u w' => u = .int .u8 x.l, fun u w' => u = .int .u8 (a3 : Int), fun u w' => u = .int .u64 (a3 : Int), fun u w' => u = .slice (some ⟨b, off, none⟩) m c, fun u w' => u = .int .i64 (i : Int), fun u w' => u = .pointer (some ⟨b, off + i * 5, none⟩), fun u w' => u = .pointer (some ⟨b, off + i * 5 + 3, none⟩), fun u w' => u = .int .u16 x.n, fun u w' => u = .slice (some ⟨b, off, none⟩) m c, fun u w' => u = .int .i64 (i : Int), fun u w' => u = .pointer (some ⟨b, off + i * 5, none⟩), fun u w' => u = .pointer (some ⟨b, off + i * 5 + 1, none⟩), fun u w' => u = .int .u8 x.g, fun u w' => u = ac.val, fun u w' => ∃ (gp : Nat), u = .slice (some ⟨gp, 0, none⟩) pl pl ∧ RB w' (some ⟨gp, 0, none⟩) pl pay, fun u w' => ∃ (A' : Option Addr), ∃ (c' : Nat), u = .slice A' bl c' ∧ RB w' A' bl bs, fun u w' => ∃ (A' : Option Addr), ∃ (c' : Nat), u = .slice A' bl c' ∧ RB w' A' bl bs] : List (Value → World → Prop)).getD kq (fun _ _ => True))) (by kernel_rfl) rfl (by kernel_rfl) (.inl rfl) ?grow ?step ?tail
      case step =>
        simp only [List.take_succ_cons, List.take_zero]
        refine HSteps.cons ?_ ?_
        · intro f w' hb hU
          simp only [putAll, List.foldl_cons, List.foldl_nil]
          go_frame
          go_wp2_with fail
          exact ⟨rfl, _, rfl, Below.refl _ _, rfl⟩
        refine HSteps.cons ?_ ?_
        · intro f w' hb hU
          simp only [putAll, List.foldl_cons, List.foldl_nil]
          go_frame
          go_wp2_with fail
          exact ⟨rfl, _, rfl, Below.refl _ _, rfl⟩
        refine HSteps.cons ?_ ?_
        · intro f w' hb hU
          obtain u0 : f 52 = .slice (some ⟨b, off, none⟩) m c := hU.get ⟨0, .data⟩ (by simp) rfl
          obtain u1 : f 53 = .int .i64 (i : Int) := hU.get ⟨1, .data⟩ (by simp) rfl
          simp only [putAll, List.foldl_cons, List.foldl_nil]
          go_frame
          try simp only [u0, u1]
          go_wp2_with fail
          exact ⟨rfl, _, rfl, Below.refl _ _, rfl⟩
        refine HSteps.cons ?_ ?_
        · intro f w' hb hU
          obtain u2 : f 54 = .pointer (some ⟨b, off + i * 5, none⟩) := hU.get ⟨2, .data⟩ (by simp) rfl
          simp only [putAll, List.foldl_cons, List.foldl_nil]
          go_frame
          try simp only [u2]
          go_wp2_with fail
          exact ⟨rfl, _, rfl, Below.refl _ _, rfl⟩
        refine HSteps.cons ?_ ?_
        · intro f w' hb hU
          obtain u3 : f 55 = .pointer (some ⟨b, off + i * 5, none⟩) := hU.get ⟨3, .data⟩ (by simp) rfl
          have c0 := (hb.cell hbb).trans C0
          have c1 := (hb.cell hbb).trans C1
          have c2 := (hb.cell hbb).trans C2
          have c3 := (hb.cell hbb).trans C3
          have c4 := (hb.cell hbb).trans C4
          simp only [putAll, List.foldl_cons, List.foldl_nil]
          go_frame
          try simp only [u3]
          go_wp2_with fail
          exact ⟨rfl, _, rfl, Below.refl _ _, rfl⟩
        refine HSteps.cons ?_ ?_
        · intro f w' hb hU
          obtain u4 : f 56 = .int .u8 x.e := hU.get ⟨4, .data⟩ (by simp) rfl
          simp only [putAll, List.foldl_cons, List.foldl_nil]
          go_frame
          try simp only [u4]
          go_wp2_with fail
          exact ⟨rfl, _, rfl, Below.refl _ _, rfl⟩
        refine HSteps.cons ?_ ?_
        · intro f w' hb hU
          obtain u5 : f 57 = .int .u8 (a1 : Int) := hU.get ⟨5, .data⟩ (by simp) rfl
          simp only [putAll, List.foldl_cons, List.foldl_nil]
          go_frame
          try simp only [u5]
          go_wp2_with fail
          exact ⟨rfl, _, rfl, Below.refl _ _, rfl⟩
        refine HSteps.cons ?_ ?_
        · intro f w' hb hU
          simp only [putAll, List.foldl_cons, List.foldl_nil]
          go_frame
          go_wp2_with fail
          exact ⟨rfl, _, rfl, Below.refl _ _, rfl⟩
        refine HSteps.cons ?_ ?_
        · intro f w' hb hU
          simp only [putAll, List.foldl_cons, List.foldl_nil]
          go_frame
          go_wp2_with fail
          exact ⟨rfl, _, rfl, Below.refl _ _, rfl⟩
        refine HSteps.cons ?_ ?_
        · intro f w' hb hU
          obtain u7 : f 59 = .slice (some ⟨b, off, none⟩) m c := hU.get ⟨7, .data⟩ (by simp) rfl
          obtain u8 : f 60 = .int .i64 (i : Int) := hU.get ⟨8, .data⟩ (by simp) rfl
          simp only [putAll, List.foldl_cons, List.foldl_nil]
          go_frame
          try simp only [u7, u8]
          go_wp2_with fail
          exact ⟨rfl, _, rfl, Below.refl _ _, rfl⟩
        refine HSteps.cons ?_ ?_
        · intro f w' hb hU
          obtain u9 : f 61 = .pointer (some ⟨b, off + i * 5, none⟩) := hU.get ⟨9, .data⟩ (by simp) rfl
          simp only [putAll, List.foldl_cons, List.foldl_nil]
          go_frame
          try simp only [u9]
          go_wp2_with fail
          exact ⟨rfl, _, rfl, Below.refl _ _, rfl⟩
        refine HSteps.cons ?_ ?_
        · intro f w' hb hU
          obtain u10 : f 62 = .pointer (some ⟨b, off + i * 5 + 1, none⟩) := hU.get ⟨10, .data⟩ (by simp) rfl
          have c0 := (hb.cell hbb).trans C0
          have c1 := (hb.cell hbb).trans C1
          have c2 := (hb.cell hbb).trans C2
          have c3 := (hb.cell hbb).trans C3
          have c4 := (hb.cell hbb).trans C4
          simp only [putAll, List.foldl_cons, List.foldl_nil]
          go_frame
          try simp only [u10]
          go_wp2_with fail
          exact ⟨rfl, _, rfl, Below.refl _ _, rfl⟩
        refine HSteps.cons ?_ ?_
        · intro f w' hb hU
          obtain u11 : f 63 = .int .u8 x.g := hU.get ⟨11, .data⟩ (by simp) rfl
          simp only [putAll, List.foldl_cons, List.foldl_nil]
          go_frame
          try simp only [u11]
          go_wp2_with fail
          exact ⟨rfl, _, rfl, Below.refl _ _, rfl⟩
        refine HSteps.cons ?_ ?_
        · intro f w' hb hU
          obtain u12 : f 64 = .int .u8 (a2 : Int) := hU.get ⟨12, .data⟩ (by simp) rfl
          simp only [putAll, List.foldl_cons, List.foldl_nil]
          go_frame
          try simp only [u12]
          go_wp2_with fail
          exact ⟨rfl, _, rfl, Below.refl _ _, rfl⟩
        refine HSteps.cons ?_ ?_
        · intro f w' hb hU
          simp only [putAll, List.foldl_cons, List.foldl_nil]
          go_frame
          go_wp2_with fail
          exact ⟨rfl, _, rfl, Below.refl _ _, rfl⟩
        refine HSteps.cons ?_ ?_
        · intro f w' hb hU
          simp only [putAll, List.foldl_cons, List.foldl_nil]
          go_frame
          go_wp2_with fail
          exact ⟨rfl, _, rfl, Below.refl _ _, rfl⟩
        refine HSteps.cons ?_ ?_
        · intro f w' hb hU
          obtain u14 : f 66 = .slice (some ⟨b, off, none⟩) m c := hU.get ⟨14, .data⟩ (by simp) rfl
          obtain u15 : f 67 = .int .i64 (i : Int) := hU.get ⟨15, .data⟩ (by simp) rfl
          simp only [putAll, List.foldl_cons, List.foldl_nil]
          go_frame
          try simp only [u14, u15]
          go_wp2_with fail
          exact ⟨rfl, _, rfl, Below.refl _ _, rfl⟩
        refine HSteps.cons ?_ ?_
        · intro f w' hb hU
          obtain u16 : f 68 = .pointer (some ⟨b, off + i * 5, none⟩) := hU.get ⟨16, .data⟩ (by simp) rfl
          simp only [putAll, List.foldl_cons, List.foldl_nil]
          go_frame
          try simp only [u16]
          go_wp2_with fail
          exact ⟨rfl, _, rfl, Below.refl _ _, rfl⟩
        refine HSteps.cons ?_ ?_
        · intro f w' hb hU
          obtain u17 : f 69 = .pointer (some ⟨b, off + i * 5 + 2, none⟩) := hU.get ⟨17, .data⟩ (by simp) rfl
          have c0 := (hb.cell hbb).trans C0
          have c1 := (hb.cell hbb).trans C1
          have c2 := (hb.cell hbb).trans C2
          have c3 := (hb.cell hbb).trans C3
          have c4 := (hb.cell hbb).trans C4
          simp only [putAll, List.foldl_cons, List.foldl_nil]
          go_frame
          try simp only [u17]
          go_wp2_with fail
          exact ⟨rfl, _, rfl, Below.refl _ _, rfl⟩
        refine HSteps.cons ?_ ?_
        · intro f w' hb hU
          obtain u18 : f 70 = .int .u8 x.l := hU.get ⟨18, .data⟩ (by simp) rfl
          simp only [putAll, List.foldl_cons, List.foldl_nil]
          go_frame
          try simp only [u18]
          go_wp2_with fail
          exact ⟨rfl, _, rfl, Below.refl _ _, rfl⟩
        refine HSteps.cons ?_ ?_
        · intro f w' hb hU
          obtain u19 : f 71 = .int .u8 (a3 : Int) := hU.get ⟨19, .data⟩ (by simp) rfl
          simp only [putAll, List.foldl_cons, List.foldl_nil]
          go_frame
          try simp only [u19]
          go_wp2_with fail
          exact ⟨rfl, _, rfl, Below.refl _ _, rfl⟩
        refine HSteps.cons ?_ ?_
        · intro f w' hb hU
          simp only [putAll, List.foldl_cons, List.foldl_nil]
          go_frame
          go_wp2_with fail
          exact ⟨rfl, _, rfl, Below.refl _ _, rfl⟩
        refine HSteps.cons ?_ ?_
        · intro f w' hb hU
          simp only [putAll, List.foldl_cons, List.foldl_nil]
          go_frame
          go_wp2_with fail
          exact ⟨rfl, _, rfl, Below.refl _ _, rfl⟩
        refine HSteps.cons ?_ ?_
        · intro f w' hb hU
          obtain u21 : f 73 = .slice (some ⟨b, off, none⟩) m c := hU.get ⟨21, .data⟩ (by simp) rfl
          obtain u22 : f 74 = .int .i64 (i : Int) := hU.get ⟨22, .data⟩ (by simp) rfl
          simp only [putAll, List.foldl_cons, List.foldl_nil]
          go_frame
          try simp only [u21, u22]
          go_wp2_with fail
          exact ⟨rfl, _, rfl, Below.refl _ _, rfl⟩
        refine HSteps.cons ?_ ?_
        · intro f w' hb hU
          obtain u23 : f 75 = .pointer (some ⟨b, off + i * 5, none⟩) := hU.get ⟨23, .data⟩ (by simp) rfl
          simp only [putAll, List.foldl_cons, List.foldl_nil]
          go_frame
          try simp only [u23]
          go_wp2_with fail
          exact ⟨rfl, _, rfl, Below.refl _ _, rfl⟩
        refine HSteps.cons ?_ ?_
        · intro f w' hb hU
          obtain u24 : f 76 = .pointer (some ⟨b, off + i * 5 + 3, none⟩) := hU.get ⟨24, .data⟩ (by simp) rfl
          have c0 := (hb.cell hbb).trans C0
          have c1 := (hb.cell hbb).trans C1
          have c2 := (hb.cell hbb).trans C2
          have c3 := (hb.cell hbb).trans C3
          have c4 := (hb.cell hbb).trans C4
          simp only [putAll, List.foldl_cons, List.foldl_nil]
          go_frame
          try simp only [u24]
          go_wp2_with fail
          exact ⟨rfl, _, rfl, Below.refl _ _, rfl⟩
        refine HSteps.cons ?_ ?_
        · intro f w' hb hU
          simp only [putAll, List.foldl_cons, List.foldl_nil]
          go_frame
          go_wp2_with fail
          exact ⟨rfl, _, rfl, Below.refl _ _, rfl⟩
        refine HSteps.cons ?_ ?_
        · intro f w' hb hU
          simp only [putAll, List.foldl_cons, List.foldl_nil]
          go_frame
          go_wp2_with fail
          exact ⟨rfl, _, rfl, Below.refl _ _, rfl⟩
        refine HSteps.cons ?_ ?_
        · intro f w' hb hU
          obtain u26 : f 78 = .slice (some ⟨b, off, none⟩) m c := hU.get ⟨26, .data⟩ (by simp) rfl
          obtain u27 : f 79 = .int .i64 (i : Int) := hU.get ⟨27, .data⟩ (by simp) rfl
          simp only [putAll, List.foldl_cons, List.foldl_nil]
          go_frame
          try simp only [u26, u27]
          go_wp2_with fail
          exact ⟨rfl, _, rfl, Below.refl _ _, rfl⟩
        refine HSteps.cons ?_ ?_
        · intro f w' hb hU
          obtain u28 : f 80 = .pointer (some ⟨b, off + i * 5, none⟩) := hU.get ⟨28, .data⟩ (by simp) rfl
          simp only [putAll, List.foldl_cons, List.foldl_nil]
          go_frame
          try simp only [u28]
          go_wp2_with fail
          exact ⟨rfl, _, rfl, Below.refl _ _, rfl⟩
        refine HSteps.cons ?_ ?_
        · intro f w' hb hU
          obtain u29 : f 81 = .pointer (some ⟨b, off + i * 5 + 1, none⟩) := hU.get ⟨29, .data⟩ (by simp) rfl
          have c0 := (hb.cell hbb).trans C0
          have c1 := (hb.cell hbb).trans C1
          have c2 := (hb.cell hbb).trans C2
          have c3 := (hb.cell hbb).trans C3
          have c4 := (hb.cell hbb).trans C4
          simp only [putAll, List.foldl_cons, List.foldl_nil]
          go_frame
          try simp only [u29]
          go_wp2_with fail
          exact ⟨rfl, _, rfl, Below.refl _ _, rfl⟩
        refine HSteps.cons ?_ ?_
        · intro f w' hb hU
          obtain u25 : f 77 = .int .u16 x.n := hU.get ⟨25, .data⟩ (by simp) rfl
          obtain u30 : f 82 = .int .u8 x.g := hU.get ⟨30, .data⟩ (by simp) rfl
          simp only [putAll, List.foldl_cons, List.foldl_nil]
          go_frame
          try simp only [u25, u30]
          go_wp2_with fail
          exact ⟨rfl, _, rfl, Below.refl _ _, (by rw [HAc.out]; rfl)⟩
        refine HSteps.cons ?_ ?_
        · intro f w' hb hU
          obtain u31 : f 83 = ac.val := hU.get ⟨31, .data⟩ (by simp) rfl
          simp only [putAll, List.foldl_cons, List.foldl_nil]
          go_frame
          try simp only [u31]
          go_wp2_with fail
          refine (HP.out w').mono ?_
          rintro e w3 ⟨gp, rfl, hgp, b3⟩
          go_wp2_with fail
          exact ⟨rfl, _, rfl, b3, gp, rfl, hgp⟩
        refine HSteps.cons ?_ ?_
        · intro f w' hb hU
          obtain u6 : f 58 = .int .u64 (a1 : Int) := hU.get ⟨6, .data⟩ (by simp) rfl
          obtain u13 : f 65 = .int .u64 (a2 : Int) := hU.get ⟨13, .data⟩ (by simp) rfl
          obtain u20 : f 72 = .int .u64 (a3 : Int) := hU.get ⟨20, .data⟩ (by simp) rfl
          obtain ⟨gp, u32, v32_0⟩ : ∃ (gp : Nat), f 84 = .slice (some ⟨gp, 0, none⟩) pl pl ∧ RB w' (some ⟨gp, 0, none⟩) pl pay := hU.get ⟨32, .data⟩ (by simp) rfl
          simp only [putAll, List.foldl_cons, List.foldl_nil]
          go_frame
          try simp only [u6, u13, u20, u32]
          go_wp2_with fail
          refine (HBy.out w' (some ⟨gp, 0, none⟩) pl v32_0).mono ?_
          rintro e w3 ⟨v, rfl, hown, b3⟩
          obtain ⟨A', c', rfl, hrr, _, _⟩ := own_form hown
          go_wp2_with fail
          exact ⟨rfl, _, rfl, b3, A', c', rfl, hrr⟩
        refine HSteps.cons ?_ ?_
        · intro f w' hb hU
          obtain ⟨A', c', u33, v33_0⟩ : ∃ (A' : Option Addr), ∃ (c' : Nat), f 85 = .slice A' bl c' ∧ RB w' A' bl bs := hU.get ⟨33, .data⟩ (by simp) rfl
          obtain u0 : f 52 = .slice (some ⟨b, off, none⟩) m c := hU.get ⟨0, .phase⟩ (by simp) rfl
          obtain u1 : f 53 = .int .i64 (i : Int) := hU.get ⟨1, .phase⟩ (by simp) rfl
          obtain u2 : f 54 = .pointer (some ⟨b, off + i * 5, none⟩) := hU.get ⟨2, .phase⟩ (by simp) rfl
          obtain u3 : f 55 = .pointer (some ⟨b, off + i * 5, none⟩) := hU.get ⟨3, .phase⟩ (by simp) rfl
          obtain u4 : f 56 = .int .u8 x.e := hU.get ⟨4, .phase⟩ (by simp) rfl
          obtain u5 : f 57 = .int .u8 (a1 : Int) := hU.get ⟨5, .phase⟩ (by simp) rfl
          obtain u6 : f 58 = .int .u64 (a1 : Int) := hU.get ⟨6, .phase⟩ (by simp) rfl
          obtain u7 : f 59 = .slice (some ⟨b, off, none⟩) m c := hU.get ⟨7, .phase⟩ (by simp) rfl
          obtain u8 : f 60 = .int .i64 (i : Int) := hU.get ⟨8, .phase⟩ (by simp) rfl
          obtain u9 : f 61 = .pointer (some ⟨b, off + i * 5, none⟩) := hU.get ⟨9, .phase⟩ (by simp) rfl
          obtain u10 : f 62 = .pointer (some ⟨b, off + i * 5 + 1, none⟩) := hU.get ⟨10, .phase⟩ (by simp) rfl
          obtain u11 : f 63 = .int .u8 x.g := hU.get ⟨11, .phase⟩ (by simp) rfl
          obtain u12 : f 64 = .int .u8 (a2 : Int) := hU.get ⟨12, .phase⟩ (by simp) rfl
          obtain u13 : f 65 = .int .u64 (a2 : Int) := hU.get ⟨13, .phase⟩ (by simp) rfl
          obtain u14 : f 66 = .slice (some ⟨b, off, none⟩) m c := hU.get ⟨14, .phase⟩ (by simp) rfl
          obtain u15 : f 67 = .int .i64 (i : Int) := hU.get ⟨15, .phase⟩ (by simp) rfl
          obtain u16 : f 68 = .pointer (some ⟨b, off + i * 5, none⟩) := hU.get ⟨16, .phase⟩ (by simp) rfl
          obtain u17 : f 69 = .pointer (some ⟨b, off + i * 5 + 2, none⟩) := hU.get ⟨17, .phase⟩ (by simp) rfl
          obtain u18 : f 70 = .int .u8 x.l := hU.get ⟨18, .phase⟩ (by simp) rfl
          obtain u19 : f 71 = .int .u8 (a3 : Int) := hU.get ⟨19, .phase⟩ (by simp) rfl
          obtain u20 : f 72 = .int .u64 (a3 : Int) := hU.get ⟨20, .phase⟩ (by simp) rfl
          obtain u21 : f 73 = .slice (some ⟨b, off, none⟩) m c := hU.get ⟨21, .phase⟩ (by simp) rfl
          obtain u22 : f 74 = .int .i64 (i : Int) := hU.get ⟨22, .phase⟩ (by simp) rfl
          obtain u23 : f 75 = .pointer (some ⟨b, off + i * 5, none⟩) := hU.get ⟨23, .phase⟩ (by simp) rfl
          obtain u24 : f 76 = .pointer (some ⟨b, off + i * 5 + 3, none⟩) := hU.get ⟨24, .phase⟩ (by simp) rfl
          obtain u25 : f 77 = .int .u16 x.n := hU.get ⟨25, .phase⟩ (by simp) rfl
          obtain u26 : f 78 = .slice (some ⟨b, off, none⟩) m c := hU.get ⟨26, .phase⟩ (by simp) rfl
          obtain u27 : f 79 = .int .i64 (i : Int) := hU.get ⟨27, .phase⟩ (by simp) rfl
          obtain u28 : f 80 = .pointer (some ⟨b, off + i * 5, none⟩) := hU.get ⟨28, .phase⟩ (by simp) rfl
          obtain u29 : f 81 = .pointer (some ⟨b, off + i * 5 + 1, none⟩) := hU.get ⟨29, .phase⟩ (by simp) rfl
          obtain u30 : f 82 = .int .u8 x.g := hU.get ⟨30, .phase⟩ (by simp) rfl
          obtain u31 : f 83 = ac.val := hU.get ⟨31, .phase⟩ (by simp) rfl
          obtain ⟨gp, u32, v32_0⟩ : ∃ (gp : Nat), f 84 = .slice (some ⟨gp, 0, none⟩) pl pl ∧ RB w' (some ⟨gp, 0, none⟩) pl pay := hU.get ⟨32, .phase⟩ (by simp) rfl
          simp only [putAll, List.foldl_cons, List.foldl_nil]
          go_frame
          try simp only [u33, u0, u1, u2, u3, u4, u5, u6, u7, u8, u9, u10, u11, u12, u13, u14, u15, u16, u17, u18, u19, u20, u21, u22, u23, u24, u25, u26, u27, u28, u29, u30, u31, u32]
          go_wp2_with fail
          exact ⟨rfl, _, rfl, Below.refl _ _, A', c', rfl, v33_0⟩
        exact HSteps.nil
      case grow =>
        intro kq u wa wb hb hu
        rcases kq with _ | _ | _ | _ | _ | _ | _ | _ | _ | _ | _ | _ | _ | _ | _ | _ | _ | _ | _ | _ | _ | _ | _ | _ | _ | _ | _ | _ | _ | _ | _ | _ | _ | _ | _ | kq
        · exact hu
        · exact hu
        · exact hu
        · exact hu
        · exact hu
        · exact hu
        · exact hu
        · exact hu
        · exact hu
        · exact hu
        · exact hu
        · exact hu
        · exact hu
        · exact hu
        · exact hu
        · exact hu
        · exact hu
        · exact hu
        · exact hu
        · exact hu
        · exact hu
        · exact hu
        · exact hu
        · exact hu
        · exact hu
        · exact hu
        · exact hu
        · exact hu
        · exact hu
        · exact hu
        · exact hu
        · exact hu
        · obtain ⟨gp, ue, uf0⟩ := hu
          exact ⟨gp, ue, uf0.below hb⟩
        · obtain ⟨A', c', ue, uf0⟩ := hu
          exact ⟨A', c', ue, uf0.below hb⟩
        · obtain ⟨A', c', ue, uf0⟩ := hu
          exact ⟨A', c', ue, uf0.below hb⟩
        · trivial
      case tail =>
        intro f w7 hb7 hU
        obtain ⟨A', c', u34, v34_0⟩ : ∃ (A' : Option Addr), ∃ (c' : Nat), f 11 = .slice A' bl c' ∧ RB w7 A' bl bs := hU.get 34 (by decide)
        simp only [List.drop_succ_cons, List.drop_zero, putAll, List.foldl_cons, List.foldl_nil]
        go_frame
        simp only [u34]
        clear u34
        clear hU
        have kB7 : BlkB w7 GA 5 l := Blk.keep kB hb7
        have B7 := hbel.trans (hb7.mono hbel.size)
        have C47 := (hb7.cell hbb).trans C4
        have hbb7 : b < w7.heap.size := by have := hb7.size; omega
        have hbGA : ¬ b = GA := by have := HBW.out; omega
        clear kB hbel hb7 C0 C1 C2 C3 C4
        obtain ⟨dd, hdd⟩ : ∃ z, x.d % 4 = z := ⟨_, rfl⟩
        obtain ⟨dm, hdm⟩ : ∃ z, x.d % bl = z := ⟨_, rfl⟩
        have hxd' := HD.out
        have z1 : (x.d : Int).tmod 4 = (dd : Int) := by rw [Int.tmod_eq_emod_of_nonneg (by omega)]; omega
        have z2 : (x.d : Int).tmod (bl : Int) = (dm : Int) := by rw [Int.tmod_eq_emod_of_nonneg (by omega), ← hdm]; rfl
        have hdmb : dm < bl := by rw [← hdm]; exact Nat.mod_lt _ (by omega)
        clear hdm hdd
        have e1 := IntWalk.i64_in ((ax : Int) + (bl : Int)) (by omega)
        have e2 := IntWalk.i64_in ((ax : Int) + (dm : Int)) (by omega)
        have e3 := IntWalk.i64_in (x.d : Int) (by omega)
        have e4 := IntWalk.i64_in ((i : Int) + 1) (by omega)
        by_cases hfit : ax + bl ≤ K
        · have t2 : ((ax : Int) + (bl : Int) ≤ (K : Int)) := by omega
          have n1 : ¬ K = ax := by omega
          have ks : ∀ wx, (Instr.slice 25 (.slice (some ⟨GA, 0, none⟩) K K) (some (.int .i64 (ax : Int))) none none).run Tryd.prog wx = .ok (.slice (some ⟨GA, ax, none⟩) (K - ax) (K - ax)) wx := fun wx => by
            have := run_from (P := Tryd.prog) 25 5 Tryd.underlying25 bytesN (some ⟨GA, 0, none⟩) K K ax .i64 (ax : Int) rfl (by omega) wx
            rw [if_neg n1] at this
            simpa [add_spot] using this
          by_cases hd1 : dd = 1
          · have z3 : ((dd : Int) == 1) = true := by rw [hd1]; rfl
            clear hd1
            go_wp2_with (first
              | ((with_reducible refine is_copy ?_); refine wp_copyB GA ax (K - ax) (K - ax) 5 5 _ kB7 Tryd.underlying25 bytesN A' bl c' _ v34_0 (byV_one _) rfl rfl (by rw [List.length_map]; omega) ?_; intro w8 kA8 r8; go_frame; obtain ⟨l2, hl2, kB8⟩ := cpB kA8 (by rw [hbl]; omega) (by rw [hll]; omega); rw [hll] at hl2; have C48 := r8.cell C47 (by simp; omega); have lb8 : b < w8.heap.size := (by have := r8.size; omega); have lG8 := Blk.lt kB8; obtain ⟨bv, hbv⟩ : ∃ z, l2[ax + dm]? = some z := ⟨_, List.getElem?_eq_getElem (by omega)⟩; have cB := (Blk.cell kB8 (ax + dm)).trans (by rw [List.getElem?_map, hbv]; rfl : (l2.map byV)[ax + dm]? = some (.int .u8 (N8 bv))); have xb := xor64B bv)
              | ((with_reducible refine is_store 5 ?_); refine wp_store1 GA (ax + dm) _ _ (.int .u8 (N8 (bv ^^^ 64))) kB8 rfl bytesN (by rw [List.length_map]; omega) rfl rfl (by simp [Act.eval, Act.put]) ?_; intro w9 kA9 r9; go_frame))
            have B8 := B7.grown r8 B7.size (fun z hz => by cases hz; exact hgs)
            have B9 := B8.grown r9 B8.size (fun z hz => by cases hz; exact hgs)
            go_roundw
            case measure => simp [intOf]; omega
            case rel => exact ⟨i + 1, ax + bl, l2.set (ax + dm) (bv ^^^ 64), by omega, by go_num, by go_num, by omega, by rw [List.length_set]; exact hl2, setB kA9, B9⟩
          · have z3 : ((dd : Int) == 1) = false := by rw [beq_eq_false_iff_ne]; omega
            clear hd1
            go_wp2_with (first
              | ((with_reducible refine is_copy ?_); refine wp_copyB GA ax (K - ax) (K - ax) 5 5 _ kB7 Tryd.underlying25 bytesN A' bl c' _ v34_0 (byV_one _) rfl rfl (by rw [List.length_map]; omega) ?_; intro w8 kA8 r8; go_frame; obtain ⟨l2, hl2, kB8⟩ := cpB kA8 (by rw [hbl]; omega) (by rw [hll]; omega); rw [hll] at hl2; have C48 := r8.cell C47 (by simp; omega); have lb8 : b < w8.heap.size := (by have := r8.size; omega)))
            have B8 := B7.grown r8 B7.size (fun z hz => by cases hz; exact hgs)
            go_roundw
            case measure => simp [intOf]; omega
            case rel => exact ⟨i + 1, ax + bl, l2, by omega, by go_num, by go_num, by omega, hl2, kB8, B8⟩
        · have t2 : ¬ ((ax : Int) + (bl : Int) ≤ (K : Int)) := by omega
          go_wp2_with fail
          go_roundw
          case measure => simp [intOf]; omega
          case rel => exact ⟨i + 1, ax, l, by omega, by go_num, rfl, hax, hll, kB7, B7⟩
    · obtain rfl : i = m := by omega
      have tk : ¬ (i : Int) < (i : Int) := by omega
      go_wp2_with fail
      refine (new_ok kk wr (by omega) (by omega)).mono ?_
      rintro e w4 ⟨rfl, b4⟩
      have kB4 : BlkB w4 GA 5 l := Blk.keep kB b4
      have B4 := hbel.trans (b4.mono hbel.size)
      have hGA4 : GA < w4.heap.size := Blk.lt kB4
      clear kB hbel b4
      simp only [DV.v]
      go_wp2_with (first
        | ((with_reducible refine is_alloc 38 ?_); refine wp_allocB (w := w4) _ arrDisk ?_; intro w5 k5 b5 s5; go_frame)
        | ((with_reducible refine is_store 38 ?_); refine wp_storeB w4.heap.size _ _ (⟨kk, none, none, none, 0⟩ : DV).cs k5 diskN rfl (dv_one _) rfl rfl ?_; intro w6 k6 r6; go_frame))
      have hs4 := B4.size
      have kB6 : BlkB w6 GA 5 l := Blk.grown (Blk.keep kB4 b5) r6 (by simp; omega)
      have B5 := B4.trans (b5.mono B4.size)
      have B6 := B5.grown r6 B5.size (fun z hz => by cases hz; exact hs4)
      have hd6 := DkV.new w6 kk (by omega)
      obtain ⟨GD, hGD⟩ : ∃ z, w4.heap.size = z := ⟨_, rfl⟩
      rw [hGD] at k6 hGA4 hs4
      rw [hGD]
      have K6 : Bx w6 GD ⟨kk, none, none, none, 0⟩ (Dk.new kk) := ⟨k6, hd6⟩
      have hgne : ¬ GA = GD ∧ ¬ GD = GA := by omega
      have hgD : w.heap.size ≤ GD := hs4
      clear b5 s5 k5 r6 B5 B4 kB4 hd6 k6 hGD hs4 hi
      have HLL := hid hll
      go_loopw [13, 14] (fun ev iv wq => ∃ (j : Nat) (d : DV) (D : Dk), j ≤ kk ∧ iv = .int .i64 j ∧ ev = .int .i64 0 ∧ Bx wq GD d D ∧ BlkB wq GA 5 l ∧ Hid (D.n = kk ∧ D.W.length = j ∧ ∀ q, q < j → D.cur q = chk l q) ∧ Below w.heap.size w wq) (fun _ iv _ => kk - (intOf iv).toNat)
      case atStart => exact ⟨0, _, _, Nat.zero_le _, rfl, rfl, K6, kB6, hid ⟨rfl, rfl, fun q hq => absurd hq (by omega)⟩, B6⟩
      case round =>
        clear K6 kB6 B6
        obtain ⟨j, d, D, hj, rfl, rfl, kd, kB, HDj, hbel⟩ := hrel
        by_cases hlt : j < kk
        · have tj : (j : Int) < (kk : Int) := by omega
          have HKB : Hid (∀ w', Below wr.heap.size wr w' → RB w' (some ⟨GA, j * 128, none⟩) 128 (chk l j)) := hid fun w' hb => BlkB.rb (Blk.keep kB hb) (j * 128) 128 (by rw [hll]; have := HK.out; omega)
          have n1 : ¬ K = j * 128 := by have := HK.out; omega
          have hjK : j * 128 + 128 ≤ K := by have := HK.out; omega
          have ks : ∀ wx, (Instr.slice 25 (.slice (some ⟨GA, 0, none⟩) K K) (some (.int .i64 ((j : Int) * 128))) (some (.int .i64 (((j : Int) + 1) * 128))) none).run Tryd.prog wx = .ok (.slice (some ⟨GA, j * 128, none⟩) 128 (K - j * 128)) wx := fun wx => by
            have := run_part (P := Tryd.prog) 25 5 Tryd.underlying25 bytesN (some ⟨GA, 0, none⟩) K K (j * 128) (j * 128 + 128) .i64 .i64 ((j : Int) * 128) (((j : Int) + 1) * 128) (by omega) (by omega) (by omega) (by omega) wx
            rw [if_neg n1, show j * 128 + 128 - j * 128 = 128 by omega] at this
            simpa [add_spot] using this
          have e1 := IntWalk.i64_in ((j : Int) * 128) (by omega)
          have e2 := IntWalk.i64_in ((j : Int) + 1) (by omega)
          have e3 := IntWalk.i64_in (((j : Int) + 1) * 128) (by omega)
          obtain ⟨hDn, hDW, hDc⟩ := HDj.out
          have HW : Hid (∀ w', Below wr.heap.size wr w' → Calls Tryd.prog 14 #[d.v, .int .i64 j, .slice (some ⟨GA, j * 128, none⟩) 128 (K - j * 128)] w' fun e w'' => ∃ d' : DV, e = .returned (.tuple #[d'.v, .int .i64 0]) ∧ DkV w'' d' (D.write j (chk l j)) ∧ Below w'.heap.size w' w'') :=
            hid fun w' hb => write_good d D _ _ _ j w' (kd.d.keep hb) (by omega) (HKB.out w' hb) (by omega)
          have HDN : Hid ((D.write j (chk l j)).n = kk ∧ (D.write j (chk l j)).W.length = j + 1 ∧ ∀ q, q < j + 1 → (D.write j (chk l j)).cur q = chk l q) := by
            refine hid ⟨hDn, by show (_ :: D.W).length = _; rw [List.length_cons, hDW], fun q hq => ?_⟩
            rw [Dk.cur_write]
            unfold upd
            by_cases h : q = j
            · rw [if_pos h, h]
            · rw [if_neg h]; exact hDc q (by omega)
          clear hDn hDW hDc HDj HKB n1 hjK
          generalize D.write j (chk l j) = DN at HW HDN
          have lGD := kd.k.lt
          go_wp2_with fail
          refine wp_region_headF 243 13 [140, 141, 142, 143, 144, 145, 146, 147, 148, 149, 139, 150, 151] [12] ((fun kq => ([fun u w' => u = d.v, fun u w' => u = .int .i64 (j : Int), fun u w' => u = .slice (some ⟨GA, 0, none⟩) K K, fun u w' => u = .int .i64 (j : Int), fun u w' => u = .int .i64 ((j : Int) * 128), fun u w' => u = .int .i64 (j : Int), fun u w' => u = .int .i64 ((j : Int) + 1), fun u w' => u = .int .i64 (((j : Int) + 1) * 128), fun u w' => u = .slice (some ⟨GA, j * 128, none⟩) 128 (K - j * 128), fun u w' => ∃ (dy : DV), u = .tuple #[dy.v, .int .i64 0] ∧ DkV w' dy DN, fun u w' => ∃ (dy : DV), u = .tuple #[dy.v, .int .i64 0] ∧ DkV w' dy DN, fun u w' => ∃ (dy : DV), u = dy.v ∧ DkV w' dy DN, fun u w' => u = .int .i64 0] : List (Value → World → Prop)).getD kq (fun _ _ => True))) (by kernel_rfl) rfl (by kernel_rfl) ?grow ?step ?tail
          case step =>
            simp only [List.take_succ_cons, List.take_zero]
            refine HSteps.cons ?_ ?_
            · intro f w' hb hU
              obtain ⟨x0', x1', x2', x3', x4'⟩ := (kd.k.keep hb).c5
              simp only [putAll, List.foldl_cons, List.foldl_nil]
              go_frame
              go_wp2_with fail
              exact ⟨rfl, _, rfl, Below.refl _ _, rfl⟩
            refine HSteps.cons ?_ ?_
            · intro f w' hb hU
              simp only [putAll, List.foldl_cons, List.foldl_nil]
              go_frame
              go_wp2_with fail
              exact ⟨rfl, _, rfl, Below.refl _ _, rfl⟩
            refine HSteps.cons ?_ ?_
            · intro f w' hb hU
              simp only [putAll, List.foldl_cons, List.foldl_nil]
              go_frame
              go_wp2_with fail
              exact ⟨rfl, _, rfl, Below.refl _ _, rfl⟩
            refine HSteps.cons ?_ ?_
            · intro f w' hb hU
              simp only [putAll, List.foldl_cons, List.foldl_nil]
              go_frame
              go_wp2_with fail
              exact ⟨rfl, _, rfl, Below.refl _ _, rfl⟩
            refine HSteps.cons ?_ ?_
            · intro f w' hb hU
              obtain u3 : f 143 = .int .i64 (j : Int) := hU.get ⟨3, .data⟩ (by simp) rfl
              simp only [putAll, List.foldl_cons, List.foldl_nil]
              go_frame
              try simp only [u3]
              go_wp2_with fail
              exact ⟨rfl, _, rfl, Below.refl _ _, rfl⟩
            refine HSteps.cons ?_ ?_
            · intro f w' hb hU
              simp only [putAll, List.foldl_cons, List.foldl_nil]
              go_frame
              go_wp2_with fail
              exact ⟨rfl, _, rfl, Below.refl _ _, rfl⟩
            refine HSteps.cons ?_ ?_
            · intro f w' hb hU
              obtain u5 : f 145 = .int .i64 (j : Int) := hU.get ⟨5, .data⟩ (by simp) rfl
              simp only [putAll, List.foldl_cons, List.foldl_nil]
              go_frame
              try simp only [u5]
              go_wp2_with fail
              exact ⟨rfl, _, rfl, Below.refl _ _, rfl⟩
            refine HSteps.cons ?_ ?_
            · intro f w' hb hU
              obtain u6 : f 146 = .int .i64 ((j : Int) + 1) := hU.get ⟨6, .data⟩ (by simp) rfl
              simp only [putAll, List.foldl_cons, List.foldl_nil]
              go_frame
              try simp only [u6]
              go_wp2_with fail
              exact ⟨rfl, _, rfl, Below.refl _ _, rfl⟩
            refine HSteps.cons ?_ ?_
            · intro f w' hb hU
              obtain u2 : f 142 = .slice (some ⟨GA, 0, none⟩) K K := hU.get ⟨2, .data⟩ (by simp) rfl
              obtain u4 : f 144 = .int .i64 ((j : Int) * 128) := hU.get ⟨4, .data⟩ (by simp) rfl
              obtain u7 : f 147 = .int .i64 (((j : Int) + 1) * 128) := hU.get ⟨7, .data⟩ (by simp) rfl
              simp only [putAll, List.foldl_cons, List.foldl_nil]
              go_frame
              try simp only [u2, u4, u7]
              go_wp2_with fail
              exact ⟨rfl, _, rfl, Below.refl _ _, rfl⟩
            refine HSteps.cons ?_ ?_
            · intro f w' hb hU
              obtain u0 : f 140 = d.v := hU.get ⟨0, .data⟩ (by simp) rfl
              obtain u1 : f 141 = .int .i64 (j : Int) := hU.get ⟨1, .data⟩ (by simp) rfl
              obtain u8 : f 148 = .slice (some ⟨GA, j * 128, none⟩) 128 (K - j * 128) := hU.get ⟨8, .data⟩ (by simp) rfl
              simp only [putAll, List.foldl_cons, List.foldl_nil]
              go_frame
              try simp only [u0, u1, u8]
              go_wp2_with fail
              refine (HW.out w' hb).mono ?_
              rintro e w3 ⟨dy, rfl, hdy, b3⟩
              go_wp2_with fail
              exact ⟨rfl, _, rfl, b3, dy, rfl, hdy⟩
            refine HSteps.cons ?_ ?_
            · intro f w' hb hU
              obtain ⟨dy, u9, v9_0⟩ : ∃ (dy : DV), f 149 = .tuple #[dy.v, .int .i64 0] ∧ DkV w' dy DN := hU.get ⟨9, .data⟩ (by simp) rfl
              simp only [putAll, List.foldl_cons, List.foldl_nil]
              go_frame
              try simp only [u9]
              go_wp2_with fail
              exact ⟨rfl, _, rfl, Below.refl _ _, dy, rfl, v9_0⟩
            refine HSteps.cons ?_ ?_
            · intro f w' hb hU
              obtain ⟨dy, u10, v10_0⟩ : ∃ (dy : DV), f 139 = .tuple #[dy.v, .int .i64 0] ∧ DkV w' dy DN := hU.get ⟨10, .data⟩ (by simp) rfl
              simp only [putAll, List.foldl_cons, List.foldl_nil]
              go_frame
              try simp only [u10]
              go_wp2_with fail
              exact ⟨rfl, _, rfl, Below.refl _ _, dy, rfl, v10_0⟩
            refine HSteps.cons ?_ ?_
            · intro f w' hb hU
              obtain ⟨dy, u10, v10_0⟩ : ∃ (dy : DV), f 139 = .tuple #[dy.v, .int .i64 0] ∧ DkV w' dy DN := hU.get ⟨10, .data⟩ (by simp) rfl
              simp only [putAll, List.foldl_cons, List.foldl_nil]
              go_frame
              try simp only [u10]
              go_wp2_with fail
              exact ⟨rfl, _, rfl, Below.refl _ _, rfl⟩
            exact HSteps.nil
          case grow =>
            intro kq u wa wb hb hu
            rcases kq with _ | _ | _ | _ | _ | _ | _ | _ | _ | _ | _ | _ | _ | kq
            · exact hu
            · exact hu
            · exact hu
            · exact hu
            · exact hu
            · exact hu
            · exact hu
            · exact hu
            · exact hu
            · obtain ⟨dy, ue, uf0⟩ := hu
              exact ⟨dy, ue, uf0.keep hb⟩
            · obtain ⟨dy, ue, uf0⟩ := hu
              exact ⟨dy, ue, uf0.keep hb⟩
            · obtain ⟨dy, ue, uf0⟩ := hu
              exact ⟨dy, ue, uf0.keep hb⟩
            · exact hu
            · trivial
          case tail =>
            intro f w7 hb7 hU
            obtain ⟨dy, u11, v11_0⟩ : ∃ (dy : DV), f 150 = dy.v ∧ DkV w7 dy DN := hU.get 11 (by decide)
            obtain u12 : f 151 = .int .i64 0 := hU.get 12 (by decide)
            simp only [List.drop_succ_cons, List.drop_zero, putAll, List.foldl_cons, List.foldl_nil]
            go_frame
            simp only [u11, u12]
            clear u11 u12
            clear hU
            have kd7 := kd.k.keep hb7
            have kB7 : BlkB w7 GA 5 l := Blk.keep kB hb7
            have B7 := hbel.trans (hb7.mono hbel.size)
            clear kd kB hbel hb7
            go_wp2_with ((with_reducible refine is_store 38 ?_); refine wp_storeB GD _ _ dy.cs kd7 diskN rfl (dv_one _) rfl rfl ?_; intro w8 k8 r8; go_frame)
            refine noPanic_ok ?_
            have hd8 := v11_0.kept (Kept.grown r8 kd7 notDk)
            have kB8 : BlkB w8 GA 5 l := Blk.grown kB7 r8 (by simp; omega)
            have B8 := B7.grown r8 B7.size (fun z hz => by cases hz; exact hgD)
            clear kd7 kB7 B7 r8 v11_0
            go_wp2_with fail
            go_roundw
            case measure => simp [intOf]; omega
            case rel => exact ⟨j + 1, dy, DN, by omega, by go_num, rfl, ⟨k8, hd8⟩, kB8, HDN, B8⟩
        · obtain rfl : j = kk := by omega
          have tj : ¬ (j : Int) < (j : Int) := by omega
          obtain ⟨hDn, hDW, hDc⟩ := HDj.out
          have HSG := hid (seg_chk (by rw [hll]; have := HK.out; omega) hDc)
          have HS0 := hid (fun q (hq : q < j) => (show (D.cur q).length = 128 by rw [hDc q hq]; exact chk_len (by rw [hll]; exact HK.out.symm) hq))
          clear hDc HDj
          obtain ⟨x0, x1, x2, x3, x4⟩ := kd.k.c5
          have lGD := kd.k.lt
          go_wp2_with fail
          have R := wopen_any d D 0 j wr kd.d (HTb.out.keep hbel) hk1.1 (by omega)
          have HRO : Hid (∀ w', Below wr.heap.size wr w' → Calls Tryd.prog 16 #[.slice (some ⟨GA, 0, none⟩) K K] w' fun e w'' => ropenE (ropen (seg D.cur 0 j)) (hdrF (D.cur 0)) e w' w'') := hid fun w' hb => by
            have hs : D.cur 0 :: seg D.cur 1 (j - 1) = seg D.cur 0 j := by
              obtain ⟨q, hq⟩ : ∃ q, j = q + 1 := ⟨j - 1, by omega⟩
              rw [hq, seg_succ]
              rfl
            have hKe := HK.out
            have hrb : RB w' (some ⟨GA, 0, none⟩) K l := BlkB.cells (Blk.keep kB hb) hll
            have R := refOpen_any (some ⟨GA, 0, none⟩) K (D.cur 0) (seg D.cur 1 (j - 1)) w' (by rw [hs, HSG.out, seg_len, hKe]; exact hrb) (fun s h => by rw [hs] at h; obtain ⟨q, _, h2, rfl⟩ := seg_mem h; exact HS0.out q (by omega)) (by rw [hs, seg_len]; omega) (by rw [hs, seg_len]; omega) (by omega)
            rw [hs, seg_len, hKe] at R
            exact R
          rcases open_same D.cur j (by omega) (by omega) (HS0.out 0 (by omega)) with ⟨ho, hr⟩ | ⟨lg, s, ps, ho, hr, hB⟩
          · rw [ho] at R
            have HR2 := hid hr
            clear hr ho
            unfold wopenE at R
            dsimp only at R
            rw [show ((0 : Nat) : Int) = 0 from rfl] at R
            simp only [DV.v] at R
            refine R.mono ?_
            clear R
            rintro e w10 ⟨rfl, b10⟩
            have B10 := hbel.trans (b10.mono hbel.size)
            have hs10 := B10.size
            simp only [Lg.zero, Lg.v]
            go_wp2_with (first
              | ((with_reducible refine is_alloc 44 ?_); refine wp_allocB (w := w10) _ arrLog ?_; intro w11 k11 b11 s11; go_frame)
              | ((with_reducible refine is_store 44 ?_); refine wp_storeB w10.heap.size _ _ Lg.zero.cs k11 logN rfl (lg_one _) rfl rfl ?_; intro w12 k12 r12; go_frame))
            have bb : Below wr.heap.size wr w12 := (b10.trans (b11.mono b10.size)).grown r12 (b10.trans (b11.mono b10.size)).size (fun z hz => by cases hz; exact b10.size)
            refine (HRO.out w12 bb).mono ?_
            rw [HR2.out]
            rintro e w13 ⟨rfl, b13⟩
            have k13 := k12.keep b13
            have C13 := hbel.trans ((bb.trans (b13.mono bb.size)).mono hbel.size)
            have hs13 := C13.size
            clear b10 b11 s11 k11 r12 bb b13 k12 HRO x0 x1 x2 x3 x4 lGD kd kB hbel
            simp only [Stt.zero, Stt.v]
            go_wp2_with (first
              | ((with_reducible refine is_alloc 49 ?_); refine wp_allocB (w := w13) _ arrSt ?_; intro w14 k14 b14 s14; go_frame)
              | ((with_reducible refine is_store 49 ?_); refine wp_storeB w13.heap.size _ _ Stt.zero.cs k14 stN rfl (st_one _) rfl rfl ?_; intro w15 k15 r15; go_frame; have k16 := (k13.keep b14).grown r15 (by simp; have := k13.lt; omega); obtain ⟨y0, y1, y2, y3, y4, y5⟩ := k16.c6; dsimp only [Lg.zero] at y0 y1 y2 y3 y4 y5; have l16 := k16.lt))
            have C15 := (C13.trans (b14.mono C13.size)).grown r15 (C13.trans (b14.mono C13.size)).size (fun z hz => by cases hz; exact hs13)
            refine (next_any Lg.zero w15).mono ?_
            rintro e w16 ⟨rfl, b16⟩
            have C16 := C15.trans (b16.mono C15.size)
            go_wp2_with fail
            refine (awake_any _ (HTb.out.keep C16)).mono ?_
            rintro e w17 ⟨rfl, b17⟩
            go_wp2_with fail
            go_ret
            exact ⟨rfl, C16.trans (b17.mono C16.size)⟩
          · rw [ho] at R
            have HR2 := hid hr
            have HBo := hid hB
            clear hr ho hB
            unfold wopenE at R
            dsimp only at R
            rw [show ((0 : Nat) : Int) = 0 from rfl] at R
            simp only [DV.v] at R
            refine R.mono ?_
            clear R
            rintro e w10 ⟨sA, rfl, hrA, b10⟩
            have B10 := hbel.trans (b10.mono hbel.size)
            have hs10 := B10.size
            obtain ⟨gL, hgL⟩ : ∃ z, w10.heap.size = z := ⟨_, rfl⟩
            simp only [Lg.v, Sl.v]
            go_wp2_with (first
              | ((with_reducible refine is_alloc 44 ?_); refine wp_allocB (w := w10) _ arrLog ?_; intro w11 k11 b11 s11; go_frame)
              | ((with_reducible refine is_store 44 ?_); refine wp_storeB w10.heap.size _ _ lg.cs k11 logN rfl (lg_one _) rfl rfl ?_; intro w12 k12 r12; go_frame))
            have bb : Below wr.heap.size wr w12 := (b10.trans (b11.mono b10.size)).grown r12 (b10.trans (b11.mono b10.size)).size (fun z hz => by cases hz; exact b10.size)
            have hrA2 := (hrA.lt.keep b11).grown r12 (fun g hg hN => by cases hg; have := hN.2; omega)
            refine (HRO.out w12 bb).mono ?_
            rw [HR2.out]
            rintro e w13 ⟨sB, rfl, hrB, b13⟩
            have k13 := k12.keep b13
            have bb3 := bb.trans (b13.mono bb.size)
            have kd13 := kd.keep bb3
            have kB13 : BlkB w13 GA 5 l := Blk.keep kB bb3
            have C13 := hbel.trans (bb3.mono hbel.size)
            have hs13 := C13.size
            have hrA3 := hrA2.keep b13
            have l13 := k13.lt
            have l13d := kd13.k.lt
            rw [hgL] at k13 l13 ⊢
            have hgLw : GD < gL ∧ GA < gL ∧ w.heap.size ≤ gL := by have := lGD; have := b10.size; rw [← hgL]; refine ⟨by omega, by omega, hs10⟩
            clear b10 b11 s11 k11 r12 bb b13 k12 HRO x0 x1 x2 x3 x4 lGD kd kB hbel hrA hrA2 bb3 B10 hs10 hgL
            simp only [Stt.v, Sl.v]
            obtain ⟨gS, hgS⟩ : ∃ z, w13.heap.size = z := ⟨_, rfl⟩
            go_wp2_with (first
              | ((with_reducible refine is_alloc 49 ?_); refine wp_allocB (w := w13) _ arrSt ?_; intro w14 k14 b14 s14; go_frame)
              | ((with_reducible refine is_store 49 ?_); refine wp_storeB w13.heap.size _ _ s.cs k14 stN rfl (st_one _) rfl rfl ?_; intro w15 k15 r15; go_frame))
            have k16 := (k13.keep b14).grown r15 (by simp; omega)
            have kd16 : Bx w15 GD d D := ⟨(kd13.k.keep b14).grown r15 (by simp; omega), (kd13.d.keep b14).kept (Kept.grown r15 k14 (by unfold dkT; decide))⟩
            have kB16 : BlkB w15 GA 5 l := Blk.grown (Blk.keep kB13 b14) r15 (by simp; omega)
            have C15 := (C13.trans (b14.mono C13.size)).grown r15 (C13.trans (b14.mono C13.size)).size (fun z hz => by cases hz; exact hs13)
            have hrA4 := (hrA3.lt.keep b14).grown r15 (fun g hg hN => by cases hg; have := hN.2; omega)
            have hrB4 := (hrB.lt.keep b14).grown r15 (fun g hg hN => by cases hg; have := hN.2; omega)
            rw [hgS] at k15 ⊢
            have hgSL : gL < gS := by omega
            have lps : (recsAt (hdrF (D.cur 0)) ps).length ≤ 1000 := by rw [recsAt_len]; have := HBo.out.n; omega
            generalize recsAt (hdrF (D.cur 0)) ps = RR at hrA4 hrB4 lps
            clear k13 kd13 kB13 C13 hrA3 hrB b14 r15 k14 s14 hs13 l13 l13d hgS
            go_wp2_with fail
            have R := records_any _ sA RR w15 hrA4 (by have := hrA4.e; omega)
            simp only [Sl.v] at R
            refine R.mono ?_
            clear R
            rintro e w17 ⟨sC, rfl, hrC, b17⟩
            simp only [Sl.v]
            go_wp2_with fail
            have R := same_yes _ _ sC sB RR w17 hrC (hrB4.keep b17)
            simp only [Sl.v] at R
            refine R.mono ?_
            clear R
            rintro e w18 ⟨rfl, b18⟩
            have b78 := b17.trans (b18.mono b17.size)
            replace k16 := k16.keep b78
            replace kd16 := kd16.keep b78
            replace kB16 : BlkB w18 GA 5 l := Blk.keep kB16 b78
            replace k15 := k15.keep b78
            replace C15 := C15.trans (b78.mono C15.size)
            clear b17 b18 b78 hrC hrA4 hrB4 lps
            obtain ⟨z0, z1, z2, z3, z4, z5⟩ := k16.c6
            obtain ⟨y0, y1, y2, y3⟩ := k15.c4
            try dsimp only at z0 z1 z2 z3 z4 z5 y0 y1 y2 y3
            have lL := k16.lt
            have lS := k15.lt
            go_wp2_with fail
            have R := is_any lg s j w18 HBo.out.ok HBo.out.nx HBo.out.sk (by omega) HBo.out.left
            simp only [Lg.v, Stt.v] at R
            refine R.mono ?_
            clear R z0 z1 z2 z3 z4 z5 y0 y1 y2 y3 lL lS
            rintro e w19 ⟨rfl, b19⟩
            replace k16 := k16.keep b19
            replace kd16 := kd16.keep b19
            replace kB16 : BlkB w19 GA 5 l := Blk.keep kB16 b19
            replace k15 := k15.keep b19
            replace C15 := C15.trans (b19.mono C15.size)
            clear b19
            obtain ⟨z0, z1, z2, z3, z4, z5⟩ := k16.c6
            obtain ⟨y0, y1, y2, y3, y4⟩ := kd16.k.c5
            try dsimp only at z0 z1 z2 z3 z4 z5 y0 y1 y2 y3 y4
            have lL := k16.lt
            have lD := kd16.k.lt
            go_wp2_with fail
            have hrm := fun wx => refRoom_any s j wx HBo.out.sk (by omega)
            by_cases hfull : lg.left = 0
            · have R := append_full lg d none 0 0 w19 HBo.out.ok (by omega) (by rw [hfull]; exact cnt_pos 0)
              have erm : roomOf (j - s.sec) = -8 := by rw [← HBo.out.left, hfull]; rfl
              rw [erm] at hrm
              have HRm := hid hrm
              simp only [DV.v, Lg.v] at R
              refine R.mono ?_
              clear R z0 z1 z2 z3 z4 z5 y0 y1 y2 y3 y4 lL lD hrm erm
              rintro e w20 ⟨rfl, b20⟩
              replace k15 := k15.keep b20
              replace C15 := C15.trans (b20.mono C15.size)
              have hs20 := C15.size
              have lS := k15.lt
              clear b20 k16 kd16 kB16
              simp only [DV.zero, Lg.zero, DV.v, Lg.v]
              go_wp2_with (first
                | ((with_reducible refine is_alloc 38 ?_); refine wp_allocB (w := w20) _ arrDisk ?_; intro w5 k5 b5 s5; go_frame)
                | ((with_reducible refine is_alloc 44 ?_); refine wp_allocN (w20.heap.size + 1) s5 _ arrLog ?_; intro w6 k6 b6 s6; go_frame)
                | ((with_reducible refine is_store 38 ?_); refine wp_storeB w20.heap.size _ _ DV.zero.cs (k5.keep (by rw [s5]; exact b6)) diskN rfl (dv_one _) rfl rfl ?_; intro w7 k7 r7; go_frame)
                | ((with_reducible refine is_store 44 ?_); refine wp_storeB (w20.heap.size + 1) _ _ Lg.zero.cs (k6.grown r7 (by simp)) logN rfl (lg_one _) rfl rfl ?_; intro w8 k8 r8; go_frame; have b56 : Below w20.heap.size w20 w6 := b5.trans ((show Below w5.heap.size w5 w6 by rw [s5]; exact b6).mono b5.size); have kS8 := ((k15.keep b56).grown r7 (by simp; omega)).grown r8 (by simp; omega); obtain ⟨y0, y1, y2, y3⟩ := kS8.c4; have lS8 := kS8.lt))
              have C6 := C15.trans (b56.mono C15.size)
              have C7 := C6.grown r7 C6.size (fun z hz => by cases hz; exact hs20)
              have C8 := C7.grown r8 C7.size (fun z hz => by cases hz; omega)
              refine (HRm.out w8).mono ?_
              rintro e w9 ⟨rfl, b9⟩
              have C9 := C8.trans (b9.mono C8.size)
              clear y0 y1 y2 y3 kS8 lS8 C8 C7 C6 r7 r8 b5 b6 b56 k7 k8 s5 s6
              go_wp2_with fail
              refine (awake_any _ (HTb.out.keep C9)).mono ?_
              rintro e w10 ⟨rfl, b10⟩
              go_wp2_with fail
              go_ret
              exact ⟨rfl, C9.trans (b10.mono C9.size)⟩
            · have hn0 : ∀ wx : World, RB wx none 0 [] := fun wx => RB.nil wx none
              have hsec : s.sec + 1 ≤ j := by have := HBo.out.left; have := HBo.out.sk; omega
              have R := append_good lg d D none 0 0 [] w19 kd16.d (HTb.out.keep C15) HBo.out.ok (hn0 w19) (by omega) (by show cnt 0 ≤ _; unfold cnt; omega) (by rw [HBo.out.f, HBo.out.z]; omega) (by omega)
              obtain ⟨s1, hs1, hs1l⟩ := recSecs_nil (tagB lg.e lg.g lg.nx) (tagB_len _ _ _)
              rw [hs1] at R
              have HSF : Hid (l.take (s.sec * 128) ++ s1 ++ l.drop (s.sec * 128 + 128) = (seg (putSecs D lg.at_ [s1]).cur 0 j).flatten) := by
                refine hid ?_
                show _ = (seg (upd D.cur lg.at_ s1) 0 j).flatten
                rw [HBo.out.a, seg_put1 D.cur j s.sec s1 HS0.out hs1l (by omega), HSG.out, Nat.mul_comm 128 s.sec]
              have HDNn : Hid ((putSecs D lg.at_ [s1]).n = j) := hid (by rw [putSecs_n]; exact hDn)
              have HBy : Hid (∀ w', Calls Tryd.prog 11 #[.int .u64 s.e, .int .u64 s.g, .int .u64 s.nx, .slice none 0 0] w' fun ex w'' => ∃ v, ex = .returned v ∧ w''.ownsRow w'.heap.size 5 1 v 128 (s1.map byV) ∧ Below w'.heap.size w' w'') := hid fun w' => by
                have R := refBytes_any s.e s.g s.nx none 0 0 [] w' (by rw [← HBo.out.e]; exact HBo.out.ok.e) (by rw [← HBo.out.g]; exact HBo.out.ok.g) (by rw [← HBo.out.nx]; exact HBo.out.ok.n) (hn0 w') (by omega)
                rw [← HBo.out.e, ← HBo.out.g, ← HBo.out.nx, hs1, show 128 * cnt 0 = 128 from rfl] at R
                rw [← HBo.out.e, ← HBo.out.g, ← HBo.out.nx]
                simpa using R
              have hrm0 : ¬ roomOf (j - s.sec) < 0 := by unfold roomOf; split <;> omega
              generalize roomOf (j - s.sec) = rm at hrm hrm0
              have HRm := hid hrm
              generalize putSecs D lg.at_ [s1] = DN at R HSF HDNn
              generalize lg.app 0 = l2 at R
              have HS1 := hid hs1l
              clear hs1 hs1l hrm hn0 hfull
              have HSC := hid hsec
              clear hsec
              simp only [DV.v, Lg.v] at R
              refine R.mono ?_
              clear R z0 z1 z2 z3 z4 z5 y0 y1 y2 y3 y4 lL lD
              rintro e w20 ⟨dy, rfl, hdy, b20⟩
              replace k15 := k15.keep b20
              replace kB16 : BlkB w20 GA 5 l := Blk.keep kB16 b20
              replace C15 := C15.trans (b20.mono C15.size)
              have hs20 := C15.size
              have lS := k15.lt
              have lA := Blk.lt kB16
              clear b20 k16 kd16
              simp only [DV.v, Lg.v]
              go_wp2_with (first
                | ((with_reducible refine is_alloc 38 ?_); refine wp_allocB (w := w20) _ arrDisk ?_; intro w5 k5 b5 s5; go_frame)
                | ((with_reducible refine is_alloc 44 ?_); refine wp_allocN (w20.heap.size + 1) s5 _ arrLog ?_; intro w6 k6 b6 s6; go_frame)
                | ((with_reducible refine is_store 38 ?_); refine wp_storeB w20.heap.size _ _ dy.cs (k5.keep (by rw [s5]; exact b6)) diskN rfl (dv_one _) rfl rfl ?_; intro w7 k7 r7; go_frame)
                | ((with_reducible refine is_store 44 ?_); refine wp_storeB (w20.heap.size + 1) _ _ l2.cs (k6.grown r7 (by simp)) logN rfl (lg_one _) rfl rfl ?_; intro w8 k8 r8; go_frame; have b56 : Below w20.heap.size w20 w6 := b5.trans ((show Below w5.heap.size w5 w6 by rw [s5]; exact b6).mono b5.size); have kS8 := ((k15.keep b56).grown r7 (by simp; omega)).grown r8 (by simp; omega); obtain ⟨y0, y1, y2, y3⟩ := kS8.c4; have lS8 := kS8.lt))
              have kB8 : BlkB w8 GA 5 l := Blk.grown (Blk.grown (Blk.keep kB16 b56) r7 (by simp; omega)) r8 (by simp; omega)
              have hd8 := ((hdy.keep b56).kept (Kept.grown r7 (k5.keep (by rw [s5]; exact b6)) notDk)).kept (Kept.grown r8 (k6.grown r7 (by simp)) (by unfold dkT; decide))
              have K8 : Bx w8 w20.heap.size dy DN := ⟨k7.grown r8 (by simp), hd8⟩
              have C6 := C15.trans (b56.mono C15.size)
              have C7 := C6.grown r7 C6.size (fun z hz => by cases hz; exact hs20)
              have C8 := C7.grown r8 C7.size (fun z hz => by cases hz; omega)
              refine (HRm.out w8).mono ?_
              rintro e w9 ⟨rfl, b9⟩
              have kB9 : BlkB w9 GA 5 l := Blk.keep kB8 b9
              have ky := K8.keep b9
              have kS := kS8.keep b9
              have C9 := C8.trans (b9.mono C8.size)
              have gYA : ¬ w20.heap.size = GA := by omega
              have gYS : ¬ w20.heap.size = gS := by omega
              have gwy := hs20
              clear y0 y1 y2 y3 kS8 lS8 C8 C7 C6 r7 r8 b5 b6 b56 k7 k8 s5 s6 b9 kB8 hd8 K8 k15 kB16 lA lS hs20 C15 k5 k6
              generalize w20.heap.size = gY at *
              have hsj := HSC.out
              have q1 := IntWalk.i64_in ((s.sec : Int) * 128) (by omega)
              have hKs : s.sec * 128 + 128 ≤ K := by have := HK.out; omega
              have n1 : ¬ K = s.sec * 128 := by omega
              have ks : ∀ wx, (Instr.slice 25 (.slice (some ⟨GA, 0, none⟩) K K) (some (.int .i64 ((s.sec : Int) * 128))) none none).run Tryd.prog wx = .ok (.slice (some ⟨GA, s.sec * 128, none⟩) (K - s.sec * 128) (K - s.sec * 128)) wx := fun wx => by
                have := run_from (P := Tryd.prog) 25 5 Tryd.underlying25 bytesN (some ⟨GA, 0, none⟩) K K (s.sec * 128) .i64 ((s.sec : Int) * 128) (by omega) (by omega) wx
                rw [if_neg n1] at this
                simpa [add_spot] using this
              go_wp2_with fail
              refine wp_region_head 243 12 [216, 217, 218, 219, 220, 221, 222, 223, 224, 225, 226, 227] [] ((fun kq => ([fun u w' => u = .slice (some ⟨GA, 0, none⟩) K K, fun u w' => u = .pointer (some ⟨gS, 3, none⟩), fun u w' => u = .int .i64 s.sec, fun u w' => u = .int .i64 ((s.sec : Int) * 128), fun u w' => u = .slice (some ⟨GA, s.sec * 128, none⟩) (K - s.sec * 128) (K - s.sec * 128), fun u w' => u = .pointer (some ⟨gS, 0, none⟩), fun u w' => u = .int .u64 s.e, fun u w' => u = .pointer (some ⟨gS, 1, none⟩), fun u w' => u = .int .u64 s.g, fun u w' => u = .pointer (some ⟨gS, 2, none⟩), fun u w' => u = .int .u64 s.nx, fun u w' => ∃ (A' : Option Addr), ∃ (c' : Nat), u = .slice A' 128 c' ∧ RB w' A' 128 s1] : List (Value → World → Prop)).getD kq (fun _ _ => True))) (by kernel_rfl) rfl (by kernel_rfl) (.inl rfl) ?grow ?step ?tail
              case step =>
                simp only [List.take_succ_cons, List.take_zero]
                refine HSteps.cons ?_ ?_
                · intro f w' hb hU
                  simp only [putAll, List.foldl_cons, List.foldl_nil]
                  go_frame
                  go_wp2_with fail
                  exact ⟨rfl, _, rfl, Below.refl _ _, rfl⟩
                refine HSteps.cons ?_ ?_
                · intro f w' hb hU
                  simp only [putAll, List.foldl_cons, List.foldl_nil]
                  go_frame
                  go_wp2_with fail
                  exact ⟨rfl, _, rfl, Below.refl _ _, rfl⟩
                refine HSteps.cons ?_ ?_
                · intro f w' hb hU
                  obtain u1 : f 217 = .pointer (some ⟨gS, 3, none⟩) := hU.get ⟨1, .data⟩ (by simp) rfl
                  obtain ⟨c0, c1, c2, c3⟩ := (kS.keep hb).c4
                  simp only [putAll, List.foldl_cons, List.foldl_nil]
                  go_frame
                  try simp only [u1]
                  go_wp2_with fail
                  exact ⟨rfl, _, rfl, Below.refl _ _, rfl⟩
                refine HSteps.cons ?_ ?_
                · intro f w' hb hU
                  obtain u2 : f 218 = .int .i64 s.sec := hU.get ⟨2, .data⟩ (by simp) rfl
                  simp only [putAll, List.foldl_cons, List.foldl_nil]
                  go_frame
                  try simp only [u2]
                  go_wp2_with fail
                  exact ⟨rfl, _, rfl, Below.refl _ _, rfl⟩
                refine HSteps.cons ?_ ?_
                · intro f w' hb hU
                  obtain u0 : f 216 = .slice (some ⟨GA, 0, none⟩) K K := hU.get ⟨0, .data⟩ (by simp) rfl
                  obtain u3 : f 219 = .int .i64 ((s.sec : Int) * 128) := hU.get ⟨3, .data⟩ (by simp) rfl
                  simp only [putAll, List.foldl_cons, List.foldl_nil]
                  go_frame
                  try simp only [u0, u3]
                  go_wp2_with fail
                  exact ⟨rfl, _, rfl, Below.refl _ _, rfl⟩
                refine HSteps.cons ?_ ?_
                · intro f w' hb hU
                  simp only [putAll, List.foldl_cons, List.foldl_nil]
                  go_frame
                  go_wp2_with fail
                  exact ⟨rfl, _, rfl, Below.refl _ _, rfl⟩
                refine HSteps.cons ?_ ?_
                · intro f w' hb hU
                  obtain u5 : f 221 = .pointer (some ⟨gS, 0, none⟩) := hU.get ⟨5, .data⟩ (by simp) rfl
                  obtain ⟨c0, c1, c2, c3⟩ := (kS.keep hb).c4
                  simp only [putAll, List.foldl_cons, List.foldl_nil]
                  go_frame
                  try simp only [u5]
                  go_wp2_with fail
                  exact ⟨rfl, _, rfl, Below.refl _ _, rfl⟩
                refine HSteps.cons ?_ ?_
                · intro f w' hb hU
                  simp only [putAll, List.foldl_cons, List.foldl_nil]
                  go_frame
                  go_wp2_with fail
                  exact ⟨rfl, _, rfl, Below.refl _ _, rfl⟩
                refine HSteps.cons ?_ ?_
                · intro f w' hb hU
                  obtain u7 : f 223 = .pointer (some ⟨gS, 1, none⟩) := hU.get ⟨7, .data⟩ (by simp) rfl
                  obtain ⟨c0, c1, c2, c3⟩ := (kS.keep hb).c4
                  simp only [putAll, List.foldl_cons, List.foldl_nil]
                  go_frame
                  try simp only [u7]
                  go_wp2_with fail
                  exact ⟨rfl, _, rfl, Below.refl _ _, rfl⟩
                refine HSteps.cons ?_ ?_
                · intro f w' hb hU
                  simp only [putAll, List.foldl_cons, List.foldl_nil]
                  go_frame
                  go_wp2_with fail
                  exact ⟨rfl, _, rfl, Below.refl _ _, rfl⟩
                refine HSteps.cons ?_ ?_
                · intro f w' hb hU
                  obtain u9 : f 225 = .pointer (some ⟨gS, 2, none⟩) := hU.get ⟨9, .data⟩ (by simp) rfl
                  obtain ⟨c0, c1, c2, c3⟩ := (kS.keep hb).c4
                  simp only [putAll, List.foldl_cons, List.foldl_nil]
                  go_frame
                  try simp only [u9]
                  go_wp2_with fail
                  exact ⟨rfl, _, rfl, Below.refl _ _, rfl⟩
                refine HSteps.cons ?_ ?_
                · intro f w' hb hU
                  obtain u6 : f 222 = .int .u64 s.e := hU.get ⟨6, .data⟩ (by simp) rfl
                  obtain u8 : f 224 = .int .u64 s.g := hU.get ⟨8, .data⟩ (by simp) rfl
                  obtain u10 : f 226 = .int .u64 s.nx := hU.get ⟨10, .data⟩ (by simp) rfl
                  simp only [putAll, List.foldl_cons, List.foldl_nil]
                  go_frame
                  try simp only [u6, u8, u10]
                  go_wp2_with fail
                  refine (HBy.out w').mono ?_
                  rintro e w3 ⟨v, rfl, hown, b3⟩
                  obtain ⟨A', c', rfl, hrr, _, _⟩ := own_form hown
                  go_wp2_with fail
                  exact ⟨rfl, _, rfl, b3, A', c', rfl, hrr⟩
                exact HSteps.nil
              case grow =>
                intro kq u wa wb hb hu
                rcases kq with _ | _ | _ | _ | _ | _ | _ | _ | _ | _ | _ | _ | kq
                · exact hu
                · exact hu
                · exact hu
                · exact hu
                · exact hu
                · exact hu
                · exact hu
                · exact hu
                · exact hu
                · exact hu
                · exact hu
                · obtain ⟨A', c', ue, uf0⟩ := hu
                  exact ⟨A', c', ue, uf0.below hb⟩
                · trivial
              case tail =>
                intro f w7 hb7 hU
                obtain u4 : f 220 = .slice (some ⟨GA, s.sec * 128, none⟩) (K - s.sec * 128) (K - s.sec * 128) := hU.get 4 (by decide)
                obtain ⟨A', c', u11, v11_0⟩ : ∃ (A' : Option Addr), ∃ (c' : Nat), f 227 = .slice A' 128 c' ∧ RB w7 A' 128 s1 := hU.get 11 (by decide)
                simp only [List.drop_succ_cons, List.drop_zero, putAll, List.foldl_cons, List.foldl_nil]
                go_frame
                simp only [u4, u11]
                clear u4 u11
                clear hU
                have kB7 : BlkB w7 GA 5 l := Blk.keep kB9 hb7
                have ky7 := ky.keep hb7
                have C7 := C9.trans (hb7.mono C9.size)
                clear kB9 ky kS C9 hb7
                go_wp2_with ((with_reducible refine is_copy ?_); refine wp_copyB GA (s.sec * 128) (K - s.sec * 128) (K - s.sec * 128) 5 5 _ kB7 Tryd.underlying25 bytesN A' 128 c' _ v11_0 (byV_one _) rfl rfl (by rw [List.length_map]; omega) ?_; intro w8 kA8 r8; go_frame)
                have emin : min 128 (K - s.sec * 128) = 128 := by omega
                rw [emin] at kA8
                obtain ⟨lf, hlf⟩ : ∃ z, (seg DN.cur 0 j).flatten = z := ⟨_, rfl⟩
                have kBf : BlkB w8 GA 5 lf := by
                  unfold BlkB
                  rw [← hlf, ← HSF.out, List.map_append, List.map_append, List.map_take, List.map_drop]
                  rw [List.take_of_length_le (l := s1.map byV) (by rw [List.length_map, HS1.out]; omega)] at kA8
                  exact kA8
                have ky8 : Bx w8 gY dy DN := ⟨ky7.k.grown r8 (by simp; omega), ky7.d.kept (Kept.grown r8 (show Blk w7 GA 5 _ from kB7) (by unfold dkT; decide))⟩
                have C8 := C7.grown r8 C7.size (fun z hz => by cases hz; exact hgs)
                have HLF : Hid (lf.length = K) := by
                  refine hid ?_
                  rw [← hlf, ← HSF.out, List.length_append, List.length_append, List.length_take, List.length_drop, HS1.out, hll]
                  omega
                have HRg : Hid (∀ w', Below w8.heap.size w8 w' → Calls Tryd.prog 23 #[dy.v, .int .i64 0, .int .i64 j] w' fun e w'' => ∃ A c, e = .returned (.slice A K c) ∧ RB w'' A K lf ∧ Below w'.heap.size w' w'') := hid fun w' hb => by
                  have R := region_any dy DN 0 j w' (ky8.d.keep hb) (by rw [HDNn.out]; omega)
                  rw [hlf, HK.out] at R
                  exact R.mono fun e w'' ⟨A, c, h1, h2, h3⟩ => ⟨A, c, h1, RL.of_own h2, h3⟩
                have HAW := hid (fun (wx : World) (hb : Below w8.heap.size w8 wx) => awake_any wx (HTb.out.keep (C8.trans (hb.mono C8.size))))
                have ly := ky8.k.lt
                have lA := Blk.lt kBf
                have ks8 := ky8.k
                clear kB7 ky7 C7 r8 kA8 emin hlf v11_0 ks
                refine wp_region_head 243 15 [229, 230, 231, 232, 233, 234, 235, 236, 237, 238, 239, 240, 241, 242, 6] [] ((fun kq => ([fun u w' => u = .int .i64 0, fun u w' => u = .bool true, fun u w' => u = .bool true, fun u w' => u = dy.v, fun u w' => u = .int .i64 j, fun u w' => ∃ (A' : Option Addr), ∃ (c' : Nat), u = .slice A' K c' ∧ RB w' A' K lf, fun u w' => u = .string ⟨lf.toArray⟩, fun u w' => u = .slice (some ⟨GA, 0, none⟩) K K, fun u w' => u = .string ⟨lf.toArray⟩, fun u w' => u = .bool true, fun u w' => u = .bool true, fun u w' => u = .bool true, fun u w' => u = .bool true, fun u w' => u = .bool true, fun u w' => u = .bool true] : List (Value → World → Prop)).getD kq (fun _ _ => True))) (by kernel_rfl) rfl (by kernel_rfl) (.inl rfl) ?grow ?step ?tail
                case step =>
                  simp only [List.take_succ_cons, List.take_zero]
                  refine HSteps.cons ?_ ?_
                  · intro f w' hb hU
                    simp only [putAll, List.foldl_cons, List.foldl_nil]
                    go_frame
                    go_wp2_with fail
                    exact ⟨rfl, _, rfl, Below.refl _ _, rfl⟩
                  refine HSteps.cons ?_ ?_
                  · intro f w' hb hU
                    obtain u0 : f 229 = .int .i64 0 := hU.get ⟨0, .data⟩ (by simp) rfl
                    simp only [putAll, List.foldl_cons, List.foldl_nil]
                    go_frame
                    try simp only [u0]
                    go_wp2_with fail
                    exact ⟨rfl, _, rfl, Below.refl _ _, rfl⟩
                  refine HSteps.cons ?_ ?_
                  · intro f w' hb hU
                    obtain u1 : f 230 = .bool true := hU.get ⟨1, .data⟩ (by simp) rfl
                    simp only [putAll, List.foldl_cons, List.foldl_nil]
                    go_frame
                    try simp only [u1]
                    go_wp2_with fail
                    exact ⟨rfl, _, rfl, Below.refl _ _, rfl⟩
                  refine HSteps.cons ?_ ?_
                  · intro f w' hb hU
                    simp only [putAll, List.foldl_cons, List.foldl_nil]
                    go_frame
                    obtain u2 : f 231 = .bool true := hU.get ⟨2, .guard⟩ (by simp) rfl
                    obtain ⟨x0', x1', x2', x3', x4'⟩ := (ks8.keep hb).c5
                    try simp only [u2]
                    go_wp2_with fail
                    exact ⟨rfl, _, rfl, Below.refl _ _, rfl⟩
                  refine HSteps.cons ?_ ?_
                  · intro f w' hb hU
                    simp only [putAll, List.foldl_cons, List.foldl_nil]
                    go_frame
                    obtain u2 : f 231 = .bool true := hU.get ⟨2, .guard⟩ (by simp) rfl
                    try simp only [u2]
                    go_wp2_with fail
                    exact ⟨rfl, _, rfl, Below.refl _ _, rfl⟩
                  refine HSteps.cons ?_ ?_
                  · intro f w' hb hU
                    simp only [putAll, List.foldl_cons, List.foldl_nil]
                    go_frame
                    obtain u3 : f 232 = dy.v := hU.get ⟨3, .data⟩ (by simp) rfl
                    obtain u4 : f 233 = .int .i64 j := hU.get ⟨4, .data⟩ (by simp) rfl
                    obtain u2 : f 231 = .bool true := hU.get ⟨2, .chain⟩ (by simp) rfl
                    try simp only [u3, u4, u2]
                    go_wp2_with fail
                    refine (HRg.out w' hb).mono ?_
                    rintro e w3 ⟨A', c', rfl, hrr, b3⟩
                    go_wp2_with fail
                    exact ⟨rfl, _, rfl, b3, A', c', rfl, hrr⟩
                  refine HSteps.cons ?_ ?_
                  · intro f w' hb hU
                    simp only [putAll, List.foldl_cons, List.foldl_nil]
                    go_frame
                    obtain ⟨A', c', u5, v5_0⟩ : ∃ (A' : Option Addr), ∃ (c' : Nat), f 234 = .slice A' K c' ∧ RB w' A' K lf := hU.get ⟨5, .data⟩ (by simp) rfl
                    obtain u2 : f 231 = .bool true := hU.get ⟨2, .guard⟩ (by simp) rfl
                    have cv := run_str (v5_0) 25 9 5 c' Tryd.underlying25 Tryd.underlying5 Tryd.underlying9
                    try simp only [u5, u2]
                    go_wp2_with fail
                    exact ⟨rfl, _, rfl, Below.refl _ _, rfl⟩
                  refine HSteps.cons ?_ ?_
                  · intro f w' hb hU
                    simp only [putAll, List.foldl_cons, List.foldl_nil]
                    go_frame
                    obtain u2 : f 231 = .bool true := hU.get ⟨2, .guard⟩ (by simp) rfl
                    try simp only [u2]
                    go_wp2_with fail
                    exact ⟨rfl, _, rfl, Below.refl _ _, rfl⟩
                  refine HSteps.cons ?_ ?_
                  · intro f w' hb hU
                    simp only [putAll, List.foldl_cons, List.foldl_nil]
                    go_frame
                    obtain u7 : f 236 = .slice (some ⟨GA, 0, none⟩) K K := hU.get ⟨7, .data⟩ (by simp) rfl
                    obtain u2 : f 231 = .bool true := hU.get ⟨2, .guard⟩ (by simp) rfl
                    have cv := run_str (BlkB.cells (Blk.keep kBf hb) HLF.out) 25 9 5 K Tryd.underlying25 Tryd.underlying5 Tryd.underlying9
                    try simp only [u7, u2]
                    go_wp2_with fail
                    exact ⟨rfl, _, rfl, Below.refl _ _, rfl⟩
                  refine HSteps.cons ?_ ?_
                  · intro f w' hb hU
                    simp only [putAll, List.foldl_cons, List.foldl_nil]
                    go_frame
                    obtain u6 : f 235 = .string ⟨lf.toArray⟩ := hU.get ⟨6, .data⟩ (by simp) rfl
                    obtain u8 : f 237 = .string ⟨lf.toArray⟩ := hU.get ⟨8, .data⟩ (by simp) rfl
                    obtain u2 : f 231 = .bool true := hU.get ⟨2, .guard⟩ (by simp) rfl
                    try simp only [u6, u8, u2]
                    go_wp2_with fail
                    exact ⟨rfl, _, rfl, Below.refl _ _, rfl⟩
                  refine HSteps.cons ?_ ?_
                  · intro f w' hb hU
                    obtain u2 : f 231 = .bool true := hU.get ⟨2, .data⟩ (by simp) rfl
                    obtain u9 : f 238 = .bool true := hU.get ⟨9, .data⟩ (by simp) rfl
                    simp only [putAll, List.foldl_cons, List.foldl_nil]
                    go_frame
                    try simp only [u2, u9]
                    go_wp2_with fail
                    exact ⟨rfl, _, rfl, Below.refl _ _, rfl⟩
                  refine HSteps.cons ?_ ?_
                  · intro f w' hb hU
                    obtain u10 : f 239 = .bool true := hU.get ⟨10, .data⟩ (by simp) rfl
                    obtain ⟨A', c', u5, v5_0⟩ : ∃ (A' : Option Addr), ∃ (c' : Nat), f 234 = .slice A' K c' ∧ RB w' A' K lf := hU.get ⟨5, .chain⟩ (by simp) rfl
                    simp only [putAll, List.foldl_cons, List.foldl_nil]
                    go_frame
                    try simp only [u10, u5]
                    go_wp2_with fail
                    exact ⟨rfl, _, rfl, Below.refl _ _, rfl⟩
                  refine HSteps.cons ?_ ?_
                  · intro f w' hb hU
                    simp only [putAll, List.foldl_cons, List.foldl_nil]
                    go_frame
                    obtain u11 : f 240 = .bool true := hU.get ⟨11, .chain⟩ (by simp) rfl
                    try simp only [u11]
                    go_wp2_with fail
                    refine (HAW.out w' hb).mono ?_
                    rintro e w3 ⟨rfl, b3⟩
                    go_wp2_with fail
                    exact ⟨rfl, _, rfl, b3, rfl⟩
                  refine HSteps.cons ?_ ?_
                  · intro f w' hb hU
                    obtain u11 : f 240 = .bool true := hU.get ⟨11, .data⟩ (by simp) rfl
                    obtain u12 : f 241 = .bool true := hU.get ⟨12, .data⟩ (by simp) rfl
                    simp only [putAll, List.foldl_cons, List.foldl_nil]
                    go_frame
                    try simp only [u11, u12]
                    go_wp2_with fail
                    exact ⟨rfl, _, rfl, Below.refl _ _, rfl⟩
                  refine HSteps.cons ?_ ?_
                  · intro f w' hb hU
                    obtain u13 : f 242 = .bool true := hU.get ⟨13, .data⟩ (by simp) rfl
                    obtain u12 : f 241 = .bool true := hU.get ⟨12, .chain⟩ (by simp) rfl
                    obtain u0 : f 229 = .int .i64 0 := hU.get ⟨0, .phase⟩ (by simp) rfl
                    obtain u1 : f 230 = .bool true := hU.get ⟨1, .phase⟩ (by simp) rfl
                    obtain u2 : f 231 = .bool true := hU.get ⟨2, .phase⟩ (by simp) rfl
                    obtain u3 : f 232 = dy.v := hU.get ⟨3, .phase⟩ (by simp) rfl
                    obtain u4 : f 233 = .int .i64 j := hU.get ⟨4, .phase⟩ (by simp) rfl
                    obtain ⟨A', c', u5, v5_0⟩ : ∃ (A' : Option Addr), ∃ (c' : Nat), f 234 = .slice A' K c' ∧ RB w' A' K lf := hU.get ⟨5, .phase⟩ (by simp) rfl
                    obtain u6 : f 235 = .string ⟨lf.toArray⟩ := hU.get ⟨6, .phase⟩ (by simp) rfl
                    obtain u7 : f 236 = .slice (some ⟨GA, 0, none⟩) K K := hU.get ⟨7, .phase⟩ (by simp) rfl
                    obtain u8 : f 237 = .string ⟨lf.toArray⟩ := hU.get ⟨8, .phase⟩ (by simp) rfl
                    obtain u9 : f 238 = .bool true := hU.get ⟨9, .phase⟩ (by simp) rfl
                    obtain u10 : f 239 = .bool true := hU.get ⟨10, .phase⟩ (by simp) rfl
                    obtain u11 : f 240 = .bool true := hU.get ⟨11, .phase⟩ (by simp) rfl
                    simp only [putAll, List.foldl_cons, List.foldl_nil]
                    go_frame
                    try simp only [u13, u12, u0, u1, u2, u3, u4, u5, u6, u7, u8, u9, u10, u11]
                    go_wp2_with fail
                    exact ⟨rfl, _, rfl, Below.refl _ _, rfl⟩
                  exact HSteps.nil
                case grow =>
                  intro kq u wa wb hb hu
                  rcases kq with _ | _ | _ | _ | _ | _ | _ | _ | _ | _ | _ | _ | _ | _ | _ | kq
                  · exact hu
                  · exact hu
                  · exact hu
                  · exact hu
                  · exact hu
                  · obtain ⟨A', c', ue, uf0⟩ := hu
                    exact ⟨A', c', ue, uf0.below hb⟩
                  · exact hu
                  · exact hu
                  · exact hu
                  · exact hu
                  · exact hu
                  · exact hu
                  · exact hu
                  · exact hu
                  · exact hu
                  · trivial
                case tail =>
                  intro f w7 hb7 hU
                  obtain u14 : f 6 = .bool true := hU.get 14 (by decide)
                  simp only [List.drop_succ_cons, List.drop_zero, putAll, List.foldl_cons, List.foldl_nil]
                  go_frame
                  simp only [u14]
                  clear u14
                  clear hU
                  have C := C8.trans (hb7.mono C8.size)
                  go_wp2_with fail
                  go_ret
                  exact ⟨rfl, C⟩
end Go.Proofs.YtlokfndonjldpaaDoor

