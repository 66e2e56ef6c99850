/- Open of package pager, walked. Conditions: the disk reads; the table of remainders is laid. Create of package pager, walked. Conditions: the disk reads; the table of remainders is laid. Alloc of package pager, walked. Conditions: the pager fits its disk; the table of remainders is laid. -/
import Derived.Test.YtanglofabkbllaaDoorStored
import Derived.Deep.MidRow
import Derived.Test.YtanglofabkbllaaDoorPgW
set_option linter.unusedSimpArgs false
set_option linter.unusedVariables false
namespace Go.Proofs.YtanglofabkbllaaDoor
open Go.RowKit

section
variable {ops : Array Oper} {rest : List Oper} {Q : Exit → Act → World → Prop} {a : Act} {w : World} {ty : TypeId} {ps : String} {af : Array Edge} {d : Option Tmp} {x y z : Operand}
theorem builtP0 : Tryd.prog.built 37 [] = some Pgr.zero.cs.toArray := by kernel_rfl
theorem wp_buildP0 (h : wpList Tryd.prog ops Q rest (a.put d Pgr.zero.v) w) : wpList Tryd.prog ops Q (⟨d, Op.build 37 #[], ty, ps, af, none⟩ :: rest) a w := by
  have e : ∀ l : List (Nat × Value), l = [] → Tryd.prog.built 37 l = some Pgr.zero.cs.toArray := by
    rintro l rfl
    exact builtP0
  refine wpList_build rfl 37 #[] rfl (by rw [e _ (by simp)]; simp) ?_
  rw [e _ (by simp)]
  exact h
theorem builtP3 (n : Int) (s c l : Option Addr) (m : Int) (sec pgs : Int) : Tryd.prog.built 37 [(0, .agg #[.int .i64 n, .pointer s, .pointer c, .pointer l, .int .i64 m]), (1, .int .i64 sec), (2, .int .i64 pgs)] =
    some ([Value.int .i64 n, Value.pointer s, Value.pointer c, Value.pointer l, Value.int .i64 m, Value.int .i64 sec, Value.int .i64 pgs, Value.int .i64 0, Value.int .u64 0, Value.string ⟨#[]⟩] ++ (zeros128.map byV ++ zeros128.map byV)).toArray := by kernel_rfl
theorem wp_buildP3 (dv : DV) (sec pgs : Nat) (hx : a.eval x = dv.v) (hy : a.eval y = .int .i64 sec) (hz : a.eval z = .int .i64 pgs) (h : wpList Tryd.prog ops Q rest (a.put d (Pgr.mk dv sec pgs 0 0 [] zeros128 zeros128).v) w) : wpList Tryd.prog ops Q (⟨d, Op.build 37 #[(0, x), (1, y), (2, z)], ty, ps, af, none⟩ :: rest) a w := by
  have e : ∀ l : List (Nat × Value), l = [(0, dv.v), (1, .int .i64 sec), (2, .int .i64 pgs)] → Tryd.prog.built 37 l = some (Pgr.mk dv sec pgs 0 0 [] zeros128 zeros128).cs.toArray := by
    rintro l rfl
    exact builtP3 _ _ _ _ _ _ _
  refine wpList_build rfl 37 _ rfl (by rw [e _ (by simp [hx, hy, hz])]; simp) ?_
  rw [e _ (by simp [hx, hy, hz])]
  exact h
end
/-- a pager with another committed state -/
def Pgr.com (p : Pgr) (s : Sta) : Pgr := { p with root := s.root, num := s.num, mt := s.mt, cu := s.nu }
theorem Pgr.com_ok {p : Pgr} {s : Sta} (h : p.ok) (hs : s.ok) : (p.com s).ok := ⟨hs.nu, h.nu, h.sec, h.pgs, hs.num, hs.mt⟩
theorem Pgr.com_cs {p : Pgr} (h : p.ok) (s : Sta) : p.cs.take 7 ++ s.cs ++ p.cs.drop (7 + 131) = (p.com s).cs := by
  have h1 := h.cu
  have h2 := h.nu
  have e : p.cs = ([.int .i64 p.d.n, .pointer p.d.s, .pointer p.d.c, .pointer p.d.l, .int .i64 p.d.m, .int .i64 p.sec, .int .i64 p.pgs] ++ ([.int .i64 p.root, .int .u64 p.num, .string ⟨p.mt.toArray⟩] ++ p.cu.map byV)) ++ p.nu.map byV := by
    unfold Pgr.cs
    simp
  have e2 : p.cs.drop (7 + 131) = p.nu.map byV := by rw [e]; exact List.drop_left' (by simp [h1])
  have e3 : p.cs.take 7 = [.int .i64 p.d.n, .pointer p.d.s, .pointer p.d.c, .pointer p.d.l, .int .i64 p.d.m, .int .i64 p.sec, .int .i64 p.pgs] := rfl
  rw [e2, e3]
  unfold Pgr.com Pgr.cs Sta.cs stCs
  simp
/-- a pager whose used set is the committed one -/
def Pgr.back (p : Pgr) : Pgr := { p with nu := p.cu }
theorem Pgr.back_ok {p : Pgr} (h : p.ok) : p.back.ok := ⟨h.cu, h.cu, h.sec, h.pgs, h.num, h.mt⟩
theorem Pgr.cu_cs {p : Pgr} (h : p.ok) : (p.cs.drop 10).take 128 = p.cu.map byV := by
  have h1 := h.cu
  unfold Pgr.cs
  rw [List.drop_left' (by simp), List.take_left' (by simp [h1])]
theorem Pgr.back_cs {p : Pgr} (h : p.ok) : p.cs.take 138 ++ p.cu.map byV ++ p.cs.drop (138 + 128) = p.back.cs := by
  have h1 := h.cu
  rw [List.drop_of_length_le (by rw [Pgr.cs_len h]; omega), List.append_nil]
  unfold Pgr.cs Pgr.back
  rw [← List.append_assoc, List.take_append_of_le_length (by simp [h1]), List.take_of_length_le (by simp [h1]), List.append_assoc]
/-- the root slots, one after the other -/
def later13 (acc : Option Sta) : Option Sta → Option Sta
  | none => acc
  | some t => match acc with
    | none => some t
    | some s => if s.num < t.num then some t else some s
def upto (a b : Option Sta) : Nat → Option Sta
  | 0 => none
  | 1 => later13 none a
  | _ => later13 (later13 none a) b
/-- what a root slot of a disk holds -/
noncomputable def rootAt (D : Dk) (sec pgs par : Nat) : Option Sta := storedOf (decoded (secs D.cur (sec + 8 * par) 8)) par pgs
/-- what Open finds -/
noncomputable def openOf (D : Dk) (sec pgs : Nat) : Option Sta := upto (rootAt D sec pgs 0) (rootAt D sec pgs 1) 2
def Pgr.at_ (d : DV) (sec pgs : Nat) (s : Sta) : Pgr := ⟨d, sec, pgs, s.root, s.num, s.mt, s.nu, s.nu⟩
def openE (d : DV) (sec pgs : Nat) : Option Sta → Ending → Prop
  | none, e => e = .returned (.tuple #[Pgr.zero.v, .int .i64 29])
  | some s, e => s.ok ∧ e = .returned (.tuple #[(Pgr.at_ d sec pgs s).v, .int .i64 0])
theorem upto_succ (a b : Option Sta) (k : Nat) (hk : k < 2) : upto a b (k + 1) = later13 (upto a b k) (if k = 0 then a else b) := by
  match k, hk with
  | 0, _ => rfl
  | 1, _ => rfl

set_option maxRecDepth 100000 in
set_option maxHeartbeats 4000000 in
theorem open_bad (d : DV) (sec pgs : Int) (w : World) (hn : d.n ≤ 16384) (h : regE d.n sec pgs ≠ 0) :
    Calls Tryd.prog 13 #[d.v, .int .i64 sec, .int .i64 pgs] w fun e w' => e = .returned (.tuple #[Pgr.zero.v, .int .i64 (regE d.n sec pgs)]) ∧ Below w.heap.size w w' := by
  have HR := hid (fun wx => region_any d sec pgs wx hn)
  obtain ⟨er, her⟩ : ∃ z, regE d.n sec pgs = z := ⟨_, rfl⟩
  rw [her] at HR h ⊢
  clear her
  have tb : (er != 0) = true := by rw [bne_iff_ne]; exact h
  rw [show d.v = Value.agg #[.int .i64 d.n, .pointer d.s, .pointer d.c, .pointer d.l, .int .i64 d.m] from rfl] at HR ⊢
  go_enter Tryd.func13, Tryd.ntmps13
  have hP : Blk (w.alloc (.cells d.cs.toArray 27)) w.heap.size 27 d.cs := Blk.new w _ _
  have hB : Below w.heap.size w (w.alloc (.cells d.cs.toArray 27)) := (Below.refl _ _).alloc (Nat.le_refl _) _
  have hs : (w.alloc (.cells d.cs.toArray 27)).heap.size = w.heap.size + 1 := by simp
  go_wp2_with ((with_reducible refine is_alloc 37 ?_); refine wp_allocN (w.heap.size + 1) hs _ arrPgr ?_; intro w2 k2 b2 s2; go_frame; obtain ⟨x0, x1, x2, x3, x4⟩ := (hP.below b2 (by omega)).c5; have l0 := (hP.below b2 (by omega)).lt)
  have hB2 := hB.trans (b2.mono (by omega))
  refine (HR.out _).mono ?_
  rintro e w3 ⟨rfl, b3⟩
  have k3 := k2.keep b3
  have hB3 := hB2.trans (b3.mono hB2.size)
  clear k2 hB2 b3 hP hB b2 x0 x1 x2 x3 x4 l0
  go_wp2_with (first
    | (with_reducible refine wp_buildP0 ?_; go_frame)
    | ((with_reducible refine is_store 37 ?_); refine wp_storeP (w.heap.size + 1) _ Pgr.zero Pgr.zero_ok k3 (by rw [Pgr.cs_len Pgr.zero_ok]) rfl rfl ?_; intro w4 k4 r4; go_frame))
  refine bodyPost_ret (results_P2 Tryd.results13 _ _ (w.heap.size + 1) Pgr.zero Pgr.zero_ok rfl k4) rfl ⟨rfl, hB3.grown r4 hB3.size (fun g hg => by cases hg; omega)⟩
theorem bmN : (Tryd.prog.info? 33).map (·.size) = some 128 := by kernel_rfl
theorem regE_in {n sec pgs : Nat} (h1 : 1 ≤ pgs) (h2 : pgs ≤ 1023) (h3 : sec + 8 * (pgs + 2) ≤ n) : regE n sec pgs = 0 := by
  unfold regE
  rw [if_neg (by omega), if_neg (by omega)]
set_option maxRecDepth 100000 in
set_option maxHeartbeats 8000000 in
theorem open_good (d : DV) (D : Dk) (sec pgs : Nat) (w : World) (hd : DkV w d D) (hT : Tab w) (h1 : 1 ≤ pgs) (h2 : pgs ≤ 1023) (h3 : sec + 8 * (pgs + 2) ≤ D.n) :
    Calls Tryd.prog 13 #[d.v, .int .i64 sec, .int .i64 pgs] w fun e w' => openE d sec pgs (openOf D sec pgs) e ∧ Below w.heap.size w w' := by
  have hdn := hd.hn
  have hnn := hd.n
  have HR := hid (fun wx => region_any d sec pgs wx (by omega))
  rw [regE_in h1 h2 (by omega)] at HR
  have HSt : Hid (∀ (p : Pgr) (k : Nat) wx, p.ok → p.d = d → p.sec = sec → p.pgs = pgs → k < 2 → Below w.heap.size w wx → Calls Tryd.prog 44 #[p.v, .int .u64 k] wx fun e w' => ∃ (s : Sta) (b : Bool), e = .returned (.tuple #[s.v, .bool b]) ∧ s.ok ∧ (rootAt D sec pgs k = if b then some s else none) ∧ Below wx.heap.size wx w') := by
    intro p k wx hp e1 e2 e3 hk hb
    have := stored_any p D k wx hp (hT.keep hb) (by rw [e1]; exact hd.keep hb) hk (by rw [e2]; omega)
    rw [e2, e3] at this
    exact this
  clear hd hT
  have hsec : sec ≤ 16384 := by omega
  clear h3 hdn hnn
  obtain ⟨A0, hA0⟩ : ∃ z, rootAt D sec pgs 0 = z := ⟨_, rfl⟩
  obtain ⟨A1, hA1⟩ : ∃ z, rootAt D sec pgs 1 = z := ⟨_, rfl⟩
  have hop : openOf D sec pgs = upto A0 A1 2 := by unfold openOf; rw [hA0, hA1]
  rw [hop]
  have HA : Hid (∀ k, k < 2 → rootAt D sec pgs k = if k = 0 then A0 else A1) := hid (fun k hk => by
    match k, hk with
    | 0, _ => exact hA0
    | 1, _ => exact hA1)
  clear hop hA0 hA1
  have edv : d.v = Value.agg #[.int .i64 d.n, .pointer d.s, .pointer d.c, .pointer d.l, .int .i64 d.m] := rfl
  rw [edv] at HR ⊢
  clear edv
  go_enter Tryd.func13, Tryd.ntmps13
  have hP : Blk (w.alloc (.cells d.cs.toArray 27)) w.heap.size 27 d.cs := Blk.new w _ _
  have hB : Below w.heap.size w (w.alloc (.cells d.cs.toArray 27)) := (Below.refl _ _).alloc (Nat.le_refl _) _
  have hs : (w.alloc (.cells d.cs.toArray 27)).heap.size = w.heap.size + 1 := by simp
  go_wp2_with ((with_reducible refine is_alloc 37 ?_); refine wp_allocN (w.heap.size + 1) hs _ arrPgr ?_; intro w2 k2 b2 s2; go_frame; obtain ⟨x0, x1, x2, x3, x4⟩ := (hP.below b2 (by omega)).c5; have l0 := (hP.below b2 (by omega)).lt)
  have hP2 := hP.below b2 (by omega)
  have hB2 := hB.trans (b2.mono (by omega))
  refine (HR.out _).mono ?_
  rintro e w3 ⟨rfl, b3⟩
  have k3 := k2.keep b3
  have hP3 := hP2.keep b3
  have hB3 := hB2.trans (b3.mono hB2.size)
  have hs3 : w.heap.size + 1 < w3.heap.size := k3.lt
  clear k2 hB2 b3 hP hB b2 x0 x1 x2 x3 x4 l0 hP2 hs s2 HR
  obtain ⟨x0, x1, x2, x3, x4⟩ := hP3.c5
  have l0 := hP3.lt
  have hok0 : (Pgr.mk d sec pgs 0 0 [] zeros128 zeros128).ok := ⟨by simp [zeros128], by simp [zeros128], hsec, h2, by simp, by simp⟩
  obtain ⟨g9, hg9⟩ : ∃ z, w3.heap.size = z := ⟨_, rfl⟩
  go_wp2_with (first
    | (with_reducible refine wp_buildP3 d sec pgs rfl rfl rfl ?_; go_frame)
    | ((with_reducible refine is_alloc 37 ?_); refine wp_allocN g9 hg9 _ arrPgr ?_; intro w4 k4 b4 s4; go_frame)
    | ((with_reducible refine is_store 37 ?_); refine wp_storeP g9 _ (Pgr.mk d sec pgs 0 0 [] zeros128 zeros128) hok0 k4 (by rw [Pgr.cs_len Pgr.zero_ok]) rfl rfl ?_; intro w5 k5 r5; go_frame))
  have kR5 := (k3.below b4 (by omega)).grown r5 (by simp; omega)
  have hB4 := hB3.trans (b4.mono (by omega))
  have hB5 := hB4.grown r5 hB4.size (fun z hz => by cases hz; omega)
  clear x0 x1 x2 x3 x4 l0 hP3 k3 b4 s4 hB3 hB4 k4 r5
  obtain ⟨P0, hP0⟩ : ∃ z, z = Pgr.mk d sec pgs 0 0 [] zeros128 zeros128 := ⟨_, rfl⟩
  have hc0 : P0 = P0.com Sta.zero := by rw [hP0]; rfl
  rw [← hP0, hc0] at k5
  rw [← hP0] at hok0
  have HD0 : Hid (P0.d = d ∧ P0.sec = sec ∧ P0.pgs = pgs ∧ ∀ s : Sta, (P0.com s).back = Pgr.at_ d sec pgs s) := hid (by rw [hP0]; exact ⟨rfl, rfl, rfl, fun s => rfl⟩)
  clear hP0 hc0
  have hg91 : w.heap.size + 1 < g9 := by omega
  clear hg9 hs3
  go_loopw [10, 26] (fun fd i wr => ∃ (k : Nat) (f : Bool) (s : Sta), k ≤ 2 ∧ i = .int .u64 k ∧ fd = .bool f ∧ s.ok ∧ Blk wr g9 37 (P0.com s).cs ∧ Blk wr (w.heap.size + 1) 37 Pgr.zero.cs ∧ Below w.heap.size w wr ∧ Hid (upto A0 A1 k = if f then some s else none)) (fun _ i _ => 2 - (intOf i).toNat)
  case atStart => exact ⟨0, false, Sta.zero, by omega, rfl, rfl, Sta.zero_ok, k5, kR5, hB5, hid rfl⟩
  case round =>
    obtain ⟨k, f, s, hk, rfl, rfl, hsok, kP, kR, hbel, HU⟩ := hrel
    clear k5 kR5 hB5
    have hPok := Pgr.com_ok hok0 hsok
    by_cases hlt : k < 2
    · have tk : (k : Int) < 2 := by omega
      go_wp2_with ((with_reducible refine is_load 37 ?_); refine wp_loadP g9 (P0.com s) hPok kP rfl ?_; go_frame)
      refine (HSt.out (P0.com s) k _ hPok HD0.out.1 HD0.out.2.1 HD0.out.2.2.1 hlt hbel).mono ?_
      rintro e w6 ⟨s2, b, rfl, hs2, hx, b6⟩
      rw [HA.out k hlt] at hx
      have HX := hid hx
      clear hx
      replace kP := kP.keep b6
      replace kR := kR.keep b6
      replace hbel := hbel.trans (b6.mono hbel.size)
      have HN : Hid (upto A0 A1 (k + 1) = later13 (if f then some s else none) (if b then some s2 else none)) := hid (by rw [upto_succ A0 A1 k hlt, HU.out, HX.out])
      clear b6 HX HU
      have lP := kP.lt
      have lR := kR.lt
      cases b with
      | false =>
        go_wp2_with (first
          | ((with_reducible refine is_alloc 35 ?_); refine wp_allocB (w := w6) _ arrSta ?_; intro w7 k7 b7 s7; go_frame)
          | ((with_reducible refine is_store 35 ?_); refine wp_storeS w6.heap.size _ s2 hs2 k7 (by rw [Sta.cs_len Sta.zero_ok]) rfl rfl ?_; intro w8 k8 r8; go_frame; have z1 : w8.cell? ⟨w6.heap.size, 1, none⟩ = some (.int .u64 s2.num) := k8.cell 1; have kP8 := (kP.keep b7).grown r8 (by simp; omega); obtain ⟨y0, y1, y2, y3, y4, y5, y6, y7, y8, y9⟩ := Pgr.c10 kP8; have lP8 := kP8.lt; have l8 := k8.lt))
        have kR8 := (kR.keep b7).grown r8 (by simp; omega)
        have hb8 := (hbel.trans (b7.mono hbel.size)).grown r8 (by have := hbel.size; have := b7.size; omega) (fun z hz => by cases hz; exact hbel.size)
        go_roundw
        case measure => simp [intOf]; omega
        case rel => exact ⟨k + 1, f, s, by omega, by go_num, rfl, hsok, kP8, kR8, hb8, hid (by rw [HN.out]; cases f <;> rfl)⟩
      | true =>
        cases f with
        | false =>
          go_wp2_with (first
            | ((with_reducible refine is_alloc 35 ?_); refine wp_allocB (w := w6) _ arrSta ?_; intro w7 k7 b7 s7; go_frame)
            | ((with_reducible refine is_store 35 ?_); refine wp_storeS w6.heap.size _ s2 hs2 k7 (by rw [Sta.cs_len Sta.zero_ok]) rfl rfl ?_; intro w8 k8 r8; go_frame; have z1 : w8.cell? ⟨w6.heap.size, 1, none⟩ = some (.int .u64 s2.num) := k8.cell 1; have kP8 := (kP.keep b7).grown r8 (by simp; omega); obtain ⟨y0, y1, y2, y3, y4, y5, y6, y7, y8, y9⟩ := Pgr.c10 kP8; have lP8 := kP8.lt; have l8 := k8.lt)
            | ((with_reducible refine is_load 35 ?_); refine wp_loadS w6.heap.size s2 hs2 k8 rfl ?_; go_frame)
            | ((with_reducible refine is_store 35 ?_); refine wp_storeO g9 7 _ (P0.com s).cs s2.cs s2.v kP8 rfl (staN.trans (by rw [Sta.cs_len hs2])) (by rw [Sta.cs_len hs2, Pgr.cs_len hPok]; omega) s2.one rfl rfl ?_; intro w9 k9 r9; go_frame))
          have kR8 := (kR.keep b7).grown r8 (by simp; omega)
          have hb8 := (hbel.trans (b7.mono hbel.size)).grown r8 (by have := hbel.size; have := b7.size; omega) (fun z hz => by cases hz; exact hbel.size)
          have hcs : (P0.com s).cs.take 7 ++ s2.cs ++ (P0.com s).cs.drop (7 + s2.cs.length) = (P0.com s2).cs := by
            rw [Sta.cs_len hs2]
            exact Pgr.com_cs hPok s2
          rw [hcs] at k9
          replace kR8 := kR8.grown r9 (by simp; omega)
          replace hb8 := hb8.grown r9 hb8.size (fun z hz => by cases hz; omega)
          go_roundw
          case measure => simp [intOf]; omega
          case rel => exact ⟨k + 1, true, s2, by omega, by go_num, rfl, hs2, k9, kR8, hb8, hid (by rw [HN.out]; rfl)⟩
        | true =>
          by_cases hc : s.num < s2.num
          · have tc : (s2.num : Int) > ((P0.com s).num : Int) := by show (s2.num : Int) > (s.num : Int); omega
            have hcc := hid hc
            clear hc
            go_wp2_with (first
              | ((with_reducible refine is_alloc 35 ?_); refine wp_allocB (w := w6) _ arrSta ?_; intro w7 k7 b7 s7; go_frame)
              | ((with_reducible refine is_store 35 ?_); refine wp_storeS w6.heap.size _ s2 hs2 k7 (by rw [Sta.cs_len Sta.zero_ok]) rfl rfl ?_; intro w8 k8 r8; go_frame; have z1 : w8.cell? ⟨w6.heap.size, 1, none⟩ = some (.int .u64 s2.num) := k8.cell 1; have kP8 := (kP.keep b7).grown r8 (by simp; omega); obtain ⟨y0, y1, y2, y3, y4, y5, y6, y7, y8, y9⟩ := Pgr.c10 kP8; have lP8 := kP8.lt; have l8 := k8.lt)
              | ((with_reducible refine is_load 35 ?_); refine wp_loadS w6.heap.size s2 hs2 k8 rfl ?_; go_frame)
              | ((with_reducible refine is_store 35 ?_); refine wp_storeO g9 7 _ (P0.com s).cs s2.cs s2.v kP8 rfl (staN.trans (by rw [Sta.cs_len hs2])) (by rw [Sta.cs_len hs2, Pgr.cs_len hPok]; omega) s2.one rfl rfl ?_; intro w9 k9 r9; go_frame))
            have kR8 := (kR.keep b7).grown r8 (by simp; omega)
            have hb8 := (hbel.trans (b7.mono hbel.size)).grown r8 (by have := hbel.size; have := b7.size; omega) (fun z hz => by cases hz; exact hbel.size)
            have hcs : (P0.com s).cs.take 7 ++ s2.cs ++ (P0.com s).cs.drop (7 + s2.cs.length) = (P0.com s2).cs := by
              rw [Sta.cs_len hs2]
              exact Pgr.com_cs hPok s2
            rw [hcs] at k9
            replace kR8 := kR8.grown r9 (by simp; omega)
            replace hb8 := hb8.grown r9 hb8.size (fun z hz => by cases hz; omega)
            go_roundw
            case measure => simp [intOf]; omega
            case rel => exact ⟨k + 1, true, s2, by omega, by go_num, rfl, hs2, k9, kR8, hb8, hid (by rw [HN.out]; show (if s.num < s2.num then _ else _) = _; rw [if_pos hcc.out]; rfl)⟩
          · have tc : ¬ (s2.num : Int) > ((P0.com s).num : Int) := by show ¬ (s2.num : Int) > (s.num : Int); omega
            have hcc := hid hc
            clear hc
            go_wp2_with (first
              | ((with_reducible refine is_alloc 35 ?_); refine wp_allocB (w := w6) _ arrSta ?_; intro w7 k7 b7 s7; go_frame)
              | ((with_reducible refine is_store 35 ?_); refine wp_storeS w6.heap.size _ s2 hs2 k7 (by rw [Sta.cs_len Sta.zero_ok]) rfl rfl ?_; intro w8 k8 r8; go_frame; have z1 : w8.cell? ⟨w6.heap.size, 1, none⟩ = some (.int .u64 s2.num) := k8.cell 1; have kP8 := (kP.keep b7).grown r8 (by simp; omega); obtain ⟨y0, y1, y2, y3, y4, y5, y6, y7, y8, y9⟩ := Pgr.c10 kP8; have lP8 := kP8.lt; have l8 := k8.lt))
            have kR8 := (kR.keep b7).grown r8 (by simp; omega)
            have hb8 := (hbel.trans (b7.mono hbel.size)).grown r8 (by have := hbel.size; have := b7.size; omega) (fun z hz => by cases hz; exact hbel.size)
            go_roundw
            case measure => simp [intOf]; omega
            case rel => exact ⟨k + 1, true, s, by omega, by go_num, rfl, hsok, kP8, kR8, hb8, hid (by rw [HN.out]; show (if s.num < s2.num then _ else _) = _; rw [if_neg hcc.out]; rfl)⟩
    · obtain rfl : k = 2 := by omega
      cases f with
      | false =>
        go_wp2_with (first
          | (with_reducible refine wp_buildP0 ?_; go_frame)
          | ((with_reducible refine is_store 37 ?_); refine wp_storeP (w.heap.size + 1) _ Pgr.zero Pgr.zero_ok kR (by rw [Pgr.cs_len Pgr.zero_ok]) rfl rfl ?_; intro w4 k4 r4; go_frame))
        refine bodyPost_ret (results_P2 Tryd.results13 _ _ (w.heap.size + 1) Pgr.zero Pgr.zero_ok rfl k4) rfl ⟨?_, hbel.grown r4 hbel.size (fun g hg => by cases hg; omega)⟩
        rw [HU.out]
        rfl
      | true =>
        have hrange : wr.rangeAt g9 10 ((P0.com s).cu.map byV) := fun j v hv => by
          rw [kP.cell]
          obtain ⟨x, hx, rfl⟩ : ∃ x, (P0.com s).cu[j]? = some x ∧ byV x = v := by
            rw [List.getElem?_map] at hv
            cases hq : (P0.com s).cu[j]? with
            | none => rw [hq] at hv; cases hv
            | some x => rw [hq] at hv; exact ⟨x, rfl, Option.some.inj hv⟩
          exact Pgr.csU _ j x hx
        have hcl : ((P0.com s).cu.map byV).length = 128 := by rw [List.length_map]; exact hPok.cu
        have lP := kP.lt
        go_wp2_with (first
          | ((with_reducible refine is_load 33 ?_); refine wpList_load_mid rfl 33 _ rfl g9 10 rfl _ _ hrange Tryd.underlying33 rfl (bmN.trans (by rw [hcl])) ?_; go_frame)
          | ((with_reducible refine is_store 33 ?_); refine wp_storeO g9 138 _ (P0.com s).cs ((P0.com s).cu.map byV) (.agg ((P0.com s).cu.map byV).toArray) kP rfl (bmN.trans (by rw [hcl])) (by rw [hcl, Pgr.cs_len hPok]; omega) (byV_one _) rfl rfl ?_; intro w4 k4 r4; go_frame; rw [hcl, Pgr.back_cs hPok] at k4; have kR4 := kR.grown r4 (by simp; omega); have hb4 := hbel.grown r4 hbel.size (fun g hg => by cases hg; omega))
          | ((with_reducible refine is_load 37 ?_); refine wp_loadP g9 (P0.com s).back (Pgr.back_ok hPok) k4 rfl ?_; go_frame)
          | ((with_reducible refine is_store 37 ?_); refine wp_storeP (w.heap.size + 1) _ (P0.com s).back (Pgr.back_ok hPok) kR4 (by rw [Pgr.cs_len Pgr.zero_ok]) rfl rfl ?_; intro w5 k5 r5; go_frame))
        refine bodyPost_ret (results_P2 Tryd.results13 _ _ (w.heap.size + 1) _ (Pgr.back_ok hPok) rfl k5) rfl ⟨?_, hb4.grown r5 hb4.size (fun g hg => by cases hg; omega)⟩
        rw [HU.out, HD0.out.2.2.2 s]
        exact ⟨hsok, rfl⟩
end Go.Proofs.YtanglofabkbllaaDoor
set_option linter.unusedSimpArgs false
set_option linter.unusedVariables false
namespace Go.Proofs.YtanglofabkbllaaDoor
open Go.RowKit

section
variable {ops : Array Oper} {rest : List Oper} {Q : Exit → Act → World → Prop} {a : Act} {w : World} {ty : TypeId} {ps : String} {af : Array Edge} {d : Option Tmp} {x y z : Operand}
theorem builtS1 : Tryd.prog.built 35 [(1, .int .u64 1)] = some (Sta.mk 0 1 [] zeros128).cs.toArray := by kernel_rfl
theorem wp_buildS1 (h : wpList Tryd.prog ops Q rest (a.put d (Sta.mk 0 1 [] zeros128).v) w) : wpList Tryd.prog ops Q (⟨d, Op.build 35 #[(1, .const (.int .u64 1))], ty, ps, af, none⟩ :: rest) a w := by
  have e : ∀ l : List (Nat × Value), l = [(1, .int .u64 1)] → Tryd.prog.built 35 l = some (Sta.mk 0 1 [] zeros128).cs.toArray := by
    rintro l rfl
    exact builtS1
  refine wpList_build rfl 35 _ rfl (by rw [e _ (by simp [Act.eval])]; simp) ?_
  rw [e _ (by simp [Act.eval])]
  exact h
theorem builtP4 (sec pgs : Int) : Tryd.prog.built 37 [(1, .int .i64 sec), (2, .int .i64 pgs), (3, (Sta.mk 0 1 [] zeros128).v)] =
    some ([Value.int .i64 0, Value.pointer none, Value.pointer none, Value.pointer none, Value.int .i64 0, Value.int .i64 sec, Value.int .i64 pgs, Value.int .i64 0, Value.int .u64 1, Value.string ⟨#[]⟩] ++ (zeros128.map byV ++ zeros128.map byV)).toArray := by kernel_rfl
theorem wp_buildP4 (sec pgs : Nat) (hx : a.eval x = .int .i64 sec) (hy : a.eval y = .int .i64 pgs) (hz : a.eval z = (Sta.mk 0 1 [] zeros128).v) (h : wpList Tryd.prog ops Q rest (a.put d (Pgr.mk DV.zero sec pgs 0 1 [] zeros128 zeros128).v) w) : wpList Tryd.prog ops Q (⟨d, Op.build 37 #[(1, x), (2, y), (3, z)], ty, ps, af, none⟩ :: rest) a w := by
  have e : ∀ l : List (Nat × Value), l = [(1, .int .i64 sec), (2, .int .i64 pgs), (3, (Sta.mk 0 1 [] zeros128).v)] → Tryd.prog.built 37 l = some (Pgr.mk DV.zero sec pgs 0 1 [] zeros128 zeros128).cs.toArray := by
    rintro l rfl
    exact builtP4 _ _
  refine wpList_build rfl 37 _ rfl (by rw [e _ (by simp [hx, hy, hz])]; simp) ?_
  rw [e _ (by simp [hx, hy, hz])]
  exact h
end
theorem Pg.ok.keep {W W' : World} {p : Pg} (h : p.ok W) (hb : Below W.heap.size W W') : p.ok W' := h.below hb
/-- a pager on another disk -/
def Pgr.on (p : Pgr) (d : DV) : Pgr := { p with d := d }
theorem Pgr.on_ok {p : Pgr} (h : p.ok) (d : DV) : (p.on d).ok := ⟨h.cu, h.nu, h.sec, h.pgs, h.num, h.mt⟩
theorem Pgr.on_cs (p : Pgr) (d : DV) : p.cs.take 0 ++ d.cs ++ p.cs.drop (0 + 5) = (p.on d).cs := by
  unfold Pgr.cs Pgr.on DV.cs
  rfl
theorem staN1 : (Tryd.prog.info? 35).map (·.size) = some (Sta.mk 0 1 [] zeros128).cs.length := staN
/-- the committed state's cells -/
theorem Pgr.sta_range {p : Pgr} {w : World} {g : Nat} (h : p.ok) (hk : Blk w g 37 p.cs) : w.rangeAt g 7 (Sta.mk p.root p.num p.mt p.cu).cs := fun j v hv => by
  rw [hk.cell]
  have e : p.cs = [.int .i64 p.d.n, .pointer p.d.s, .pointer p.d.c, .pointer p.d.l, .int .i64 p.d.m, .int .i64 p.sec, .int .i64 p.pgs] ++ ((Sta.mk p.root p.num p.mt p.cu).cs ++ p.nu.map byV) := by
    unfold Pgr.cs Sta.cs stCs
    simp
  rw [e, List.getElem?_append_right (by simp), show 7 + j - _ = j by simp, List.getElem?_append_left (List.getElem?_eq_some_iff.1 hv).1]
  exact hv
/-- the disk with a new store -/
def Dk.fresh (D : Dk) (sec : Nat) : Dk := (put (D.write sec zero128) (sec + 8) (encoded 0 1 2 (rootBody 0 [] zeros128)) 8).sync
set_option maxRecDepth 100000 in
set_option maxHeartbeats 4000000 in
theorem pcreate_bad (d : DV) (sec pgs : Int) (w : World) (hn : d.n ≤ 16384) (h : regE d.n sec pgs ≠ 0) :
    Calls Tryd.prog 12 #[d.v, .int .i64 sec, .int .i64 pgs] w fun e w' => e = .returned (.tuple #[Pgr.zero.v, .int .i64 (regE d.n sec pgs)]) ∧ Below w.heap.size w w' := by
  have HR := hid (fun wx => region_any d sec pgs wx hn)
  obtain ⟨er, her⟩ : ∃ z, regE d.n sec pgs = z := ⟨_, rfl⟩
  rw [her] at HR h ⊢
  clear her
  have tb : (er != 0) = true := by rw [bne_iff_ne]; exact h
  rw [show d.v = Value.agg #[.int .i64 d.n, .pointer d.s, .pointer d.c, .pointer d.l, .int .i64 d.m] from rfl] at HR ⊢
  go_enter Tryd.func12, Tryd.ntmps12
  have hP : Blk (w.alloc (.cells d.cs.toArray 27)) w.heap.size 27 d.cs := Blk.new w _ _
  have hB : Below w.heap.size w (w.alloc (.cells d.cs.toArray 27)) := (Below.refl _ _).alloc (Nat.le_refl _) _
  have hs : (w.alloc (.cells d.cs.toArray 27)).heap.size = w.heap.size + 1 := by simp
  go_wp2_with ((with_reducible refine is_alloc 37 ?_); refine wp_allocN (w.heap.size + 1) hs _ arrPgr ?_; intro w2 k2 b2 s2; go_frame; obtain ⟨x0, x1, x2, x3, x4⟩ := (hP.below b2 (by omega)).c5; have l0 := (hP.below b2 (by omega)).lt)
  have hB2 := hB.trans (b2.mono (by omega))
  refine (HR.out _).mono ?_
  rintro e w3 ⟨rfl, b3⟩
  have k3 := k2.keep b3
  have hB3 := hB2.trans (b3.mono hB2.size)
  clear k2 hB2 b3 hP hB b2 x0 x1 x2 x3 x4 l0
  go_wp2_with (first
    | (with_reducible refine wp_buildP0 ?_; go_frame)
    | ((with_reducible refine is_store 37 ?_); refine wp_storeP (w.heap.size + 1) _ Pgr.zero Pgr.zero_ok k3 (by rw [Pgr.cs_len Pgr.zero_ok]) rfl rfl ?_; intro w4 k4 r4; go_frame))
  refine bodyPost_ret (results_P2 Tryd.results12 _ _ (w.heap.size + 1) Pgr.zero Pgr.zero_ok rfl k4) rfl ⟨rfl, hB3.grown r4 hB3.size (fun g hg => by cases hg; omega)⟩
set_option maxRecDepth 100000 in
set_option maxHeartbeats 8000000 in
theorem pcreate_good (d : DV) (D : Dk) (sec pgs : Nat) (w : World) (hd : DkV w d D) (hT : Tab w) (h1 : 1 ≤ pgs) (h2 : pgs ≤ 1023) (h3 : sec + 8 * (pgs + 2) ≤ D.n) (hDW : D.W.length ≤ 900000) :
    Calls Tryd.prog 12 #[d.v, .int .i64 sec, .int .i64 pgs] w fun e w' => ∃ d' : DV, e = .returned (.tuple #[(Pgr.mk d' sec pgs 0 1 [] zeros128 zeros128).v, .int .i64 0]) ∧ DkV w' d' (D.fresh sec) ∧ Below w.heap.size w w' := by
  have hdn := hd.hn
  have hnn := hd.n
  have HR := hid (fun wx => region_any d sec pgs wx (by omega))
  rw [regE_in h1 h2 (by omega)] at HR
  have HDk := hid hd
  have HTb := hid hT
  clear hd hT
  have hsec : sec ≤ 16384 := by omega
  have HLim : Hid (sec + 8 * (pgs + 2) ≤ D.n ∧ D.W.length ≤ 900000) := hid ⟨h3, hDW⟩
  clear h3 hdn hnn hDW
  have edv : d.v = Value.agg #[.int .i64 d.n, .pointer d.s, .pointer d.c, .pointer d.l, .int .i64 d.m] := rfl
  rw [edv] at HR ⊢
  clear edv
  go_enter Tryd.func12, Tryd.ntmps12
  have hP : Blk (w.alloc (.cells d.cs.toArray 27)) w.heap.size 27 d.cs := Blk.new w _ _
  have hB : Below w.heap.size w (w.alloc (.cells d.cs.toArray 27)) := (Below.refl _ _).alloc (Nat.le_refl _) _
  have hs : (w.alloc (.cells d.cs.toArray 27)).heap.size = w.heap.size + 1 := by simp
  go_wp2_with ((with_reducible refine is_alloc 37 ?_); refine wp_allocN (w.heap.size + 1) hs _ arrPgr ?_; intro w2 k2 b2 s2; go_frame; obtain ⟨x0, x1, x2, x3, x4⟩ := (hP.below b2 (by omega)).c5; have l0 := (hP.below b2 (by omega)).lt)
  have hP2 := hP.below b2 (by omega)
  have hB2 := hB.trans (b2.mono (by omega))
  refine (HR.out _).mono ?_
  rintro e w3 ⟨rfl, b3⟩
  have k3 := k2.keep b3
  have hP3 := hP2.keep b3
  have hB3 := hB2.trans (b3.mono hB2.size)
  have hs3 : w.heap.size + 1 < w3.heap.size := k3.lt
  clear k2 hB2 b3 hP hB b2 x0 x1 x2 x3 x4 l0 hP2 hs s2 HR
  have hP1 : (Pgr.mk DV.zero sec pgs 0 1 [] zeros128 zeros128).ok := ⟨by simp [zeros128], by simp [zeros128], hsec, h2, by simp, by simp⟩
  obtain ⟨g9, hg9⟩ : ∃ z, w3.heap.size = z := ⟨_, rfl⟩
  go_wp2_with (first
    | (with_reducible refine wp_buildS1 ?_; go_frame)
    | (with_reducible refine wp_buildP4 sec pgs rfl rfl rfl ?_; go_frame)
    | ((with_reducible refine is_alloc 37 ?_); refine wp_allocN g9 hg9 _ arrPgr ?_; intro w4 k4 b4 s4; go_frame)
    | ((with_reducible refine is_store 37 ?_); refine wp_storeP g9 _ (Pgr.mk DV.zero sec pgs 0 1 [] zeros128 zeros128) hP1 k4 (by rw [Pgr.cs_len Pgr.zero_ok]) rfl rfl ?_; intro wa k5 r5; go_frame))
  have kR5 := (k3.below b4 (by omega)).grown r5 (by simp; omega)
  have kd := (hP3.below b4 (by omega)).grown r5 (by simp; omega)
  have hB4 := hB3.trans (b4.mono (by omega))
  have hB5 := hB4.grown r5 hB4.size (fun z hz => by cases hz; omega)
  clear hP3 k3 b4 s4 hB3 hB4 k4 r5
  obtain ⟨P1, hPe⟩ : ∃ z, z = Pgr.mk DV.zero sec pgs 0 1 [] zeros128 zeros128 := ⟨_, rfl⟩
  rw [← hPe] at k5 hP1
  have HP1 := hid hPe
  clear hPe
  have hg91 : w.heap.size + 1 < g9 := by omega
  clear hg9 hs3
  have HW : Hid (∀ wx A, Below wa.heap.size wa wx → RB wx A 128 zero128 → Calls Tryd.prog 22 #[d.v, .int .i64 sec, .slice A 128 128] wx fun e w' => ∃ d' : DV, e = .returned (.tuple #[d'.v, .int .i64 0]) ∧ DkV w' d' (D.write sec zero128) ∧ Below wx.heap.size wx w') := hid fun wx A hb hr =>
    write_good d D A 128 zero128 sec wx (HDk.out.keep (hB5.trans (hb.mono hB5.size))) (by have := HLim.out; omega) hr (by have := HLim.out; omega)
  obtain ⟨DN, hDN⟩ : ∃ z, D.write sec zero128 = z := ⟨_, rfl⟩
  rw [hDN] at HW
  have HDN := hid hDN
  clear hDN
  have l3 := kd.lt
  have l9 := k5.lt
  refine wp_region_headF 43 7 [23, 24, 25, 26, 22, 27, 28] [6] ((fun kq => ([fun u w' => u = d.v, fun u w' => u = .int .i64 sec, fun u w' => ∃ (gz : Nat), u = .slice (some ⟨gz, 0, none⟩) 128 128 ∧ RB w' (some ⟨gz, 0, none⟩) 128 zero128, fun u w' => ∃ (dx : DV), u = .tuple #[dx.v, .int .i64 0] ∧ DkV w' dx DN, fun u w' => ∃ (dx : DV), u = .tuple #[dx.v, .int .i64 0] ∧ DkV w' dx DN, fun u w' => ∃ (dx : DV), u = dx.v ∧ DkV w' dx DN, fun u w' => u = .int .i64 0] : List (Value → World → Prop)).getD kq (fun _ _ => True))) (by kernel_rfl) rfl (by kernel_rfl) ?grow ?step ?tail
  case step =>
    simp only [List.take_succ_cons, List.take_zero]
    refine HSteps.cons ?_ ?_
    · intro f w' hb hU
      obtain ⟨x0', x1', x2', x3', x4'⟩ := (kd.keep hb).c5
      simp only [putAll, List.foldl_cons, List.foldl_nil]
      go_frame
      go_wp2_with fail
      exact ⟨rfl, _, rfl, Below.refl _ _, rfl⟩
    refine HSteps.cons ?_ ?_
    · intro f w' hb hU
      simp only [putAll, List.foldl_cons, List.foldl_nil]
      go_frame
      go_wp2_with fail
      exact ⟨rfl, _, rfl, Below.refl _ _, rfl⟩
    refine HSteps.cons ?_ ?_
    · intro f w' hb hU
      simp only [putAll, List.foldl_cons, List.foldl_nil]
      go_frame
      go_wp2_with (at_make; refine wp_make _ rfl _ _ 40 rfl w'.heap.size 5 _ 1 bytesT rfl .i64 .i64 _ _ 128 rfl rfl rfl rfl (by omega) (by unfold maxLen; omega) (Nat.le_refl _) ?_; intro w5 hown5 r5; go_frame)
      exact ⟨rfl, _, rfl, ((Below.refl _ _).grown r5 (Nat.le_refl _) (fun k hk => by cases hk)), _, rfl, (by have := RL.of_own hown5; rw [byV_zeros] at this; exact this)⟩
    refine HSteps.cons ?_ ?_
    · intro f w' hb hU
      obtain u0 : f 23 = d.v := hU.get ⟨0, .data⟩ (by simp) rfl
      obtain u1 : f 24 = .int .i64 sec := hU.get ⟨1, .data⟩ (by simp) rfl
      obtain ⟨gz, u2, v2_0⟩ : ∃ (gz : Nat), f 25 = .slice (some ⟨gz, 0, none⟩) 128 128 ∧ RB w' (some ⟨gz, 0, none⟩) 128 zero128 := hU.get ⟨2, .data⟩ (by simp) rfl
      simp only [putAll, List.foldl_cons, List.foldl_nil]
      go_frame
      try simp only [u0, u1, u2]
      go_wp2_with fail
      refine (HW.out w' _ hb v2_0).mono ?_
      rintro e w3 ⟨dx, rfl, hdx, b3⟩
      go_wp2_with fail
      exact ⟨rfl, _, rfl, b3, dx, rfl, hdx⟩
    refine HSteps.cons ?_ ?_
    · intro f w' hb hU
      obtain ⟨dx, u3, v3_0⟩ : ∃ (dx : DV), f 26 = .tuple #[dx.v, .int .i64 0] ∧ DkV w' dx DN := hU.get ⟨3, .data⟩ (by simp) rfl
      simp only [putAll, List.foldl_cons, List.foldl_nil]
      go_frame
      try simp only [u3]
      go_wp2_with fail
      exact ⟨rfl, _, rfl, Below.refl _ _, dx, rfl, v3_0⟩
    refine HSteps.cons ?_ ?_
    · intro f w' hb hU
      obtain ⟨dx, u4, v4_0⟩ : ∃ (dx : DV), f 22 = .tuple #[dx.v, .int .i64 0] ∧ DkV w' dx DN := hU.get ⟨4, .data⟩ (by simp) rfl
      simp only [putAll, List.foldl_cons, List.foldl_nil]
      go_frame
      try simp only [u4]
      go_wp2_with fail
      exact ⟨rfl, _, rfl, Below.refl _ _, dx, rfl, v4_0⟩
    refine HSteps.cons ?_ ?_
    · intro f w' hb hU
      obtain ⟨dx, u4, v4_0⟩ : ∃ (dx : DV), f 22 = .tuple #[dx.v, .int .i64 0] ∧ DkV w' dx DN := hU.get ⟨4, .data⟩ (by simp) rfl
      simp only [putAll, List.foldl_cons, List.foldl_nil]
      go_frame
      try simp only [u4]
      go_wp2_with fail
      exact ⟨rfl, _, rfl, Below.refl _ _, rfl⟩
    exact HSteps.nil
  case grow =>
    intro kq u wa wb hb hu
    rcases kq with _ | _ | _ | _ | _ | _ | _ | kq
    · exact hu
    · exact hu
    · obtain ⟨gz, ue, uf0⟩ := hu
      exact ⟨gz, ue, uf0.below hb⟩
    · obtain ⟨dx, ue, uf0⟩ := hu
      exact ⟨dx, ue, uf0.keep hb⟩
    · obtain ⟨dx, ue, uf0⟩ := hu
      exact ⟨dx, ue, uf0.keep hb⟩
    · obtain ⟨dx, ue, uf0⟩ := hu
      exact ⟨dx, ue, uf0.keep hb⟩
    · exact hu
    · trivial
  case tail =>
    intro f w7 hb7 hU
    obtain ⟨dx, u5, v5_0⟩ : ∃ (dx : DV), f 27 = dx.v ∧ DkV w7 dx DN := hU.get 5 (by decide)
    simp only [List.drop_succ_cons, List.drop_zero, putAll, List.foldl_cons, List.foldl_nil]
    go_frame
    simp only [u5]
    clear u5
    clear hU
    replace kR5 := kR5.keep hb7
    replace kd := kd.keep hb7
    replace k5 := k5.keep hb7
    have hB6 := hB5.trans (hb7.mono hB5.size)
    clear hB5 hb7 HW l3 l9
    go_wp2_with ((with_reducible refine is_store 27 ?_); refine wp_storeB w.heap.size _ _ dx.cs kd diskN rfl (dv_one _) rfl rfl ?_; intro w8 kd6 r8; go_frame)
    refine noPanic_ok ?_
    have hd8 := v5_0.kept (Kept.grown r8 kd notDk)
    replace kR5 := kR5.grown r8 (by simp)
    have kP6 := k5.grown r8 (by simp; omega)
    have hB8 := hB6.grown r8 hB6.size (fun z hz => by cases hz; omega)
    clear kd k5 hB6 r8 v5_0
    obtain ⟨PL, hPL⟩ : ∃ z, sec + 8 = z := ⟨_, rfl⟩
    have HPL := hid hPL
    clear hPL
    have HSl : Hid (∀ wx, Calls Tryd.prog 42 #[P1.v, .int .u64 1] wx fun e w' => e = .returned (.int .i64 (PL : Int)) ∧ Below wx.heap.size wx w') := hid fun wx => by
      have := slot_any P1 1 wx hP1 (by omega)
      rw [show P1.sec + 8 * (1 % 2) = PL by rw [HP1.out, ← HPL.out]] at this
      exact this
    have HRg : Hid (∀ wx, Blk wx g9 37 P1.cs → wx.rangeAt g9 7 (Sta.mk 0 1 [] zeros128).cs) := hid fun wx h => by
      have := Pgr.sta_range hP1 h
      rwa [show (Sta.mk P1.root P1.num P1.mt P1.cu) = Sta.mk 0 1 [] zeros128 by rw [HP1.out]] at this
    obtain ⟨RB0, hRB0⟩ : ∃ z, rootBody 0 [] zeros128 = z := ⟨_, rfl⟩
    have HRp : Hid (∀ wx, Calls Tryd.prog 43 #[(Sta.mk 0 1 [] zeros128).v] wx fun e w' => ∃ q : Pg, e = .returned q.v ∧ q.ok w' ∧ q.id = 0 ∧ q.stamp = 1 ∧ q.kind = 2 ∧ q.l = RB0 ∧ Below wx.heap.size wx w') := hid fun wx => by
      have := rootPage_any 0 1 [] zeros128 wx (by omega) (by omega) (by simp) (by simp [zeros128])
      rw [hRB0] at this
      exact this
    have hRl : RB0.length = 236 := by rw [← hRB0, rootBody_len]; simp [zeros128]
    have HRl := hid hRl
    have HRB := hid hRB0
    clear hRB0 hRl
    obtain ⟨DM, hDM⟩ : ∃ z, put DN PL (encoded 0 1 2 RB0) 8 = z := ⟨_, rfl⟩
    have HPw : Hid (∀ wx (q : Pg), Below w8.heap.size w8 wx → q.ok wx → (q.id = 0 ∧ q.stamp = 1 ∧ q.kind = 2 ∧ q.l = RB0) → Calls Tryd.prog 41 #[dx.v, .int .i64 (PL : Int), q.v] wx fun e w' => ∃ d' : DV, e = .returned (.tuple #[d'.v, .int .i64 0]) ∧ DkV w' d' DM ∧ Below wx.heap.size wx w') := hid fun wx q hb hq ⟨q1, q2, q3, q4⟩ => by
      have hql := hq.rb.len
      rw [q4, HRl.out] at hql
      have := pwrite_good dx DN q PL wx (HTb.out.keep (hB8.trans (hb.mono hB8.size))) (hd8.keep hb) hq 0 2 q1 (by omega) q3 (by omega) (by omega) (by rw [← HDN.out]; have := HLim.out; have := HPL.out; show _ ≤ D.n; omega) (by rw [← HDN.out]; have := HLim.out; show D.W.length + 1 ≤ _; omega)
      rw [q2, q4, hDM] at this
      exact this
    have HDM := hid hDM
    clear hDM hd8
    have l3 := kd6.lt
    have l9 := kP6.lt
    go_wp2_with fail
    refine wp_region_headF 43 10 [30, 31, 32, 33, 34, 35, 36, 29, 37, 38] [9] ((fun kq => ([fun u w' => u = dx.v, fun u w' => u = P1.v, fun u w' => u = .int .i64 (PL : Int), fun u w' => u = .pointer (some ⟨g9, 7, none⟩), fun u w' => u = (Sta.mk 0 1 [] zeros128).v, fun u w' => ∃ (q : Pg), u = q.v ∧ q.ok w' ∧ q.id = 0 ∧ q.stamp = 1 ∧ q.kind = 2 ∧ q.l = RB0, fun u w' => ∃ (dy : DV), u = .tuple #[dy.v, .int .i64 0] ∧ DkV w' dy DM, fun u w' => ∃ (dy : DV), u = .tuple #[dy.v, .int .i64 0] ∧ DkV w' dy DM, fun u w' => ∃ (dy : DV), u = dy.v ∧ DkV w' dy DM, fun u w' => u = .int .i64 0] : List (Value → World → Prop)).getD kq (fun _ _ => True))) (by kernel_rfl) rfl (by kernel_rfl) ?grow ?step ?tail
    case step =>
      simp only [List.take_succ_cons, List.take_zero]
      refine HSteps.cons ?_ ?_
      · intro f w' hb hU
        obtain ⟨x0', x1', x2', x3', x4'⟩ := (kd6.keep hb).c5
        simp only [putAll, List.foldl_cons, List.foldl_nil]
        go_frame
        go_wp2_with fail
        exact ⟨rfl, _, rfl, Below.refl _ _, rfl⟩
      refine HSteps.cons ?_ ?_
      · intro f w' hb hU
        simp only [putAll, List.foldl_cons, List.foldl_nil]
        go_frame
        go_wp2_with ((with_reducible refine is_load 37 ?_); refine wp_loadP g9 P1 hP1 (kP6.keep hb) rfl ?_; go_frame)
        exact ⟨rfl, _, rfl, Below.refl _ _, rfl⟩
      refine HSteps.cons ?_ ?_
      · intro f w' hb hU
        obtain u1 : f 31 = P1.v := hU.get ⟨1, .data⟩ (by simp) rfl
        simp only [putAll, List.foldl_cons, List.foldl_nil]
        go_frame
        try simp only [u1]
        go_wp2_with fail
        refine (HSl.out w').mono ?_
        rintro e w3 ⟨rfl, b3⟩
        go_wp2_with fail
        exact ⟨rfl, _, rfl, b3, rfl⟩
      refine HSteps.cons ?_ ?_
      · intro f w' hb hU
        simp only [putAll, List.foldl_cons, List.foldl_nil]
        go_frame
        go_wp2_with fail
        exact ⟨rfl, _, rfl, Below.refl _ _, rfl⟩
      refine HSteps.cons ?_ ?_
      · intro f w' hb hU
        obtain u3 : f 33 = .pointer (some ⟨g9, 7, none⟩) := hU.get ⟨3, .data⟩ (by simp) rfl
        simp only [putAll, List.foldl_cons, List.foldl_nil]
        go_frame
        try simp only [u3]
        go_wp2_with ((with_reducible refine is_load 35 ?_); refine wpList_load_mid rfl 35 _ rfl g9 7 rfl _ _ (HRg.out _ (kP6.keep hb)) Tryd.underlying35 rfl staN1 ?_; go_frame)
        exact ⟨rfl, _, rfl, Below.refl _ _, rfl⟩
      refine HSteps.cons ?_ ?_
      · intro f w' hb hU
        obtain u4 : f 34 = (Sta.mk 0 1 [] zeros128).v := hU.get ⟨4, .data⟩ (by simp) rfl
        obtain u2 : f 32 = .int .i64 (PL : Int) := hU.get ⟨2, .chain⟩ (by simp) rfl
        simp only [putAll, List.foldl_cons, List.foldl_nil]
        go_frame
        try simp only [u4, u2]
        go_wp2_with fail
        refine (HRp.out w').mono ?_
        rintro e w3 ⟨q, rfl, hq, q1, q2, q3, q4, b3⟩
        go_wp2_with fail
        exact ⟨rfl, _, rfl, b3, q, rfl, hq, ⟨q1, q2, q3, q4⟩⟩
      refine HSteps.cons ?_ ?_
      · intro f w' hb hU
        obtain u0 : f 30 = dx.v := hU.get ⟨0, .data⟩ (by simp) rfl
        obtain u2 : f 32 = .int .i64 (PL : Int) := hU.get ⟨2, .data⟩ (by simp) rfl
        obtain ⟨q, u5, v5_0, v5_1⟩ : ∃ (q : Pg), f 35 = q.v ∧ q.ok w' ∧ q.id = 0 ∧ q.stamp = 1 ∧ q.kind = 2 ∧ q.l = RB0 := hU.get ⟨5, .data⟩ (by simp) rfl
        simp only [putAll, List.foldl_cons, List.foldl_nil]
        go_frame
        try simp only [u0, u2, u5]
        go_wp2_with fail
        refine (HPw.out w' q hb v5_0 v5_1).mono ?_
        rintro e w3 ⟨dy, rfl, hdy, b3⟩
        go_wp2_with fail
        exact ⟨rfl, _, rfl, b3, dy, rfl, hdy⟩
      refine HSteps.cons ?_ ?_
      · intro f w' hb hU
        obtain ⟨dy, u6, v6_0⟩ : ∃ (dy : DV), f 36 = .tuple #[dy.v, .int .i64 0] ∧ DkV w' dy DM := hU.get ⟨6, .data⟩ (by simp) rfl
        simp only [putAll, List.foldl_cons, List.foldl_nil]
        go_frame
        try simp only [u6]
        go_wp2_with fail
        exact ⟨rfl, _, rfl, Below.refl _ _, dy, rfl, v6_0⟩
      refine HSteps.cons ?_ ?_
      · intro f w' hb hU
        obtain ⟨dy, u7, v7_0⟩ : ∃ (dy : DV), f 29 = .tuple #[dy.v, .int .i64 0] ∧ DkV w' dy DM := hU.get ⟨7, .data⟩ (by simp) rfl
        simp only [putAll, List.foldl_cons, List.foldl_nil]
        go_frame
        try simp only [u7]
        go_wp2_with fail
        exact ⟨rfl, _, rfl, Below.refl _ _, dy, rfl, v7_0⟩
      refine HSteps.cons ?_ ?_
      · intro f w' hb hU
        obtain ⟨dy, u7, v7_0⟩ : ∃ (dy : DV), f 29 = .tuple #[dy.v, .int .i64 0] ∧ DkV w' dy DM := hU.get ⟨7, .data⟩ (by simp) rfl
        simp only [putAll, List.foldl_cons, List.foldl_nil]
        go_frame
        try simp only [u7]
        go_wp2_with fail
        exact ⟨rfl, _, rfl, Below.refl _ _, rfl⟩
      exact HSteps.nil
    case grow =>
      intro kq u wa wb hb hu
      rcases kq with _ | _ | _ | _ | _ | _ | _ | _ | _ | _ | kq
      · exact hu
      · exact hu
      · exact hu
      · exact hu
      · exact hu
      · obtain ⟨q, ue, uf0, uf1⟩ := hu
        exact ⟨q, ue, uf0.keep hb, uf1⟩
      · obtain ⟨dy, ue, uf0⟩ := hu
        exact ⟨dy, ue, uf0.keep hb⟩
      · obtain ⟨dy, ue, uf0⟩ := hu
        exact ⟨dy, ue, uf0.keep hb⟩
      · obtain ⟨dy, ue, uf0⟩ := hu
        exact ⟨dy, ue, uf0.keep hb⟩
      · exact hu
      · trivial
    case tail =>
      intro f w7 hb7 hU
      obtain ⟨dy, u8, v8_0⟩ : ∃ (dy : DV), f 37 = dy.v ∧ DkV w7 dy DM := hU.get 8 (by decide)
      simp only [List.drop_succ_cons, List.drop_zero, putAll, List.foldl_cons, List.foldl_nil]
      go_frame
      simp only [u8]
      clear u8
      clear hU
      replace kR5 := kR5.keep hb7
      replace kd6 := kd6.keep hb7
      replace kP6 := kP6.keep hb7
      have hB9 := hB8.trans (hb7.mono hB8.size)
      clear hB8 hb7 HPw HRp HSl HRg l3 l9
      go_wp2_with ((with_reducible refine is_store 27 ?_); refine wp_storeB w.heap.size _ _ dy.cs kd6 diskN rfl (dv_one _) rfl rfl ?_; intro w10 kd10 r10; go_frame)
      refine noPanic_ok ?_
      have hd10 := v8_0.kept (Kept.grown r10 kd6 notDk)
      replace kR5 := kR5.grown r10 (by simp)
      have kP10 := kP6.grown r10 (by simp; omega)
      have hB10 := hB9.grown r10 hB9.size (fun z hz => by cases hz; omega)
      clear kd6 kP6 hB9 r10 v8_0
      obtain ⟨x0, x1, x2, x3, x4⟩ := kd10.c5
      have l3 := kd10.lt
      have R := sync_any dy w10
      dsimp only [DV.v] at R
      go_wp2_with fail
      refine R.mono ?_
      clear R
      rintro e w11 ⟨rfl, b11⟩
      have hd11 := (hd10.keep b11).sync
      replace kR5 := kR5.keep b11
      have kP11 := kP10.keep b11
      have hB11 := hB10.trans (b11.mono hB10.size)
      have hlen : (P1.on dy.sync).ok := Pgr.on_ok hP1 _
      clear kd10 kP10 hB10 b11 x0 x1 x2 x3 x4 l3 hd10
      have hcs := Pgr.on_cs P1 dy.sync
      have l9 := kP11.lt
      go_wp2_with (first
        | ((with_reducible refine is_store 27 ?_); refine wp_storeO g9 0 _ P1.cs dy.sync.cs dy.sync.v kP11 rfl (diskN.trans rfl) (by rw [Pgr.cs_len hP1]; show 0 + 5 ≤ _; omega) (dv_one _) rfl rfl ?_; intro w12 k12 r12; go_frame; rw [show dy.sync.cs.length = 5 from rfl, hcs] at k12)
        | ((with_reducible refine is_load 37 ?_); refine wp_loadP g9 (P1.on dy.sync) hlen k12 rfl ?_; go_frame)
        | ((with_reducible refine is_store 37 ?_); refine wp_storeP (w.heap.size + 1) _ (P1.on dy.sync) hlen (kR5.grown r12 (by simp; omega)) (by rw [Pgr.cs_len Pgr.zero_ok]) rfl rfl ?_; intro w13 k13 r13; go_frame))
      have kR12 := kR5.grown r12 (by simp; omega)
      have hB12 := hB11.grown r12 hB11.size (fun g hg => by cases hg; omega)
      have hd12 := hd11.kept (Kept.grown r12 kP11 (by unfold dkT; decide))
      have hd13 := hd12.kept (Kept.grown r13 kR12 (by unfold dkT; decide))
      refine bodyPost_ret (results_P2 Tryd.results12 _ _ (w.heap.size + 1) _ hlen rfl k13) rfl ⟨dy.sync, ?_, ?_, hB12.grown r13 hB12.size (fun g hg => by cases hg; omega)⟩
      · rw [HP1.out]
        rfl
      · rw [← HDM.out, ← HDN.out, ← HPL.out, ← HRB.out] at hd13
        exact hd13
end Go.Proofs.YtanglofabkbllaaDoor
set_option linter.unusedSimpArgs false
set_option linter.unusedVariables false
namespace Go.Proofs.YtanglofabkbllaaDoor
open Go.RowKit

/-- a page that neither the committed state nor the current one uses -/
def Pgr.idle (p : Pgr) (id : Nat) : Prop := 1 ≤ id ∧ id ≤ p.pgs ∧ bit p.nu id = false ∧ bit p.cu id = false
/-- the first such page -/
def Pgr.first (p : Pgr) (id : Nat) : Prop := p.idle id ∧ ∀ j, p.idle j → id ≤ j
set_option maxRecDepth 100000 in
set_option maxHeartbeats 4000000 in
theorem alloc_long (p : Pgr) (A : Option Addr) (n c : Nat) (w : World) (hp : p.ok) (hn : 1000 < n) :
    Calls Tryd.prog 15 #[p.v, .slice A n c] w fun e w' => e = .returned (.tuple #[p.v, .int .i64 0, .int .i64 13]) ∧ Below w.heap.size w w' := by
  have t1 : (n : Int) > 1000 := by omega
  go_enter Tryd.func15, Tryd.ntmps15
  unfold Pgr.v
  have hP : Blk (w.alloc (.cells p.cs.toArray 37)) w.heap.size 37 p.cs := Blk.new w _ _
  have hB : Below w.heap.size w (w.alloc (.cells p.cs.toArray 37)) := (Below.refl _ _).alloc (Nat.le_refl _) _
  have hs : (w.alloc (.cells p.cs.toArray 37)).heap.size = w.heap.size + 1 := by simp
  go_wp2_with (first
    | ((with_reducible refine is_alloc 37 ?_); refine wp_allocN (w.heap.size + 1) hs _ arrPgr ?_; intro w2 k2 b2 s2; go_frame; have kP := hP.below b2 (by omega); have hB2 := hB.trans (b2.mono (by omega)); clear hP hB)
    | ((with_reducible refine is_load 37 ?_); refine wp_loadP w.heap.size p hp kP rfl ?_; go_frame)
    | ((with_reducible refine is_store 37 ?_); refine wp_storeP (w.heap.size + 1) _ p hp k2 (by rw [Pgr.cs_len Pgr.zero_ok]) rfl rfl ?_; intro w4 k4 r4; go_frame))
  refine bodyPost_ret (results_P3 Tryd.results15 _ _ (w.heap.size + 1) p hp rfl k4) rfl ⟨rfl, hB2.grown r4 hB2.size (fun g hg => by cases hg; omega)⟩
set_option maxRecDepth 100000 in
set_option maxHeartbeats 8000000 in
theorem alloc_any (p : Pgr) (D : Dk) (A : Option Addr) (n c : Nat) (l : List UInt8) (w : World) (hp : p.ok) (hT : Tab w) (hd : DkV w p.d D) (hl : RB w A n l) (hn : n ≤ 1000) (hnc : n ≤ c) (hcm : c ≤ 9223372036854775807) (hnum : p.num + 1 < 18446744073709551616) (hD : p.sec + 8 * (p.pgs + 2) ≤ D.n) (hDW : D.W.length ≤ 900000) :
    Calls Tryd.prog 15 #[p.v, .slice A n c] w fun e w' => (((∀ id, ¬ p.idle id) ∧ e = .returned (.tuple #[p.v, .int .i64 0, .int .i64 11])) ∨ ∃ (id : Nat) (d' : DV), p.first id ∧ e = .returned (.tuple #[((p.on d').turned id).v, .int .i64 id, .int .i64 0]) ∧ DkV w' d' (put D (p.sec + 8 * (id + 1)) (encoded id (p.num + 1) 1 l) 8)) ∧ Below w.heap.size w w' := by
  have t1 : ¬ (n : Int) > 1000 := by omega
  have hpg := hp.pgs
  have hcu := hp.cu
  have hnu := hp.nu
  have HDk := hid hd
  have HTb := hid hT
  have HRl := hid hl
  have HLim : Hid (p.sec + 8 * (p.pgs + 2) ≤ D.n ∧ D.W.length ≤ 900000) := hid ⟨hD, hDW⟩
  clear hd hT hl hD hDW
  have e1 : IntKind.u64.wrap ((p.num : Int) + 1) = ((p.num + 1 : Nat) : Int) := by rw [IntKind.wrap_u64]; omega
  go_enter Tryd.func15, Tryd.ntmps15
  unfold Pgr.v
  have hP : Blk (w.alloc (.cells p.cs.toArray 37)) w.heap.size 37 p.cs := Blk.new w _ _
  have hB : Below w.heap.size w (w.alloc (.cells p.cs.toArray 37)) := (Below.refl _ _).alloc (Nat.le_refl _) _
  have hs : (w.alloc (.cells p.cs.toArray 37)).heap.size = w.heap.size + 1 := by simp
  go_wp2_with ((with_reducible refine is_alloc 37 ?_); refine wp_allocN (w.heap.size + 1) hs _ arrPgr ?_; intro w2 k2 b2 s2; go_frame; have kP := hP.below b2 (by omega); have hB2 := hB.trans (b2.mono (by omega)); clear hP hB; obtain ⟨y0, y1, y2, y3, y4, y5, y6, y7, y8, y9⟩ := Pgr.c10 kP; have lP := kP.lt)
  clear y0 y1 y2 y3 y4 y5 y6 y7 y8 y9 lP b2 s2 hs
  go_loopw [18] (fun i wr => ∃ k : Nat, k ≤ p.pgs ∧ i = .int .i64 k ∧ Blk wr w.heap.size 37 p.cs ∧ Blk wr (w.heap.size + 1) 37 Pgr.zero.cs ∧ Below w.heap.size w wr ∧ Hid (∀ j, j < k → ¬ p.idle (j + 1))) (fun i _ => p.pgs - (intOf i).toNat)
  case atStart => exact ⟨0, by omega, rfl, kP, k2, hB2, hid (fun j hj => absurd hj (by omega))⟩
  case round =>
    obtain ⟨k, hk, rfl, kP, kR, hbel, HNo⟩ := hrel
    clear k2 hB2
    by_cases hlt : k < p.pgs
    · have tk : (k : Int) < (p.pgs : Int) := by omega
      have lP := kP.lt
      have ek := IntWalk.i64_in ((k : Int) + 1) (by omega)
      have HH1 := hid (fun wx (h : Blk wx w.heap.size 37 p.cs) => has_any w.heap.size 138 p.nu (k + 1) wx hnu (by omega) (fun k x hx => (h.cell _).trans (p.csN hcu k x hx)))
      have HH2 := hid (fun wx (h : Blk wx w.heap.size 37 p.cs) => has_any w.heap.size 10 p.cu (k + 1) wx hcu (by omega) (fun k x hx => (h.cell _).trans (p.csU k x hx)))
      rw [show ((k + 1 : Nat) : Int) = (k : Int) + 1 by omega] at HH1 HH2
      go_wp2_with fail
      refine (HH1.out _ kP).mono ?_
      rintro e w3 ⟨rfl, b3⟩
      replace kP := kP.keep b3
      replace kR := kR.keep b3
      replace hbel := hbel.trans (b3.mono hbel.size)
      clear b3 lP
      obtain ⟨bn, hbn⟩ : ∃ z, bit p.nu (k + 1) = z := ⟨_, rfl⟩
      have HBN := hid hbn
      rw [hbn]
      clear hbn
      cases bn with
      | true =>
        go_wp2_with fail
        go_roundw
        case measure => simp [intOf]; omega
        case rel => exact ⟨k + 1, by omega, by go_num, kP, kR, hbel, hid (fun j hj => by
          by_cases h : j = k
          · rintro ⟨_, _, h3, _⟩
            rw [h, HBN.out] at h3
            cases h3
          · exact HNo.out j (by omega))⟩
      | false =>
        have lP := kP.lt
        go_wp2_with fail
        refine (HH2.out _ kP).mono ?_
        rintro e w4 ⟨rfl, b4⟩
        replace kP := kP.keep b4
        replace kR := kR.keep b4
        replace hbel := hbel.trans (b4.mono hbel.size)
        clear b4 lP
        obtain ⟨bc, hbc⟩ : ∃ z, bit p.cu (k + 1) = z := ⟨_, rfl⟩
        have HBC := hid hbc
        rw [hbc]
        clear hbc
        cases bc with
        | true =>
          go_wp2_with fail
          go_roundw
          case measure => simp [intOf]; omega
          case rel => exact ⟨k + 1, by omega, by go_num, kP, kR, hbel, hid (fun j hj => by
            by_cases h : j = k
            · rintro ⟨_, _, _, h3⟩
              rw [h, HBC.out] at h3
              cases h3
            · exact HNo.out j (by omega))⟩
        | false =>
          have HF : Hid (p.first (k + 1)) := hid ⟨⟨by omega, by omega, HBN.out, HBC.out⟩, fun j hj => by
            by_cases h : k + 1 ≤ j
            · exact h
            · exfalso
              have h1 := hj.1
              have := HNo.out (j - 1) (by omega)
              rw [show j - 1 + 1 = j by omega] at this
              exact this hj⟩
          clear HH1 HH2 HNo
          obtain ⟨y0, y1, y2, y3, y4, y5, y6, y7, y8, y9⟩ := Pgr.c10 kP
          have lP := kP.lt
          have hgs := hbel.size
          obtain ⟨g9, hg9⟩ : ∃ z, w4.heap.size = z := ⟨_, rfl⟩
          go_wp2_with (first
            | ((with_reducible refine is_alloc 85 ?_); refine wp_allocN g9 hg9 _ arrPg ?_; intro w5 k5 b5 s5; go_frame)
            | ((with_reducible refine is_store 85 ?_); refine wp_storeB g9 _ _ [.int .i64 ((k : Int) + 1), .int .u64 ((p.num + 1 : Nat) : Int), .int .i64 1, .slice A n c] k5 pageN rfl (by simp [Value.oneCell']) rfl rfl ?_; intro w6 k9 r6; go_frame))
          have hsz : w4.heap.size ≤ w6.heap.size := by have := b5.size; have := r6.size; omega
          have hg9w : w.heap.size + 1 < g9 := by have := kR.lt; omega
          replace kP := (kP.below b5 (by omega)).grown r6 (by simp; omega)
          replace kR := (kR.below b5 (by have := kR.lt; omega)).grown r6 (by simp; have := kR.lt; omega)
          have hb6 := (hbel.trans (b5.mono (by omega))).grown r6 (by have := b5.size; have := hbel.size; omega) (fun z hz => by cases hz; have := hbel.size; omega)
          clear hbel b5 s5 k5 r6 y0 y1 y2 y3 y4 y5 y6 y7 y8 y9 lP hg9 hsz
          obtain ⟨PL, hPL⟩ : ∃ z, p.sec + 8 * (k + 1 + 1) = z := ⟨_, rfl⟩
          have HPl : Hid (∀ wx, Calls Tryd.prog 46 #[p.v, .int .i64 ((k : Int) + 1)] wx fun e w' => e = .returned (.int .i64 (PL : Int)) ∧ Below wx.heap.size wx w') := hid fun wx => by
            have := place_any p (k + 1) wx hp (by omega)
            rw [hPL] at this
            exact this
          obtain ⟨DM, hDM⟩ : ∃ z, put D PL (encoded (k + 1) (p.num + 1) 1 l) 8 = z := ⟨_, rfl⟩
          have HPw : Hid (∀ wx, Below w6.heap.size w6 wx → Calls Tryd.prog 41 #[p.d.v, .int .i64 (PL : Int), pageV ((k : Int) + 1) (p.num + 1) 1 A n c] wx fun e w' => ∃ d' : DV, e = .returned (.tuple #[d'.v, .int .i64 0]) ∧ DkV w' d' DM ∧ Below wx.heap.size wx w') := hid fun wx hb => by
            have hbw := hb6.trans (hb.mono hb6.size)
            have := pwrite_good p.d D ⟨(k : Int) + 1, p.num + 1, 1, A, n, c, l⟩ PL wx (HTb.out.keep hbw) (HDk.out.keep hbw) ⟨HRl.out.below hbw, hnc, hcm, hnum, by show _ ≤ (k : Int) + 1; omega, by show (k : Int) + 1 ≤ _; omega, by show (_ : Int) ≤ 1; omega, by show (1 : Int) ≤ _; omega⟩ (k + 1) 1 (by show (k : Int) + 1 = _; omega) (by omega) rfl (by omega) hn (by have := HLim.out; omega) (by have := HLim.out; omega)
            rw [show (Pg.v ⟨(k : Int) + 1, p.num + 1, 1, A, n, c, l⟩) = pageV ((k : Int) + 1) (p.num + 1) 1 A n c from rfl] at this
            rw [hDM] at this
            exact this
          have HPL := hid hPL
          have HDM := hid hDM
          clear hPL hDM
          obtain ⟨L0, hL0⟩ : ∃ z, w6.heap.size = z := ⟨_, rfl⟩
          have hL1 : g9 < L0 := by have := k9.lt; omega
          go_wp2_with fail
          refine wp_region_headF 62 11 [40, 41, 42, 43, 44, 45, 46, 39, 47, 48, 10] [9] ((fun kq => ([fun u w' => u = .pointer (some ⟨w.heap.size, 0, none⟩), fun u w' => u = p.d.v, fun u w' => u = p.v, fun u w' => u = .int .i64 ((k : Int) + 1), fun u w' => u = .int .i64 (PL : Int), fun u w' => u = (pageV ((k : Int) + 1) (p.num + 1) 1 A n c), fun u w' => ∃ (dx : DV), u = .tuple #[dx.v, .int .i64 0] ∧ DkV w' dx DM, fun u w' => ∃ (dx : DV), u = .tuple #[dx.v, .int .i64 0] ∧ DkV w' dx DM, fun u w' => ∃ (dx : DV), u = dx.v ∧ DkV w' dx DM, fun u w' => u = .int .i64 0, fun u w' => ∃ (b10 : Nat), u = .pointer (some ⟨b10, 0, none⟩) ∧ L0 ≤ b10 ∧ Blk w' b10 27 DV.zero.cs] : List (Value → World → Prop)).getD kq (fun _ _ => True))) (by kernel_rfl) rfl (by kernel_rfl) ?grow ?step ?tail
          case step =>
            simp only [List.take_succ_cons, List.take_zero]
            refine HSteps.cons ?_ ?_
            · intro f w' hb hU
              simp only [putAll, List.foldl_cons, List.foldl_nil]
              go_frame
              go_wp2_with fail
              exact ⟨rfl, _, rfl, Below.refl _ _, rfl⟩
            refine HSteps.cons ?_ ?_
            · intro f w' hb hU
              obtain u0 : f 40 = .pointer (some ⟨w.heap.size, 0, none⟩) := hU.get ⟨0, .data⟩ (by simp) rfl
              obtain ⟨y0, y1, y2, y3, y4, y5, y6, y7, y8, y9⟩ := Pgr.c10 (kP.keep hb)
              simp only [putAll, List.foldl_cons, List.foldl_nil]
              go_frame
              try simp only [u0]
              go_wp2_with fail
              exact ⟨rfl, _, rfl, Below.refl _ _, rfl⟩
            refine HSteps.cons ?_ ?_
            · intro f w' hb hU
              simp only [putAll, List.foldl_cons, List.foldl_nil]
              go_frame
              go_wp2_with ((with_reducible refine is_load 37 ?_); refine wp_loadP w.heap.size p hp (kP.keep hb) rfl ?_; go_frame)
              exact ⟨rfl, _, rfl, Below.refl _ _, rfl⟩
            refine HSteps.cons ?_ ?_
            · intro f w' hb hU
              simp only [putAll, List.foldl_cons, List.foldl_nil]
              go_frame
              go_wp2_with fail
              exact ⟨rfl, _, rfl, Below.refl _ _, rfl⟩
            refine HSteps.cons ?_ ?_
            · intro f w' hb hU
              obtain u2 : f 42 = p.v := hU.get ⟨2, .data⟩ (by simp) rfl
              obtain u3 : f 43 = .int .i64 ((k : Int) + 1) := hU.get ⟨3, .data⟩ (by simp) rfl
              simp only [putAll, List.foldl_cons, List.foldl_nil]
              go_frame
              try simp only [u2, u3]
              go_wp2_with fail
              refine (HPl.out w').mono ?_
              rintro e w3 ⟨rfl, b3⟩
              go_wp2_with fail
              exact ⟨rfl, _, rfl, b3, rfl⟩
            refine HSteps.cons ?_ ?_
            · intro f w' hb hU
              obtain ⟨z0, z1, z2, z3⟩ := (k9.keep hb).c4
              simp only [putAll, List.foldl_cons, List.foldl_nil]
              go_frame
              go_wp2_with fail
              exact ⟨rfl, _, rfl, Below.refl _ _, rfl⟩
            refine HSteps.cons ?_ ?_
            · intro f w' hb hU
              obtain u1 : f 41 = p.d.v := hU.get ⟨1, .data⟩ (by simp) rfl
              obtain u4 : f 44 = .int .i64 (PL : Int) := hU.get ⟨4, .data⟩ (by simp) rfl
              obtain u5 : f 45 = (pageV ((k : Int) + 1) (p.num + 1) 1 A n c) := hU.get ⟨5, .data⟩ (by simp) rfl
              simp only [putAll, List.foldl_cons, List.foldl_nil]
              go_frame
              try simp only [u1, u4, u5]
              go_wp2_with fail
              refine (HPw.out w' hb).mono ?_
              rintro e w3 ⟨dx, rfl, hdx, b3⟩
              go_wp2_with fail
              exact ⟨rfl, _, rfl, b3, dx, rfl, hdx⟩
            refine HSteps.cons ?_ ?_
            · intro f w' hb hU
              obtain ⟨dx, u6, v6_0⟩ : ∃ (dx : DV), f 46 = .tuple #[dx.v, .int .i64 0] ∧ DkV w' dx DM := hU.get ⟨6, .data⟩ (by simp) rfl
              simp only [putAll, List.foldl_cons, List.foldl_nil]
              go_frame
              try simp only [u6]
              go_wp2_with fail
              exact ⟨rfl, _, rfl, Below.refl _ _, dx, rfl, v6_0⟩
            refine HSteps.cons ?_ ?_
            · intro f w' hb hU
              obtain ⟨dx, u7, v7_0⟩ : ∃ (dx : DV), f 39 = .tuple #[dx.v, .int .i64 0] ∧ DkV w' dx DM := hU.get ⟨7, .data⟩ (by simp) rfl
              simp only [putAll, List.foldl_cons, List.foldl_nil]
              go_frame
              try simp only [u7]
              go_wp2_with fail
              exact ⟨rfl, _, rfl, Below.refl _ _, dx, rfl, v7_0⟩
            refine HSteps.cons ?_ ?_
            · intro f w' hb hU
              obtain ⟨dx, u7, v7_0⟩ : ∃ (dx : DV), f 39 = .tuple #[dx.v, .int .i64 0] ∧ DkV w' dx DM := hU.get ⟨7, .data⟩ (by simp) rfl
              simp only [putAll, List.foldl_cons, List.foldl_nil]
              go_frame
              try simp only [u7]
              go_wp2_with fail
              exact ⟨rfl, _, rfl, Below.refl _ _, rfl⟩
            refine HSteps.cons ?_ ?_
            · intro f w' hb hU
              simp only [putAll, List.foldl_cons, List.foldl_nil]
              go_frame
              go_wp2_with ((with_reducible refine is_alloc 27 ?_); refine wp_allocB _ arrDisk ?_; intro w5 k5 b5 s5; go_frame)
              exact ⟨rfl, _, rfl, b5, _, rfl, (by rw [← hL0]; exact hb.size), k5⟩
            exact HSteps.nil
          case grow =>
            intro kq u wa wb hb hu
            rcases kq with _ | _ | _ | _ | _ | _ | _ | _ | _ | _ | _ | kq
            · exact hu
            · exact hu
            · exact hu
            · exact hu
            · exact hu
            · exact hu
            · obtain ⟨dx, ue, uf0⟩ := hu
              exact ⟨dx, ue, uf0.keep hb⟩
            · obtain ⟨dx, ue, uf0⟩ := hu
              exact ⟨dx, ue, uf0.keep hb⟩
            · obtain ⟨dx, ue, uf0⟩ := hu
              exact ⟨dx, ue, uf0.keep hb⟩
            · exact hu
            · obtain ⟨b10, ue, uf0, uf1⟩ := hu
              exact ⟨b10, ue, uf0, uf1.keep hb⟩
            · trivial
          case tail =>
            intro f w7 hb7 hU
            obtain ⟨dx, u8, v8_0⟩ : ∃ (dx : DV), f 47 = dx.v ∧ DkV w7 dx DM := hU.get 8 (by decide)
            obtain u9 : f 48 = .int .i64 0 := hU.get 9 (by decide)
            obtain ⟨b10, u10, v10_0, v10_1⟩ : ∃ (b10 : Nat), f 10 = .pointer (some ⟨b10, 0, none⟩) ∧ L0 ≤ b10 ∧ Blk w7 b10 27 DV.zero.cs := hU.get 10 (by decide)
            simp only [List.drop_succ_cons, List.drop_zero, putAll, List.foldl_cons, List.foldl_nil]
            go_frame
            simp only [u8, u9, u10]
            clear u8 u9 u10
            clear hU
            replace kP := kP.keep hb7
            replace kR := kR.keep hb7
            replace hb6 := hb6.trans (hb7.mono hb6.size)
            clear hb7 HPw HPl k9
            go_wp2_with ((with_reducible refine is_store 27 ?_); refine wp_storeB b10 _ _ dx.cs v10_1 diskN rfl (dv_one _) rfl rfl ?_; intro w8 k8 r8; go_frame)
            refine noPanic_ok ?_
            have hd8 := v8_0.kept (Kept.grown r8 v10_1 notDk)
            replace kP := kP.grown r8 (by simp; omega)
            replace kR := kR.grown r8 (by simp; omega)
            have hb8 := hb6.grown r8 hb6.size (fun z hz => by cases hz; omega)
            clear hb6 r8 v10_1 v8_0
            obtain ⟨x0, x1, x2, x3, x4⟩ := k8.c5
            have l8 := k8.lt
            have lP := kP.lt
            have hok2 : (p.on dx).ok := Pgr.on_ok hp _
            have hok3 : ((p.on dx).turned (k + 1)).ok := Pgr.turned_ok hok2 _
            have hcs := Pgr.on_cs p dx
            go_wp2_with ((with_reducible refine is_store 27 ?_); refine wp_storeO w.heap.size 0 _ p.cs dx.cs dx.v kP rfl (diskN.trans rfl) (by rw [Pgr.cs_len hp]; show 0 + 5 ≤ _; omega) (dv_one _) rfl rfl ?_; intro w12 k12 r12; go_frame; rw [show dx.cs.length = 5 from rfl, hcs] at k12)
            have hd12 := hd8.kept (Kept.grown r12 kP (by unfold dkT; decide))
            replace kR := kR.grown r12 (by simp)
            have hb12 := hb8.grown r12 hb8.size (fun z hz => by cases hz; omega)
            have F := flip_any w.heap.size 138 37 (p.on dx).cs p.nu (k + 1) w12 k12 hnu (by omega) (by rw [Pgr.cs_len hok2]; omega) (Pgr.csN (p.on dx) hcu)
            rw [show p.nu = (p.on dx).nu from rfl, Pgr.turned_cs hok2, show ((k + 1 : Nat) : Int) = (k : Int) + 1 by omega] at F
            clear x0 x1 x2 x3 x4 l8 lP hd8 hb8 kP k8 r12 hcs
            refine F.mono ?_
            clear F
            rintro e w13 ⟨rfl, k13, r13⟩
            have hd13 := hd12.kept (Kept.grown r13 k12 (by unfold dkT; decide))
            replace kR := kR.grown r13 (by simp)
            have hb13 := hb12.grown r13 hb12.size (fun z hz => by cases hz; omega)
            clear k12 r13 hd12 hb12
            have lP := k13.lt
            go_wp2_with (first
              | ((with_reducible refine is_load 37 ?_); refine wp_loadP w.heap.size ((p.on dx).turned (k + 1)) hok3 k13 rfl ?_; go_frame)
              | ((with_reducible refine is_store 37 ?_); refine wp_storeP (w.heap.size + 1) _ ((p.on dx).turned (k + 1)) hok3 kR (by rw [Pgr.cs_len Pgr.zero_ok]) rfl rfl ?_; intro w14 k14 r14; go_frame))
            have hd14 := hd13.kept (Kept.grown r14 kR (by unfold dkT; decide))
            refine bodyPost_ret (results_P3 Tryd.results15 _ _ (w.heap.size + 1) _ hok3 rfl k14) rfl ⟨.inr ⟨k + 1, dx, HF.out, ?_, ?_⟩, hb13.grown r14 hb13.size (fun g hg => by cases hg; omega)⟩
            · rw [show ((k + 1 : Nat) : Int) = (k : Int) + 1 by omega]
              rfl
            · rw [← HDM.out, ← HPL.out] at hd14
              exact hd14
    · obtain rfl : k = p.pgs := by omega
      have HNI : Hid (∀ id, ¬ p.idle id) := hid fun id h => by
        have h1 := h.1
        have h2 := h.2.1
        have := HNo.out (id - 1) (by omega)
        rw [show id - 1 + 1 = id by omega] at this
        exact this h
      have lP := kP.lt
      go_wp2_with (first
        | ((with_reducible refine is_load 37 ?_); refine wp_loadP w.heap.size p hp kP rfl ?_; go_frame)
        | ((with_reducible refine is_store 37 ?_); refine wp_storeP (w.heap.size + 1) _ p hp kR (by rw [Pgr.cs_len Pgr.zero_ok]) rfl rfl ?_; intro w4 k4 r4; go_frame))
      refine bodyPost_ret (results_P3 Tryd.results15 _ _ (w.heap.size + 1) p hp rfl k4) rfl ⟨.inl ⟨HNI.out, rfl⟩, hbel.grown r4 hbel.size (fun g hg => by cases hg; omega)⟩
end Go.Proofs.YtanglofabkbllaaDoor
