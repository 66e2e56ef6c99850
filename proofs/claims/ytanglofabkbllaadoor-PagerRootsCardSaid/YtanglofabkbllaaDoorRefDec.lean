/- The reference's Decode, walked. Conditions: the bytes read. -/
import Derived.Test.YtanglofabkbllaaDoorDecode
set_option linter.unusedSimpArgs false
set_option linter.unusedVariables false
namespace Go.Proofs.YtanglofabkbllaaDoor
open Go.RowKit
theorem refPageN : (Tryd.prog.info? 114).map (·.size) = some 4 := by kernel_rfl
theorem arrRef : ArrT Tryd.prog 114 noPg.cs := by
  unfold ArrT
  kernel_rfl
theorem sum_iff (l : List UInt8) (s : BitVec 32) (hl : l.length = 4) : s.toNat = num l ↔ l = sumBytes s := by
  rw [sumBytes_le]
  constructor
  · intro h
    rw [h, ← hl, le_num]
  · intro h
    rw [h, num_le 4 _ (by have := s.isLt; omega)]

theorem enc_iff (l d : List UInt8) (idn stamp len : Nat) (k : UInt8) (hl : l.length = 1024) (hd : l.take 1020 = d) (hs : l.drop 1020 = sumBytes (Crc.crc (l.take 1020))) (hn : len ≤ 1000)
    (e1 : num ((l.drop 18).take 2) = len) (e2 : num ((l.drop 4).take 4) = idn) (e3 : num ((l.drop 8).take 8) = stamp) (e4 : l[16]? = some k) :
    encoded idn stamp k.toNat ((l.drop 20).take len) = l ↔ (d.take 4 = [79, 80, 71, 49] ∧ d[17]? = some 0 ∧ (d.drop (20 + len)).all (· == 0) = true) := by
  have hdl : d.length = 1020 := by rw [← hd]; simp [hl]
  have hk : d.getD 16 0 = k := by rw [← hd, List.getD_eq_getElem?_getD, List.getElem?_take, if_pos (by omega), e4]; rfl
  have hi := plain_iff d len hdl hn (by rw [← hd, take_in _ _ _ _ (by omega), e1])
  rw [← hi, hk]
  have t1 : num ((d.drop 4).take 4) = idn := by rw [← hd, take_in _ _ _ _ (by omega), e2]
  have t2 : num ((d.drop 8).take 8) = stamp := by rw [← hd, take_in _ _ _ _ (by omega), e3]
  have t3 : (d.drop 20).take len = (l.drop 20).take len := by rw [← hd, take_in _ _ _ _ (by omega)]
  rw [t1, t2, t3]
  have hp : (plainPage idn stamp k.toNat ((l.drop 20).take len)).length = 1020 := plainPage_len (by simp; omega)
  have hll : l = sealed d := by
    unfold sealed
    rw [← hd, ← hs, List.take_append_drop]
  unfold encoded
  constructor
  · intro h
    exact (List.append_inj (h.trans hll) (by rw [hp, hdl])).1
  · intro h
    rw [h, ← hll]
theorem page_of (d : List UInt8) (idn stamp len : Nat) (k : UInt8) (hd : d.length = 1020) (hn : len ≤ 1000) (hi : idn ≤ 2147483647)
    (e1 : num ((d.drop 18).take 2) = len) (e2 : num ((d.drop 4).take 4) = idn) (e3 : num ((d.drop 8).take 8) = stamp) (e4 : d[16]? = some k) :
    pageOf d = if d.take 4 = [79, 80, 71, 49] ∧ d[17]? = some 0 ∧ (d.drop (20 + len)).all (· == 0) = true then ⟨idn, stamp, k.toNat, (d.drop 20).take len, 0⟩ else ⟨0, 0, 0, [], 15⟩ := by
  unfold pageOf
  rw [e1, e2, e3]
  have hk : d.getD 16 0 = k := by rw [List.getD_eq_getElem?_getD, e4]; rfl
  simp only [hk, hn, hi, true_and]

theorem refDec_short (A : Option Addr) (n c : Nat) (w : World) (hn : n ≠ 1024) :
    Calls Tryd.prog 55 #[.slice A n c] w fun e w' => e = .returned (.tuple #[noPg.v, .int .i64 15]) ∧ Below w.heap.size w w' := by
  have h1 : ((n : Int) != 1024) = true := by rw [bne_iff_ne]; omega
  have h2 : ((n : Int) == 1024) = false := by rw [beq_eq_false_iff_ne]; omega
  go_enter Tryd.func55, Tryd.ntmps55
  go_wp2_with fail
  refine bodyPost_ret (by simp [results, Tryd.results55, go_sem]; try rfl) rfl ?_
  exact ⟨rfl, (Below.refl _ _).alloc (Nat.le_refl _) _⟩

set_option maxRecDepth 100000 in
set_option maxHeartbeats 2000000 in
theorem refDec_long (A : Option Addr) (c : Nat) (l : List UInt8) (w : World) (hb : RB w A 1024 l) (hc : 1024 ≤ c) (hm : c ≤ 9223372036854775807) :
    Calls Tryd.prog 55 #[.slice A 1024 c] w fun e w' => ∃ p : Pg, e = .returned (.tuple #[p.v, .int .i64 (decoded l).err]) ∧ Reads w' p (decoded l) ∧ Below w.heap.size w w' := by
  have HD := hid hb.len
  obtain ⟨b, off, rfl, hbs, _⟩ := hb.2 (by omega)
  have hl4 : (l.drop 1020).length = 4 := by rw [List.length_drop, HD.out]
  obtain ⟨d, hd⟩ : ∃ d, l.take 1020 = d := ⟨_, rfl⟩
  obtain ⟨s, hs⟩ : ∃ s, num (l.drop 1020) = s := ⟨_, rfl⟩
  obtain ⟨len, hlen⟩ : ∃ s, num ((l.drop 18).take 2) = s := ⟨_, rfl⟩
  obtain ⟨idn, hidn⟩ : ∃ s, num ((l.drop 4).take 4) = s := ⟨_, rfl⟩
  have len_lt : len < 65536 := by have := num_lt ((l.drop 18).take 2); simp [HD.out] at this; omega
  have id_lt : idn < 4294967296 := by have := num_lt ((l.drop 4).take 4); simp [HD.out] at this; omega
  have HS : Hid (∀ w A c, RB w A 4 (l.drop 1020) → Calls Tryd.prog 71 #[.slice A 4 c, .int .i64 4] w fun e w' => e = .returned (.int .u64 s) ∧ w = w') := fun w A c h => by
    have := number_ref A 4 c _ 4 w h (by omega) (by omega) (by omega)
    rwa [List.take_of_length_le (by omega), hs] at this
  have HN : Hid (∀ w A c, RB w A 1006 (l.drop 18) → Calls Tryd.prog 71 #[.slice A 1006 c, .int .i64 2] w fun e w' => e = .returned (.int .u64 len) ∧ w = w') := fun w A c h => by
    have := number_ref A 1006 c _ 2 w h (by omega) (by omega) (by omega)
    rwa [hlen] at this
  have HI : Hid (∀ w A c, RB w A 1020 (l.drop 4) → Calls Tryd.prog 71 #[.slice A 1020 c, .int .i64 4] w fun e w' => e = .returned (.int .u64 idn) ∧ w = w') := fun w A c h => by
    have := number_ref A 1020 c _ 4 w h (by omega) (by omega) (by omega)
    rwa [hidn] at this
  have HL := hid hlen
  have HID := hid hidn
  have HDD := hid hd
  have HSS := hid hs
  clear hlen hidn hd hs
  go_enter Tryd.func55, Tryd.ntmps55
  go_wp2_with fail
  have hP : Blk (w.alloc (.cells #[.int .i64 0, .int .u64 0, .int .i64 0, .slice none 0 0] 114)) w.heap.size 114 [.int .i64 0, .int .u64 0, .int .i64 0, .slice none 0 0] := Blk.new w _ _
  have hB : Below w.heap.size w (w.alloc (.cells #[.int .i64 0, .int .u64 0, .int .i64 0, .slice none 0 0] 114)) := (Below.refl _ _).alloc (Nat.le_refl _) _
  have hS : (w.alloc (.cells #[.int .i64 0, .int .u64 0, .int .i64 0, .slice none 0 0] 114)).heap.size = w.heap.size + 1 := by simp
  generalize (w.alloc (.cells #[.int .i64 0, .int .u64 0, .int .i64 0, .slice none 0 0] 114)) = w1 at hP hB hS ⊢
  have s1 : ∀ x : Ext w1, RB x.w (some ⟨b, off, none⟩) 1020 d := fun x => by
    have := ((hb.below hB).below x.h).pre (k := 1020) (by omega)
    rwa [HDD.out] at this
  have s2 : ∀ x : Ext w1, RB x.w (some ⟨b, off + 1020, none⟩) 4 (l.drop 1020) := fun x => ((hb.below hB).below x.h).tail 1020 4 rfl
  (refine wp_region_ext (by kernel_rfl) (by kernel_rfl) ?_; (repeat (go_big_quiet_step ((first | (go_at_call 70; exact Ext.calls_same _ (refSum_any _ _ _ _ _ (s1 _) (by omega))) | (go_at_call 71; exact Ext.calls_same _ (HS.out _ _ _ (s2 _))))))); refine wpQuiet_nil ?_; rintro _ ⟨y, rfl⟩)
  have hPy := hP.keep y.h
  have hBy := hB.trans (y.h.mono hB.size)
  have hry : RB y.w (some ⟨b, off, none⟩) 1024 l := (hb.below hB).below y.h
  clear hP hB hS s1 s2
  by_cases hsum : (Crc.crc d).toNat = s
  rotate_left
  · have HF : Hid (decoded l = ⟨0, 0, 0, [], 29⟩) := by
      show _ = _
      unfold decoded
      rw [if_neg (by rw [HD.out]; simp), if_neg]
      rw [HDD.out, ← sum_iff _ _ hl4, HSS.out]
      exact hsum
    have t1 : (((Crc.crc d).toNat : Int) != (s : Int)) = true := by rw [bne_iff_ne]; omega
    have t2 : (((Crc.crc d).toNat : Int) == (s : Int)) = false := by rw [beq_eq_false_iff_ne]; omega
    go_wp2_with ((with_reducible refine is_store 114 ?_); refine wp_storeB _ _ _ [.int .i64 0, .int .u64 0, .int .i64 0, .slice none 0 0] hPy refPageN rfl (by decide) rfl rfl ?_; intro w3 hP3 r3; go_frame)
    obtain ⟨k0, k1, k2, k3⟩ := hP3.c4
    rw [HF.out]
    refine bodyPost_ret (v := .tuple #[noPg.v, .int .i64 29]) (by simp [results, Tryd.results55, go_sem, k0, k1, k2, k3]; rfl) rfl ?_
    exact ⟨noPg, rfl, noReads _ _, hBy.grown r3 hBy.size (fun k hk => by cases hk; exact Nat.le_refl _)⟩
  have t1 : (((Crc.crc d).toNat : Int) != (s : Int)) = false := by rw [bne_eq_false_iff_eq]; omega
  have t2 : (((Crc.crc d).toNat : Int) == (s : Int)) = true := by rw [beq_iff_eq]; omega
  have HG : Hid (decoded l = pageOf d) := by
    show _ = _
    unfold decoded
    rw [if_neg (by rw [HD.out]; simp), if_pos]
    · rw [HDD.out]
    · rw [HDD.out, ← sum_iff _ _ hl4, HSS.out]
      exact hsum
  have HL2 : Hid (num ((d.drop 18).take 2) = len) := by
    show _ = _
    rw [← HDD.out, take_in _ _ _ _ (by omega), HL.out]
  have HI2 : Hid (num ((d.drop 4).take 4) = idn) := by
    show _ = _
    rw [← HDD.out, take_in _ _ _ _ (by omega), HID.out]
  have HSum := hid hsum
  clear hsum
  go_wp2_with fail
  clear t1 t2
  refine (HN.out _ _ _ (hry.tail 18 1006 rfl)).mono ?_
  rintro e w2 ⟨rfl, rfl⟩
  by_cases h4 : len ≤ 1000
  rotate_left
  · have HF : Hid (decoded l = ⟨0, 0, 0, [], 15⟩) := by
      show _ = _
      rw [HG.out]
      unfold pageOf
      rw [if_neg (fun h => h4 (by have := h.2.2.2.1; rwa [HL2.out] at this))]
    have t3 : decide ((1000 : Int) < (len : Int)) = true := by simp; omega
    have t4 : (1000 : Int) < (len : Int) := by omega
    go_wp2_with ((with_reducible refine is_store 114 ?_); refine wp_storeB _ _ _ [.int .i64 0, .int .u64 0, .int .i64 0, .slice none 0 0] hPy refPageN rfl (by decide) rfl rfl ?_; intro w3 hP3 r3; go_frame)
    obtain ⟨k0, k1, k2, k3⟩ := hP3.c4
    rw [HF.out]
    refine bodyPost_ret (v := .tuple #[noPg.v, .int .i64 15]) (by simp [results, Tryd.results55, go_sem, k0, k1, k2, k3]; rfl) rfl ?_
    exact ⟨noPg, rfl, noReads _ _, hBy.grown r3 hBy.size (fun k hk => by cases hk; exact Nat.le_refl _)⟩
  have t3 : decide ((1000 : Int) < (len : Int)) = false := by simp; omega
  have t4 : ¬ (1000 : Int) < (len : Int) := by omega
  go_wp2_with fail
  refine (HI.out _ _ _ (hry.tail 4 1020 rfl)).mono ?_
  rintro e w2 ⟨rfl, rfl⟩
  by_cases h5 : idn ≤ 2147483647
  rotate_left
  · have HF : Hid (decoded l = ⟨0, 0, 0, [], 15⟩) := by
      show _ = _
      rw [HG.out]
      unfold pageOf
      rw [if_neg (fun h => h5 (by have := h.2.1; rwa [HI2.out] at this))]
    have t5 : decide ((2147483647 : Int) < (idn : Int)) = true := by simp; omega
    have t6 : (2147483647 : Int) < (idn : Int) := by omega
    go_wp2_with ((with_reducible refine is_store 114 ?_); refine wp_storeB _ _ _ [.int .i64 0, .int .u64 0, .int .i64 0, .slice none 0 0] hPy refPageN rfl (by decide) rfl rfl ?_; intro w3 hP3 r3; go_frame)
    obtain ⟨k0, k1, k2, k3⟩ := hP3.c4
    rw [HF.out]
    refine bodyPost_ret (v := .tuple #[noPg.v, .int .i64 15]) (by simp [results, Tryd.results55, go_sem, k0, k1, k2, k3]; rfl) rfl ?_
    exact ⟨noPg, rfl, noReads _ _, hBy.grown r3 hBy.size (fun k hk => by cases hk; exact Nat.le_refl _)⟩
  have t5 : decide ((2147483647 : Int) < (idn : Int)) = false := by simp; omega
  have t6 : ¬ (2147483647 : Int) < (idn : Int) := by omega
  have hs20 : RB y.w (some ⟨b, off + 20, none⟩) (20 + len - 20) ((l.drop 20).take len) := by
    rw [show 20 + len - 20 = len by omega]
    exact hry.sub 20 len (by omega)
  go_wp2_with (at_builtin; refine wp_app _ rfl _ _ 40 rfl y.w.heap.size 5 _ 1 bytesT _ _ _ (World.ownsRow_nil _ _ _ _) rfl _ _ _ _ hs20 rfl (byV_one _) (by unfold maxLen; omega) (by omega) (Nat.le_refl _) ?_; intro v2 w2 hown2 r2 _)
  rw [show 0 + (20 + len - 20) = len by omega] at hown2
  obtain ⟨A5, c5, rfl, hr5, hc5, hm5⟩ := own_form hown2
  have hr5' : RB w2 A5 len ((l.drop 20).take len) := by have := hr5; simpa [RB] using this
  have b2 : Below y.w.heap.size y.w w2 := Below.of_grown r2 (Nat.le_refl _) (fun k hk => by cases hk)
  have hP2 := hPy.keep b2
  have hB2 := hBy.trans (b2.mono hBy.size)
  have hr2 := hry.below b2
  have HA5 : Hid (∀ b' o', A5 = some ⟨b', o', none⟩ → w.heap.size < b') := fun b' o' h => Nat.lt_of_lt_of_le hPy.lt (hown2.lt b' (by rw [h]; rfl)).1
  clear hown2 r2 hs20 hPy hry hr5 b2 hBy HS HN t3 t4 t5 t6
  obtain ⟨b4, o4, k16, hbx, _, h16, hc16⟩ := hr2.at (k := 16) (by omega)
  cases hbx
  have l16 := N8_lo k16
  have u16 := N8_hi k16
  have H16 := hid h16
  clear h16
  obtain ⟨stamp, hst⟩ : ∃ s, num ((l.drop 8).take 8) = s := ⟨_, rfl⟩
  have st_lt : Hid (stamp < 18446744073709551616) := by
    have := num_lt ((l.drop 8).take 8)
    have h8 : 256 ^ ((l.drop 8).take 8).length ≤ 256 ^ 8 := Nat.pow_le_pow_right (by omega) (by simp; omega)
    show _ < _
    omega
  have HT : Hid (∀ w A c, RB w A 1016 (l.drop 8) → Calls Tryd.prog 71 #[.slice A 1016 c, .int .i64 8] w fun e w' => e = .returned (.int .u64 stamp) ∧ w = w') := fun w A c h => by
    have := number_ref A 1016 c _ 8 w h (by omega) (by omega) (by omega)
    rwa [hst] at this
  have HST := hid hst
  clear hst
  have s1 : ∀ (x : Ext w2) (z : Ext x.w), RB z.w (some ⟨b, off + 4, none⟩) 1020 (l.drop 4) := fun x z => ((hr2.below x.h).below z.h).tail 4 1020 rfl
  have s2 : ∀ (x : Ext w2) (z : Ext x.w), RB z.w (some ⟨b, off + 8, none⟩) 1016 (l.drop 8) := fun x z => ((hr2.below x.h).below z.h).tail 8 1016 rfl
  have c3 : ∀ (x : Ext w2) (z : Ext x.w), z.w.cell? ⟨b, off + 16, none⟩ = some (.int .u8 (N8 k16)) := fun x z => Ext.cell (Ext.cell hc16 x) z
  refine wp_region_tailU 14 (fun k => ([(fun u => u = .slice (some ⟨b, off, none⟩) 1024 c), (fun u => u = .slice (some ⟨b, off + 4, none⟩) 1020 (c - 4)), (fun u => u = .int .u64 idn), (fun u => u = .int .i64 idn),
    (fun u => u = .slice (some ⟨b, off, none⟩) 1024 c), (fun u => u = .slice (some ⟨b, off + 8, none⟩) 1016 (c - 8)), (fun u => u = .int .u64 stamp), (fun u => u = .slice (some ⟨b, off, none⟩) 1024 c), (fun u => u = .pointer (some ⟨b, off + 16, none⟩)),
    (fun u => u = .int .u8 (N8 k16)), (fun u => u = .int .i64 (N8 k16)), (fun u => u = .slice A5 len c5), (fun u => u = .agg #[.int .i64 idn, .int .u64 stamp, .int .i64 (N8 k16), .slice A5 len c5]),
    (fun u => ∃ g, w2.heap.size ≤ g ∧ u = .pointer (some ⟨g, 0, none⟩))] : List (Value → Prop)).getD k (fun _ => True))
    (Ptrs w2.heap.size [(6, 114)] (fun _ => noPg.cs)) (by kernel_rfl) (by kernel_rfl) ?_ ?_ ?_
  · intro o ho
    refine pres_ptr (Nat.le_refl _) ?_ ?_
    · intro x hx
      simp only [List.mem_cons, List.not_mem_nil, or_false] at hx
      subst hx
      exact arrRef
    · revert o ho
      exact List.all_eq_true.1 (by kernel_rfl)
  · refine Ptrs.start ?_
    intro x hx
    simp only [List.mem_cons, List.not_mem_nil, or_false] at hx
    subst hx
    rfl
  simp only [List.take_succ_cons, List.take_zero]
  (refine wpU_quiet ((.slice (some ⟨b, off, none⟩) 1024 c)) rfl (of_decide_eq_true (by kernel_rfl)) rfl (fun _ => ?_); go_big_quiet_step ((fail)); refine wpQuiet_nil ⟨rfl, ?_⟩)
  (refine wpU_quiet ((.slice (some ⟨b, off + 4, none⟩) 1020 (c - 4))) rfl (of_decide_eq_true (by kernel_rfl)) rfl (fun _ => ?_); go_big_quiet_step ((fail)); refine wpQuiet_nil ⟨rfl, ?_⟩)
  (refine wpU_quiet ((.int .u64 idn)) rfl (of_decide_eq_true (by kernel_rfl)) rfl (fun _ => ?_); go_big_quiet_step ((go_at_call 71; exact Ext.calls_same _ (HI.out _ _ _ (s1 _ _)))); refine wpQuiet_nil ⟨rfl, ?_⟩)
  (refine wpU_quiet ((.int .i64 idn)) rfl (of_decide_eq_true (by kernel_rfl)) rfl (fun _ => ?_); go_big_quiet_step ((fail)); refine wpQuiet_nil ⟨rfl, ?_⟩)
  (refine wpU_quiet ((.slice (some ⟨b, off, none⟩) 1024 c)) rfl (of_decide_eq_true (by kernel_rfl)) rfl (fun _ => ?_); go_big_quiet_step ((fail)); refine wpQuiet_nil ⟨rfl, ?_⟩)
  (refine wpU_quiet ((.slice (some ⟨b, off + 8, none⟩) 1016 (c - 8))) rfl (of_decide_eq_true (by kernel_rfl)) rfl (fun _ => ?_); go_big_quiet_step ((fail)); refine wpQuiet_nil ⟨rfl, ?_⟩)
  (refine wpU_quiet ((.int .u64 stamp)) rfl (of_decide_eq_true (by kernel_rfl)) rfl (fun _ => ?_); go_big_quiet_step ((go_at_call 71; exact Ext.calls_same _ (HT.out _ _ _ (s2 _ _)))); refine wpQuiet_nil ⟨rfl, ?_⟩)
  (refine wpU_quiet ((.slice (some ⟨b, off, none⟩) 1024 c)) rfl (of_decide_eq_true (by kernel_rfl)) rfl (fun _ => ?_); go_big_quiet_step ((fail)); refine wpQuiet_nil ⟨rfl, ?_⟩)
  (refine wpU_quiet ((.pointer (some ⟨b, off + 16, none⟩))) rfl (of_decide_eq_true (by kernel_rfl)) rfl (fun _ => ?_); go_big_quiet_step ((fail)); refine wpQuiet_nil ⟨rfl, ?_⟩)
  (refine wpU_quiet ((.int .u8 (N8 k16))) rfl (of_decide_eq_true (by kernel_rfl)) rfl (fun _ => ?_); go_big_quiet_step ((fail)); refine wpQuiet_nil ⟨rfl, ?_⟩)
  (refine wpU_quiet ((.int .i64 (N8 k16))) rfl (of_decide_eq_true (by kernel_rfl)) rfl (fun _ => ?_); go_big_quiet_step ((fail)); refine wpQuiet_nil ⟨rfl, ?_⟩)
  (refine wpU_quiet ((.slice A5 len c5)) rfl (of_decide_eq_true (by kernel_rfl)) rfl (fun _ => ?_); go_big_quiet_step ((fail)); refine wpQuiet_nil ⟨rfl, ?_⟩)
  (refine wpU_quiet ((.agg #[.int .i64 idn, .int .u64 stamp, .int .i64 (N8 k16), .slice A5 len c5])) rfl (of_decide_eq_true (by kernel_rfl)) rfl (fun _ => ?_); go_big_quiet_step ((fail)); refine wpQuiet_nil ⟨rfl, ?_⟩)
  refine wpU_alloc _ arrRef rfl (fun g hg => ?_)
  intro w3 b3 hΦ
  obtain ⟨p4, hp4, hq4, hz4⟩ := (hΦ.each (6, 114) (by simp)).resolve_left (by intro h; cases h)
  cases hq4
  clear hΦ s1 s2 c3 hc16
  simp only [List.drop_succ_cons, List.drop_zero]
  have lw2 := hP2.lt
  refine wp_storeB g _ _ [.int .i64 idn, .int .u64 stamp, .int .i64 (N8 k16), .slice A5 len c5] hz4 refPageN rfl (by simp [Value.oneCell']) rfl rfl (fun w4 kP r4 => ?_)
  go_frame
  have b4 : Below w2.heap.size w2 w4 := b3.grown r4 b3.size (fun k hk => by cases hk; exact hg)
  have hP4 := hP2.keep b4
  have hB4 := hB2.trans (b4.mono hB2.size)
  have hr4 := hr2.below b4
  have hr54 := hr5'.below b4
  clear hP2 hB2 hr2 hr5' b4 b3 r4 hz4 hp4 HI HT
  obtain ⟨a0, a1, a2, a3⟩ := kP.c4
  go_wp2_with fail
  refine (encode_ref idn k16.toNat stamp A5 len c5 _ _ hr54 h5 (by have := k16.toNat_lt; omega) h4 st_lt.out).mono ?_
  rintro e w5 ⟨v, rfl, hown5, b5⟩
  obtain ⟨A6, c6, rfl, hr6, hc6, hm6⟩ := own_form hown5
  go_wp2_with fail
  refine (same_ref A6 _ 1024 c6 1024 c (encoded idn stamp k16.toNat ((l.drop 20).take len)) l _ hr6 (hr4.below b5) (by omega) (by omega)).mono ?_
  rintro e w6 ⟨rfl, b6⟩
  have kP6 := (kP.keep b5).keep b6
  have hPy := (hP4.keep b5).keep b6
  have b56 := b5.trans (b6.mono b5.size)
  have hBy := hB4.trans (b56.mono hB4.size)
  have hr56 := hr54.below b56
  have HE := hid (enc_iff l d idn stamp len k16 HD.out HDD.out (by rw [HDD.out, ← sum_iff _ _ hl4, HSS.out]; exact HSum.out) (by omega) HL.out HID.out HST.out H16.out)
  have HPO := hid (page_of d idn stamp len k16 (by rw [← HDD.out]; simp [HD.out]) h4 h5 HL2.out HI2.out (by rw [← HDD.out, take_in _ _ _ _ (by omega)]; exact HST.out) (by rw [← HDD.out, List.getElem?_take, if_pos (by omega)]; exact H16.out))
  have e20 : (d.drop 20).take len = (l.drop 20).take len := by rw [← HDD.out, take_in _ _ _ _ (by omega)]
  rw [e20] at HPO
  clear kP hP4 hB4 hr4 hr54 hown5 hr6 b5 b6 e20 a0 a1 a2 a3 HSum
  obtain ⟨a0, a1, a2, a3⟩ := kP6.c4
  by_cases hE : encoded idn stamp k16.toNat ((l.drop 20).take len) = l
  · rw [decide_eq_true hE]
    have HF : Hid (decoded l = ⟨idn, stamp, k16.toNat, (l.drop 20).take len, 0⟩) := by
      show _ = _
      rw [HG.out, HPO.out, if_pos (HE.out.1 hE)]
    clear hE
    go_wp2_with ((with_reducible refine is_store 114 ?_); refine wp_storeB _ _ _ [.int .i64 idn, .int .u64 stamp, .int .i64 (N8 k16), .slice A5 len c5] hPy refPageN rfl (by simp [Value.oneCell']) rfl rfl ?_; intro w7 hP7 r7; go_frame)
    obtain ⟨k0, k1, k2, k3⟩ := hP7.c4
    rw [HF.out]
    refine bodyPost_ret (v := .tuple #[pageV idn stamp (N8 k16) A5 len c5, .int .i64 0]) (by simp [results, Tryd.results55, go_sem, k0, k1, k2, k3]; rfl) rfl ?_
    exact ⟨⟨idn, stamp, N8 k16, A5, len, c5, (l.drop 20).take len⟩, rfl,
      ⟨⟨RL.grown hr56 r7 (fun k hk hn b' o' hb' => by cases hk; have := HA5.out b' o' hb'; omega), hc5, hm5, st_lt.out, by dsimp only; omega, by dsimp only; omega, by dsimp only; omega, by dsimp only; omega⟩, rfl, rfl, rfl, rfl⟩,
      hBy.grown r7 hBy.size (fun k hk => by cases hk; exact Nat.le_refl _)⟩
  · rw [decide_eq_false hE]
    have HF : Hid (decoded l = ⟨0, 0, 0, [], 15⟩) := by
      show _ = _
      rw [HG.out, HPO.out, if_neg (fun h => hE (HE.out.2 h))]
    clear hE
    go_wp2_with ((with_reducible refine is_store 114 ?_); refine wp_storeB _ _ _ [.int .i64 0, .int .u64 0, .int .i64 0, .slice none 0 0] hPy refPageN rfl (by decide) rfl rfl ?_; intro w3 hP3 r3; go_frame)
    obtain ⟨k0, k1, k2, k3⟩ := hP3.c4
    rw [HF.out]
    refine bodyPost_ret (v := .tuple #[noPg.v, .int .i64 15]) (by simp [results, Tryd.results55, go_sem, k0, k1, k2, k3]; rfl) rfl ?_
    exact ⟨noPg, rfl, noReads _ _, hBy.grown r3 hBy.size (fun k hk => by cases hk; exact Nat.le_refl _)⟩
end Go.Proofs.YtanglofabkbllaaDoor
