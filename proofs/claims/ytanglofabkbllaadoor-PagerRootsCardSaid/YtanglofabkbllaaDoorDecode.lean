/- Decode of package page, walked. Conditions: the table of remainders is laid; the bytes read. -/
import Derived.Test.YtanglofabkbllaaDoorHelp
set_option linter.unusedSimpArgs false
set_option linter.unusedVariables false
namespace Go.Proofs.YtanglofabkbllaaDoor
open Go.RowKit

/-- the page p reads as what decoding gives -/
structure Reads (w : World) (p : Pg) (d : Dec) : Prop where
  ok : p.ok w
  id : p.id = d.id
  stamp : p.stamp = d.stamp
  kind : p.kind = d.kind
  body : p.l = d.body
def noPg : Pg := ⟨0, 0, 0, none, 0, 0, []⟩
theorem noReads (w : World) (e : Int) : Reads w noPg ⟨0, 0, 0, [], e⟩ := ⟨⟨RL.nil w 1 none, Nat.le_refl _, by decide, by decide, by decide, by decide, by decide, by decide⟩, rfl, rfl, rfl, rfl⟩

theorem pageN : (Tryd.prog.info? 85).map (·.size) = some 4 := by kernel_rfl

theorem arrPg : ArrT Tryd.prog 85 noPg.cs := by
  unfold ArrT
  kernel_rfl

theorem copied_all (xs : List Value) (z : Value) (n : Nat) (h : xs.length = n) : List.take 0 (List.replicate n z) ++ List.take (min n n) xs ++ List.drop (0 + min n n) (List.replicate n z) = xs := by
  subst h
  simp

theorem decode_short (A : Option Addr) (n c : Nat) (w : World) (hn : n ≠ 1024) :
    Calls Tryd.prog 66 #[.slice A n c] w fun e w' => e = .returned (.tuple #[noPg.v, .int .i64 15]) ∧ Below w.heap.size w w' := by
  have h1 : ((n : Int) != 1024) = true := by rw [bne_iff_ne]; omega
  have h2 : ((n : Int) == 1024) = false := by rw [beq_eq_false_iff_ne]; omega
  go_enter Tryd.func66, Tryd.ntmps66
  go_wp2_with fail
  refine bodyPost_ret (by simp [results, Tryd.results66, go_sem]; try rfl) rfl ?_
  exact ⟨rfl, (Below.refl _ _).alloc (Nat.le_refl _) _⟩

theorem decode_sum (A : Option Addr) (c : Nat) (l : List UInt8) (w : World) (hT : Tab w) (hb : RB w A 1024 l) (hc : 1024 ≤ c) (hm : c ≤ 9223372036854775807) (hbad : l.drop 1020 ≠ sumBytes (Crc.crc (l.take 1020))) :
    Calls Tryd.prog 66 #[.slice A 1024 c] w fun e w' => e = .returned (.tuple #[noPg.v, .int .i64 29]) ∧ Below w.heap.size w w' := by
  go_enter Tryd.func66, Tryd.ntmps66
  go_wp2_with fail
  have hP : Blk (w.alloc (.cells #[.int .i64 0, .int .u64 0, .int .i64 0, .slice none 0 0] 85)) w.heap.size 85 [.int .i64 0, .int .u64 0, .int .i64 0, .slice none 0 0] := Blk.new w _ _
  have hB : Below w.heap.size w (w.alloc (.cells #[.int .i64 0, .int .u64 0, .int .i64 0, .slice none 0 0] 85)) := (Below.refl _ _).alloc (Nat.le_refl _) _
  have hS : (w.alloc (.cells #[.int .i64 0, .int .u64 0, .int .i64 0, .slice none 0 0] 85)).heap.size = w.heap.size + 1 := by simp
  generalize (w.alloc (.cells #[.int .i64 0, .int .u64 0, .int .i64 0, .slice none 0 0] 85)) = w1 at hP hB hS ⊢
  refine (split_bad A 1020 c l _ (hT.keep hB) (hb.below hB) (by omega) hm hbad).mono ?_
  rintro e w2 ⟨rfl, hb2⟩
  have hP2 := hP.keep hb2
  obtain ⟨g0, g1, g2, g3⟩ := hP2.c4
  have hz : w.heap.size < w2.heap.size := hP2.lt
  go_wp2_with ((with_reducible refine is_store 85 ?_); refine wp_storeB _ _ _ [.int .i64 0, .int .u64 0, .int .i64 0, .slice none 0 0] hP2 pageN rfl (by decide) rfl rfl ?_; intro w3 hP3 r3; go_frame)
  obtain ⟨k0, k1, k2, k3⟩ := hP3.c4
  refine bodyPost_ret (v := .tuple #[noPg.v, .int .i64 29]) (by simp [results, Tryd.results66, go_sem, k0, k1, k2, k3]; rfl) rfl ?_
  exact ⟨rfl, (hB.trans (hb2.mono hB.size)).grown r3 (hB.trans (hb2.mono hB.size)).size (fun k hk => by cases hk; exact Nat.le_refl _)⟩

set_option maxRecDepth 100000 in
set_option maxHeartbeats 2000000 in
theorem decode_form (A : Option Addr) (c : Nat) (d : List UInt8) (w : World) (hT : Tab w) (hb : RB w A 1024 (sealed d)) (hd : d.length = 1020) (hc : 1024 ≤ c) (hm : c ≤ 9223372036854775807) :
    Calls Tryd.prog 66 #[.slice A 1024 c] w fun e w' => ∃ p : Pg, e = .returned (.tuple #[p.v, .int .i64 (pageOf d).err]) ∧ Reads w' p (pageOf d) ∧ Below w.heap.size w w' := by
  have HD := hid hd
  go_enter Tryd.func66, Tryd.ntmps66
  go_wp2_with fail
  have hP : Blk (w.alloc (.cells #[.int .i64 0, .int .u64 0, .int .i64 0, .slice none 0 0] 85)) w.heap.size 85 [.int .i64 0, .int .u64 0, .int .i64 0, .slice none 0 0] := Blk.new w _ _
  have hB : Below w.heap.size w (w.alloc (.cells #[.int .i64 0, .int .u64 0, .int .i64 0, .slice none 0 0] 85)) := (Below.refl _ _).alloc (Nat.le_refl _) _
  have hS : (w.alloc (.cells #[.int .i64 0, .int .u64 0, .int .i64 0, .slice none 0 0] 85)).heap.size = w.heap.size + 1 := by simp
  generalize (w.alloc (.cells #[.int .i64 0, .int .u64 0, .int .i64 0, .slice none 0 0] 85)) = w1 at hP hB hS ⊢
  refine (split_good A 1020 c d _ (hT.keep hB) (hb.below hB) (by omega) (by omega) hm hd).mono ?_
  rintro e w2 ⟨v, rfl, hown, hb2⟩
  rw [hd] at hown
  clear hd
  obtain ⟨A2, c2, rfl, hr2, hc2, hm2⟩ := own_form hown
  have hr2' : RB w2 A2 1020 d := hr2
  go_wp2_with fail
  obtain ⟨b, off, rfl, hbs, hcell⟩ := hr2.2 (by omega)
  have HC := hid hcell
  clear hcell
  have s1 : ∀ x : Ext w2, RB x.w (some ⟨b, off + 4, none⟩) 4 ((d.drop 4).take 4) := fun x => (hr2'.below x.h).sub 4 4 (by omega)
  have s2 : ∀ x : Ext w2, RB x.w (some ⟨b, off + 18, none⟩) 2 ((d.drop 18).take 2) := fun x => (hr2'.below x.h).sub 18 2 (by omega)
  (refine wp_region_ext (by kernel_rfl) (by kernel_rfl) ?_; (repeat (go_big_quiet_step ((go_at_call 77; first | exact Ext.calls_same _ (value_any _ _ _ _ _ (s1 _) (by omega)) | exact Ext.calls_same _ (value_any _ _ _ _ _ (s2 _) (by omega)))))); refine wpQuiet_nil ?_; rintro _ ⟨y, rfl⟩)
  clear s1 s2
  have hry : RB y.w (some ⟨b, off, none⟩) 1020 d := hr2'.below y.h
  have hPy := (hP.keep hb2).keep y.h
  have hBy := (hB.trans (hb2.mono hB.size)).trans (y.h.mono (hB.trans (hb2.mono hB.size)).size)
  clear hr2 hr2' hown hP hb2 hB hS
  have k1 := run_str (hry.pre (k := 4) (by omega)) 40 9 5 c2 Tryd.underlying40 Tryd.underlying5 Tryd.underlying9
  generalize hid_ : num ((d.drop 4).take 4) = idn at *
  generalize hln_ : num ((d.drop 18).take 2) = len at *
  obtain ⟨b', off', x, hbx, _, hx, hcx⟩ := hry.at (k := 17) (by omega)
  cases hbx
  have HX := hid hx
  clear hx
  by_cases e1 : d.take 4 = [79, 80, 71, 49]
  rotate_left
  · have HF : Hid (pageOf d = ⟨0, 0, 0, [], 15⟩) := by
      show _ = _
      unfold pageOf
      rw [if_neg]
      rintro ⟨a1, a2, a3, a4, a5⟩
      exact e1 a1
    generalize (d.take 4) = d4 at *
    clear hid_ hln_
    go_wp2_with ((with_reducible refine is_store 85 ?_); refine wp_storeB _ _ _ [.int .i64 0, .int .u64 0, .int .i64 0, .slice none 0 0] hPy pageN rfl (by decide) rfl rfl ?_; intro w3 hP3 r3; go_frame)
    obtain ⟨k0, k1, k2, k3⟩ := hP3.c4
    rw [HF.out]
    refine bodyPost_ret (v := .tuple #[noPg.v, .int .i64 15]) (by simp [results, Tryd.results66, go_sem, k0, k1, k2, k3]; rfl) rfl ?_
    exact ⟨noPg, rfl, noReads _ _, hBy.grown r3 hBy.size (fun k hk => by cases hk; exact Nat.le_refl _)⟩
  by_cases e2 : idn ≤ 2147483647
  rotate_left
  · have HF : Hid (pageOf d = ⟨0, 0, 0, [], 15⟩) := by
      show _ = _
      unfold pageOf
      rw [if_neg]
      rintro ⟨a1, a2, a3, a4, a5⟩
      exact e2 (hid_ ▸ a2)
    have e2 : decide ((2147483647 : Int) < (idn : Int)) = true := by simp; omega
    generalize (d.take 4) = d4 at *
    clear hid_ hln_
    go_wp2_with ((with_reducible refine is_store 85 ?_); refine wp_storeB _ _ _ [.int .i64 0, .int .u64 0, .int .i64 0, .slice none 0 0] hPy pageN rfl (by decide) rfl rfl ?_; intro w3 hP3 r3; go_frame)
    obtain ⟨k0, k1, k2, k3⟩ := hP3.c4
    rw [HF.out]
    refine bodyPost_ret (v := .tuple #[noPg.v, .int .i64 15]) (by simp [results, Tryd.results66, go_sem, k0, k1, k2, k3]; rfl) rfl ?_
    exact ⟨noPg, rfl, noReads _ _, hBy.grown r3 hBy.size (fun k hk => by cases hk; exact Nat.le_refl _)⟩
  by_cases e3 : x = 0
  rotate_left
  · have HF : Hid (pageOf d = ⟨0, 0, 0, [], 15⟩) := by
      show _ = _
      unfold pageOf
      rw [if_neg]
      rintro ⟨a1, a2, a3, a4, a5⟩
      rw [HX.out] at a3; exact e3 (Option.some.inj a3)
    have e3 : ¬ N8 x = 0 := fun h => e3 (N8_inj h)
    have e2 : decide ((2147483647 : Int) < (idn : Int)) = false := by simp; omega
    generalize (d.take 4) = d4 at *
    clear hid_ hln_
    go_wp2_with ((with_reducible refine is_store 85 ?_); refine wp_storeB _ _ _ [.int .i64 0, .int .u64 0, .int .i64 0, .slice none 0 0] hPy pageN rfl (by decide) rfl rfl ?_; intro w3 hP3 r3; go_frame)
    obtain ⟨k0, k1, k2, k3⟩ := hP3.c4
    rw [HF.out]
    refine bodyPost_ret (v := .tuple #[noPg.v, .int .i64 15]) (by simp [results, Tryd.results66, go_sem, k0, k1, k2, k3]; rfl) rfl ?_
    exact ⟨noPg, rfl, noReads _ _, hBy.grown r3 hBy.size (fun k hk => by cases hk; exact Nat.le_refl _)⟩
  subst e3
  by_cases e4 : len ≤ 1000
  rotate_left
  · have HF : Hid (pageOf d = ⟨0, 0, 0, [], 15⟩) := by
      show _ = _
      unfold pageOf
      rw [if_neg]
      rintro ⟨a1, a2, a3, a4, a5⟩
      exact e4 (hln_ ▸ a4)
    have e4 : decide ((1000 : Int) < (len : Int)) = true := by simp; omega
    have e3 : N8 (0 : UInt8) = 0 := rfl
    have e2 : decide ((2147483647 : Int) < (idn : Int)) = false := by simp; omega
    generalize (d.take 4) = d4 at *
    clear hid_ hln_
    go_wp2_with ((with_reducible refine is_store 85 ?_); refine wp_storeB _ _ _ [.int .i64 0, .int .u64 0, .int .i64 0, .slice none 0 0] hPy pageN rfl (by decide) rfl rfl ?_; intro w3 hP3 r3; go_frame)
    obtain ⟨k0, k1, k2, k3⟩ := hP3.c4
    rw [HF.out]
    refine bodyPost_ret (v := .tuple #[noPg.v, .int .i64 15]) (by simp [results, Tryd.results66, go_sem, k0, k1, k2, k3]; rfl) rfl ?_
    exact ⟨noPg, rfl, noReads _ _, hBy.grown r3 hBy.size (fun k hk => by cases hk; exact Nat.le_refl _)⟩
  have e3' : N8 (0 : UInt8) = 0 := rfl
  have e2' : decide ((2147483647 : Int) < (idn : Int)) = false := by simp; omega
  have e4' : decide ((1000 : Int) < (len : Int)) = false := by simp; omega
  have HCut := hid (hry.cut (k := 20 + len) (cap := c2) (by omega) hc2)
  have H1 := hid e1
  generalize (d.take 4) = d4 at e1 k1
  have ks := run_from (P := Tryd.prog) 40 5 Tryd.underlying40 oneByte (some ⟨b, off, none⟩) 1020 c2 (20 + len) .i64 ((20 : Int) + len) (by omega) (by omega) y.w
  generalize (if c2 = 20 + len then some ⟨b, off, none⟩ else (some ⟨b, off, none⟩ : Option Addr).map (·.add (20 + len))) = A3 at ks HCut
  go_wp2_with fail
  clear e1 e2' e4' e3' k1 ks hcx
  go_loopw [57] (fun i wr => ∃ k : Nat, k ≤ 1020 - (20 + len) ∧ i = .int .i64 k ∧ Hid (∀ j, j < k → (d.drop (20 + len))[j]? = some 0) ∧ wr = y.w) (fun i _ => 1020 - (20 + len) - (intOf i).toNat)
  case atStart => exact ⟨0, Nat.zero_le _, rfl, fun j hj => absurd hj (by omega), rfl⟩
  case round =>
    obtain ⟨k, hk, rfl, HJ, rfl⟩ := hrel
    by_cases hlt : k < 1020 - (20 + len)
    · obtain ⟨b3, o3, u, rfl, _, hu, hcu⟩ := HCut.out.at hlt
      by_cases hz : u = 0
      · subst hz
        have HU := hid hu
        clear hu
        go_wp2_with fail
        go_roundw
        case rel =>
          refine ⟨k + 1, by omega, by go_num, ?_, trivial⟩
          intro j hj
          rcases Nat.lt_succ_iff_lt_or_eq.1 hj with h | rfl
          · exact HJ.out j h
          · exact HU.out
        case measure => simp [intOf]; omega
      · have hz2 : ¬ N8 u = 0 := fun h => hz (N8_inj h)
        have HF : Hid (pageOf d = ⟨0, 0, 0, [], 15⟩) := by
          show _ = _
          unfold pageOf
          rw [if_neg]
          rintro ⟨a1, a2, a3, a4, a5⟩
          rw [hln_] at a5
          have := List.all_eq_true.1 a5 u (List.mem_of_getElem? hu)
          exact hz (by simpa using this)
        clear hu hid_ hln_
        go_wp2_with ((with_reducible refine is_store 85 ?_); refine wp_storeB _ _ _ [.int .i64 0, .int .u64 0, .int .i64 0, .slice none 0 0] hPy pageN rfl (by decide) rfl rfl ?_; intro w3 hP3 r3; go_frame)
        obtain ⟨k0, k1, k2, k3⟩ := hP3.c4
        rw [HF.out]
        refine bodyPost_ret (v := .tuple #[noPg.v, .int .i64 15]) (by simp [results, Tryd.results66, go_sem, k0, k1, k2, k3]; rfl) rfl ?_
        exact ⟨noPg, rfl, noReads _ _, hBy.grown r3 hBy.size (fun k hk => by cases hk; exact Nat.le_refl _)⟩
    · obtain rfl : k = 1020 - (20 + len) := by omega
      have HZ : Hid ((d.drop (20 + len)).all (· == 0) = true) := by
        show _ = _
        rw [List.all_eq_true]
        intro u hu
        obtain ⟨j, hj⟩ := List.getElem?_of_mem hu
        have hjl := (List.getElem?_eq_some_iff.1 hj).1
        rw [List.length_drop, HD.out] at hjl
        rw [HJ.out j hjl] at hj
        simpa using (Option.some.inj hj).symm
      obtain ⟨b4, o4, k16, hbx, _, h16, hc16⟩ := hry.at (k := 16) (by omega)
      cases hbx
      have HF : Hid (pageOf d = ⟨idn, num ((d.drop 8).take 8), k16.toNat, (d.drop 20).take len, 0⟩) := by
        show _ = _
        unfold pageOf
        rw [hid_, hln_, if_pos ⟨H1.out, e2, HX.out, e4, HZ.out⟩]
        congr 1
        rw [List.getD_eq_getElem?_getD, h16]; rfl
      clear h16 hid_ hln_ HCut HJ HZ HX H1 HC hT hb HD
      obtain ⟨stamp, hst⟩ : ∃ s, num ((d.drop 8).take 8) = s := ⟨_, rfl⟩
      rw [hst] at HF
      have HST := hid hst
      clear hst
      go_wp2_with fail
      have s3 : ∀ (x : Ext y.w) (z : Ext x.w), RB z.w (some ⟨b, off + 8, none⟩) 8 ((d.drop 8).take 8) := fun x z => ((hry.below x.h).below z.h).sub 8 8 (by omega)
      have l16 := N8_lo k16
      have u16 := N8_hi k16
      have s5 : ∀ (x : Ext y.w) (z : Ext x.w), Calls Tryd.prog 77 #[.slice (some ⟨b, off + 8, none⟩) 8 (c2 - 8)] z.w fun e w' => e = .returned (.int .u64 stamp) ∧ z.w = w' := fun x z => by
        have := value_any _ 8 (c2 - 8) _ _ (s3 x z) (by omega)
        rwa [HST.out] at this
      have c3 : ∀ (x : Ext y.w) (z : Ext x.w), z.w.cell? ⟨b, off + 16, none⟩ = some (.int .u8 (N8 k16)) := fun x z => Ext.cell (Ext.cell hc16 x) z
      refine wp_region_tailU 11 (fun k => ([(fun u => u = .int .u64 idn), (fun u => u = .int .i64 idn), (fun u => u = .slice (some ⟨b, off, none⟩) 1020 c2), (fun u => u = .slice (some ⟨b, off + 8, none⟩) 8 (c2 - 8)), (fun u => u = .int .u64 stamp),
        (fun u => u = .slice (some ⟨b, off, none⟩) 1020 c2), (fun u => u = .pointer (some ⟨b, off + 16, none⟩)), (fun u => u = .int .u8 (N8 k16)), (fun u => u = .int .i64 (N8 k16)), (fun u => u = .agg #[.int .i64 idn, .int .u64 stamp, .int .i64 (N8 k16), .slice none 0 0]),
        (fun u => ∃ g, y.w.heap.size ≤ g ∧ u = .pointer (some ⟨g, 0, none⟩))] : List (Value → Prop)).getD k (fun _ => True))
        (Ptrs y.w.heap.size [(11, 85)] (fun _ => noPg.cs)) (by kernel_rfl) (by kernel_rfl) ?_ ?_ ?_
      · intro o ho
        refine pres_ptr (Nat.le_refl _) ?_ ?_
        · intro x hx
          simp only [List.mem_cons, List.not_mem_nil, or_false] at hx
          subst hx
          exact arrPg
        · revert o ho
          exact List.all_eq_true.1 (by kernel_rfl)
      · refine Ptrs.start ?_
        intro x hx
        simp only [List.mem_cons, List.not_mem_nil, or_false] at hx
        subst hx
        rfl
      · simp only [List.take_succ_cons, List.take_zero]
        (refine wpU_quiet ((.int .u64 idn)) rfl (of_decide_eq_true (by kernel_rfl)) rfl (fun _ => ?_); go_big_quiet_step ((fail)); refine wpQuiet_nil ⟨rfl, ?_⟩)
        (refine wpU_quiet ((.int .i64 idn)) rfl (of_decide_eq_true (by kernel_rfl)) rfl (fun _ => ?_); go_big_quiet_step ((fail)); refine wpQuiet_nil ⟨rfl, ?_⟩)
        (refine wpU_quiet ((.slice (some ⟨b, off, none⟩) 1020 c2)) rfl (of_decide_eq_true (by kernel_rfl)) rfl (fun _ => ?_); go_big_quiet_step ((fail)); refine wpQuiet_nil ⟨rfl, ?_⟩)
        (refine wpU_quiet ((.slice (some ⟨b, off + 8, none⟩) 8 (c2 - 8))) rfl (of_decide_eq_true (by kernel_rfl)) rfl (fun _ => ?_); go_big_quiet_step ((fail)); refine wpQuiet_nil ⟨rfl, ?_⟩)
        (refine wpU_quiet ((.int .u64 stamp)) rfl (of_decide_eq_true (by kernel_rfl)) rfl (fun _ => ?_); go_big_quiet_step ((go_at_call 77; exact Ext.calls_same _ (s5 _ _))); refine wpQuiet_nil ⟨rfl, ?_⟩)
        (refine wpU_quiet ((.slice (some ⟨b, off, none⟩) 1020 c2)) rfl (of_decide_eq_true (by kernel_rfl)) rfl (fun _ => ?_); go_big_quiet_step ((fail)); refine wpQuiet_nil ⟨rfl, ?_⟩)
        (refine wpU_quiet ((.pointer (some ⟨b, off + 16, none⟩))) rfl (of_decide_eq_true (by kernel_rfl)) rfl (fun _ => ?_); go_big_quiet_step ((fail)); refine wpQuiet_nil ⟨rfl, ?_⟩)
        (refine wpU_quiet ((.int .u8 (N8 k16))) rfl (of_decide_eq_true (by kernel_rfl)) rfl (fun _ => ?_); go_big_quiet_step ((fail)); refine wpQuiet_nil ⟨rfl, ?_⟩)
        (refine wpU_quiet ((.int .i64 (N8 k16))) rfl (of_decide_eq_true (by kernel_rfl)) rfl (fun _ => ?_); go_big_quiet_step ((fail)); refine wpQuiet_nil ⟨rfl, ?_⟩)
        (refine wpU_quiet ((.agg #[.int .i64 idn, .int .u64 stamp, .int .i64 (N8 k16), .slice none 0 0])) rfl (of_decide_eq_true (by kernel_rfl)) rfl (fun _ => ?_); go_big_quiet_step ((fail)); refine wpQuiet_nil ⟨rfl, ?_⟩)
        refine wpU_alloc _ arrPg rfl (fun g hg => ?_)
        intro w2 hB2 hΦ
        obtain ⟨p4, hp4, hq4, hz4⟩ := (hΦ.each (11, 85) (by simp)).resolve_left (by intro h; cases h)
        cases hq4
        clear hΦ s3 s5 c3
        simp only [List.drop_succ_cons, List.drop_zero]
        have hPz := hPy.keep hB2
        have hBz := hBy.trans (hB2.mono hBy.size)
        clear hc16
        refine wp_storeB g _ _ [.int .i64 idn, .int .u64 stamp, .int .i64 (N8 k16), .slice none 0 0] hz4 pageN rfl (by simp [Value.oneCell']) rfl rfl (fun w3 k4 r3 => ?_)
        go_frame
        have hB3 : Below w.heap.size w w3 := hBz.grown r3 hBz.size (fun k hk => by cases hk; exact Nat.le_trans hBy.size hg)
        have hP3 := hPz.grown r3 (by intro h; cases h; exact absurd hPy.lt (Nat.not_lt.2 hg))
        have hr3 := hry.below (hB2.grown r3 hB2.size (fun k hk => by cases hk; exact hg))
        go_wp2_with (at_make; refine wp_make _ rfl _ _ 40 rfl w.heap.size 5 _ 1 bytesT rfl .u64 .u64 _ _ len rfl rfl rfl rfl (by omega) (by unfold maxLen; omega) hB3.size ?_; intro w4 hown4 r4; go_frame; have k5 := k4.grown r4 (by intro h; cases h); obtain ⟨a0, a1, a2, a3⟩ := k5.c4; have a4 := k5.fz)
        have kP := k5.set_ 3 (.slice (some ⟨w3.heap.size, 0, none⟩) len len)
        have rP := k5.setg 3 (.slice (some ⟨w3.heap.size, 0, none⟩) len len)
        have lg := k4.lt
        have lw := hP3.lt
        have ng : g ≠ w.heap.size := by have := hBy.size; have := hPy.lt; omega
        have kB := (own_blk hown4).grown rP (by simp; omega)
        have hP5 := (hP3.grown r4 (by intro h; cases h)).grown rP (by simpa using ng)
        have hB5 := (hB3.grown r4 hB3.size (fun k hk => by cases hk)).grown rP (by have := r4.size; have := hB3.size; omega) (fun k hk => by cases hk; exact Nat.le_trans hBy.size hg)
        have hr5 : RB (w4.setCell ⟨g, 3, none⟩ (.slice (some ⟨w3.heap.size, 0, none⟩) len len)) (some ⟨b, off, none⟩) 1020 d :=
          hry.below ((((hB2.grown r3 hB2.size (fun k hk => by cases hk; exact hg))).grown r4 (hB2.grown r3 hB2.size (fun k hk => by cases hk; exact hg)).size (fun k hk => by cases hk)).grown rP (by have := r4.size; have := r3.size; have := hB2.size; omega) (fun k hk => by cases hk; exact hg))
        clear a0 a1 a2 a3 a4 k5 rP r4 r3 hown4 hr3 hP3 hB3 k4 hz4 hBz hPz hB2 hBy hPy
        generalize w4.setCell _ _ = w5 at kP kB hP5 hB5 hr5 ⊢
        have nn : w3.heap.size ≠ g := by omega
        generalize w3.heap.size = gb at *
        obtain ⟨a0, a1, a2, a3⟩ := kP.c4
        dsimp only [List.set_cons_succ, List.set_cons_zero] at kP a3
        have ks2 : ∀ wx, (Instr.slice 40 (.slice (some ⟨b, off, none⟩) 1020 c2) (some (.int .i64 20)) (some (.int .i64 ((20 : Int) + len))) none).run Tryd.prog wx = .ok (.slice (some ⟨b, off + 20, none⟩) len (c2 - 20)) wx := fun wx => by
          have := run_part (P := Tryd.prog) 40 5 Tryd.underlying40 oneByte (some ⟨b, off, none⟩) 1020 c2 20 (20 + len) .i64 .i64 20 ((20 : Int) + len) rfl (by omega) (by omega) (by omega) wx
          rw [if_neg (by omega), show 20 + len - 20 = len by omega] at this
          simpa [add_spot] using this
        go_still_tail 5, (by kernel_rfl)
        clear ks2 a0 a1 a2 a3
        refine wp_copyB gb 0 len len 5 _ _ (show Blk w5.drew _ _ _ from kB) Tryd.underlying40 oneByte (some ⟨b, off + 20, none⟩) len (c2 - 20) _ (show RL w5.drew 1 _ _ _ from hr5.sub 20 len (by omega)) (byV_one _) rfl rfl (by simp) (fun w6 kB6 r6 => ?_)
        go_frame
        have kP6 := Blk.grown (show Blk w5.drew _ _ _ from kP) r6 (by simpa using nn)
        have hP6 := Blk.grown (show Blk w5.drew _ _ _ from hP5) r6 (by simp; omega)
        have hB6 := hB5.drew.grown r6 hB5.drew.size (fun k hk => by cases hk; exact Nat.le_of_lt lw)
        obtain ⟨a0, a1, a2, a3⟩ := kP6.c4
        have hl20 : ((d.drop 20).take len).length = len := by have := hr5.len; simp; omega
        have eB : (List.take 0 (List.replicate len (Value.int .u8 0)) ++ List.take (min len len) (List.map byV (List.take len (List.drop 20 d))) ++ List.drop (0 + min len len) (List.replicate len (Value.int .u8 0))) = ((d.drop 20).take len).map byV := by
          exact copied_all _ _ _ (by rw [List.length_map, hl20])
        rw [eB] at kB6
        have HB6 := hid (kB6.list (n := len) (by rw [List.length_map, hl20]))
        have HL := hid (num_lt ((d.drop 8).take 8))
        clear eB kB6 hl20 kB hP5 hB5 kP hr5 r6
        go_wp2_with ((with_reducible refine is_store 85 ?_); refine wp_storeB _ _ _ [.int .i64 idn, .int .u64 stamp, .int .i64 (N8 k16), .slice (some ⟨gb, 0, none⟩) len len] hP6 pageN rfl (by simp [Value.oneCell']) rfl rfl ?_; intro w7 hP7 r7; go_frame)
        obtain ⟨k0, k1, k2, k3⟩ := hP7.c4
        rw [HF.out]
        refine bodyPost_ret (v := .tuple #[pageV idn stamp (N8 k16) (some ⟨gb, 0, none⟩) len len, .int .i64 0]) (by simp [results, Tryd.results66, go_sem, k0, k1, k2, k3]; rfl) rfl ?_
        have hs : stamp < 18446744073709551616 := by
          have := HL.out
          rw [HST.out] at this
          have h8 : 256 ^ ((d.drop 8).take 8).length ≤ 256 ^ 8 := Nat.pow_le_pow_right (by omega) (by simp; omega)
          omega
        exact ⟨⟨idn, stamp, N8 k16, some ⟨gb, 0, none⟩, len, len, (d.drop 20).take len⟩, rfl,
          ⟨⟨RL.grown (show RB w6 _ _ _ from HB6.out) r7 (fun k hk _ b' o' hb' => by cases hk; cases hb'; omega), Nat.le_refl _, by dsimp only; omega, hs, by dsimp only; omega, by dsimp only; omega, by dsimp only; omega, by dsimp only; omega⟩, rfl, rfl, rfl, rfl⟩,
          hB6.grown r7 hB6.size (fun k hk => by cases hk; exact Nat.le_refl _)⟩
end Go.Proofs.YtanglofabkbllaaDoor
