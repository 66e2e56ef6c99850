/- The law's played, walked. Conditions: the acts read. -/
import Derived.Test.YthpalmncfcahkaaDoes
import Derived.Test.YthpalmncfcahkaaFree
set_option linter.unusedSimpArgs false
set_option linter.unusedVariables false
namespace Go.Proofs.Ythpalmncfcahkaa
open Go.RowKit

/-- the plain disk after some acts -/
def played (n : Nat) (X : List Ac) : Dk := X.foldl doK (Dk.new n)
theorem foldl_take (n k : Nat) (X : List Ac) (x : Ac) (h : X[k]? = some x) : played n (X.take (k + 1)) = doK (played n (X.take k)) x := by
  unfold played
  rw [List.take_add_one, h, List.foldl_append]
  rfl
theorem played_n (n : Nat) : ∀ (X : List Ac) (D : Dk), (X.foldl doK D).n = D.n
  | [], _ => rfl
  | x :: X, D => by rw [List.foldl_cons, played_n n X, doK_n]
theorem played_W : ∀ (X : List Ac) (D : Dk), (X.foldl doK D).W.length ≤ D.W.length + X.length
  | [], D => Nat.le_refl _
  | x :: X, D => by
    rw [List.foldl_cons, List.length_cons]
    have := played_W X (doK D x)
    have := doK_W D x
    omega

set_option maxRecDepth 100000 in
set_option maxHeartbeats 4000000 in
theorem played_any (q : Nat) (A : Option Addr) (m c : Nat) (X : List Ac) (w : World) (h1 : 1 ≤ q) (h2 : q ≤ 12) (hm : m ≤ 60) (hX : X.length = m) (hr : RL w 5 A m (X.flatMap Ac.cs)) (hok : ∀ x ∈ X, x.ok) (hmc : m ≤ c) (hc : c ≤ 9223372036854775807) :
    Calls Try.prog 22 #[.int .i64 q, .slice A m c] w fun e w' => ∃ d : DV, e = .returned d.v ∧ DkV w' d (played q X) ∧ Below w.heap.size w w' := by
  have HOK := hid hok
  have HX := hid hX
  clear hok hX
  go_enter Try.func22, Try.ntmps22
  go_wp2_with fail
  have hP : Blk (w.alloc (.cells #[.int .i64 0, .pointer none, .pointer none, .pointer none, .int .i64 0] 25)) w.heap.size 25 [.int .i64 0, .pointer none, .pointer none, .pointer none, .int .i64 0] := Blk.new w _ _
  have hB : Below w.heap.size w (w.alloc (.cells #[.int .i64 0, .pointer none, .pointer none, .pointer none, .int .i64 0] 25)) := (Below.refl _ _).alloc (Nat.le_refl _) _
  have hS : (w.alloc (.cells #[.int .i64 0, .pointer none, .pointer none, .pointer none, .int .i64 0] 25)).heap.size = w.heap.size + 1 := by simp
  generalize (w.alloc (.cells #[.int .i64 0, .pointer none, .pointer none, .pointer none, .int .i64 0] 25)) = w0 at hP hB hS ⊢
  have hG0 : w.heap.size < w0.heap.size := by omega
  have B0 := hB
  have K0 := hP
  clear hB hP hS
  refine (new_ok q _ h1 (by omega)).mono ?_
  rintro e w1 ⟨rfl, b1⟩
  have K1 := K0.keep b1
  have B1 := B0.trans (b1.mono B0.size)
  clear K0 B0
  simp only [DV.v, show ((0 : Nat) : Int) = 0 from rfl]
  go_wp2_with fail
  have hP : Blk (w1.alloc (.cells #[.int .i64 q, .pointer none, .pointer none, .pointer none, .int .i64 0] 25)) w1.heap.size 25 [.int .i64 q, .pointer none, .pointer none, .pointer none, .int .i64 0] := Blk.new w1 _ _
  have hB : Below w1.heap.size w1 (w1.alloc (.cells #[.int .i64 q, .pointer none, .pointer none, .pointer none, .int .i64 0] 25)) := (Below.refl _ _).alloc (Nat.le_refl _) _
  have hS : (w1.alloc (.cells #[.int .i64 q, .pointer none, .pointer none, .pointer none, .int .i64 0] 25)).heap.size = w1.heap.size + 1 := by simp
  generalize (w1.alloc (.cells #[.int .i64 q, .pointer none, .pointer none, .pointer none, .int .i64 0] 25)) = w2 at hP hB hS ⊢
  have D2 : Bx w2 w1.heap.size ⟨q, none, none, none, 0⟩ (Dk.new q) := ⟨hP, DkV.new w2 q (by omega)⟩
  have B2 := B1.trans (hB.mono B1.size)
  have K2 := K1.keep hB
  have hG : w.heap.size < w1.heap.size := by have := b1.size; omega
  clear b1 hB hS hP K1 B1 hG0
  generalize w1.heap.size = G at *
  go_loopw [16] (fun i wr => ∃ (k : Nat) (d : DV), k ≤ m ∧ i = .int .i64 k ∧ Bx wr G d (played q (X.take k)) ∧ Blk wr w.heap.size 25 [.int .i64 0, .pointer none, .pointer none, .pointer none, .int .i64 0] ∧ Below w.heap.size w wr) (fun i _ => m - (intOf i).toNat)
  case atStart => exact ⟨0, _, Nat.zero_le _, rfl, D2, K2, B2⟩
  case round =>
    obtain ⟨k, d, hk, rfl, Dr, Kr, hbel⟩ := hrel
    clear D2 K2 B2
    by_cases hlt : k < m
    · obtain ⟨b, off, a, rfl, hbb, hx, hcell⟩ := (hr.below hbel).el (f := Ac.cs) ac_len hlt (by omega)
      have e0 := hcell 0 _ rfl
      have e1 := hcell 1 _ rfl
      have e2 := hcell 2 _ rfl
      have e3 := hcell 3 _ rfl
      have e4 := hcell 4 _ rfl
      rw [Nat.add_zero] at e0
      have ha := HOK.out a (List.mem_of_getElem? hx)
      have hnext := foldl_take q k X a hx
      clear hcell hx
      obtain ⟨act, at_, aa, ab, ch⟩ := a
      dsimp only at e0 e1 e2 e3 e4
      obtain ⟨D, hD⟩ : ∃ z, played q (X.take k) = z := ⟨_, rfl⟩
      have hDn : D.n = q := by rw [← hD]; exact played_n q _ _
      have hDW : D.W.length ≤ 60 := by rw [← hD]; exact Nat.le_trans (played_W _ _) (by simp [Dk.new, List.length_take]; omega)
      rw [hD] at Dr hnext
      clear hD
      obtain ⟨D', hD'⟩ : ∃ z, doK D ⟨act, at_, aa, ab, ch⟩ = z := ⟨_, rfl⟩
      obtain ⟨x0', x1', x2', x3', x4'⟩ := Dr.k.c5
      have hgl := Dr.k.lt
      go_wp2_with fail
      have hP : Blk (wr.alloc (.cells #[.int .u8 act, .int .i16 at_, .int .u8 (N8 aa), .int .u8 (N8 ab), .int .u64 ch] 53)) wr.heap.size 53 [.int .u8 act, .int .i16 at_, .int .u8 (N8 aa), .int .u8 (N8 ab), .int .u64 ch] := Blk.new wr _ _
      have hB : Below wr.heap.size wr (wr.alloc (.cells #[.int .u8 act, .int .i16 at_, .int .u8 (N8 aa), .int .u8 (N8 ab), .int .u64 ch] 53)) := (Below.refl _ _).alloc (Nat.le_refl _) _
      have hS : (wr.alloc (.cells #[.int .u8 act, .int .i16 at_, .int .u8 (N8 aa), .int .u8 (N8 ab), .int .u64 ch] 53)).heap.size = wr.heap.size + 1 := by simp
      generalize (wr.alloc (.cells #[.int .u8 act, .int .i16 at_, .int .u8 (N8 aa), .int .u8 (N8 ab), .int .u64 ch] 53)) = w6 at hP hB hS ⊢
      have D6 := Dr.keep hB
      have K6 := Kr.keep hB
      have B6 := hbel.trans (hB.mono hbel.size)
      have A6 := hP
      clear e0 e1 e2 e3 e4 x0' x1' x2' x3' x4' hP hB hbel Kr Dr
      have hKG : ¬ G = wr.heap.size := by omega
      have hwG : ¬ G = w.heap.size := by omega
      generalize wr.heap.size = K at *
      refine wp_region_free 31 [20, 21, 22, 23, 24, 25, 26, 27, 28] (fun k => ([(fun f _ => f 21 = d.v), (fun f _ => f 22 = .int .i64 q), (fun f w' => ∃ x : Rv, f 23 = x.v ∧ RefV (fun b => b ≠ G) w' x (Dk.new q)), (fun f _ => f 24 = (⟨act, at_, aa, ab, ch⟩ : Ac).v),
        (fun f w' => ∃ (d' : DV) (x' : Rv), f 25 = .tuple #[d'.v, x'.v, .bool true] ∧ DkV w' d' D'), (fun f w' => ∃ (d' : DV) (x' : Rv), f 20 = .tuple #[d'.v, x'.v, .bool true] ∧ DkV w' d' D'), (fun f w' => ∃ d' : DV, f 26 = d'.v ∧ DkV w' d' D'),
        (fun _ _ => True), (fun _ _ => True), (fun _ w' => ∃ d' : DV, Blk w' G 25 d'.cs ∧ DkV w' d' D')] : List ((Nat → Value) → World → Prop)).getD k (fun _ _ => True))
        (fun w' => DkV w' d D ∧ Blk w' K 53 (⟨act, at_, aa, ab, ch⟩ : Ac).cs ∧ Blk w' w.heap.size 25 [.int .i64 0, .pointer none, .pointer none, .pointer none, .int .i64 0] ∧ G < w'.heap.size ∧ Below w.heap.size w w') (fun w' => Blk w' G 25 d.cs) (by kernel_rfl) rfl (by kernel_rfl) ?_ ?_ ?_ ?_ ?_ ?_ ?_ ?_
      · intro k u wa wb hb hu
        rcases k with _ | _ | _ | _ | _ | _ | _ | _ | _ | _ | k
        · exact hu
        · exact hu
        · obtain ⟨y1, y2, y3⟩ := hu; exact ⟨y1, y2, y3.keep hb⟩
        · exact hu
        · obtain ⟨y1, y2, y3, y4⟩ := hu; exact ⟨y1, y2, y3, y4.keep hb⟩
        · obtain ⟨y1, y2, y3, y4⟩ := hu; exact ⟨y1, y2, y3, y4.keep hb⟩
        · obtain ⟨y1, y2, y3⟩ := hu; exact ⟨y1, y2, y3.keep hb⟩
        · trivial
        · trivial
        · obtain ⟨y1, y2, y3⟩ := hu; exact ⟨y1, y2.keep hb, y3.keep hb⟩
        · trivial
      · rintro wa wb hb ⟨h1, h2, h3, h4, h5⟩
        exact ⟨h1.keep hb, h2.keep hb, h3.keep hb, Nat.lt_of_lt_of_le h4 hb.size, h5.trans (hb.mono h5.size)⟩
      · exact fun wa wb hb h => h.keep hb
      · have bd : Below w6.heap.size w6 w6.drew := (Below.refl _ _).drew
        exact ⟨D6.d.keep bd, A6.keep bd, K6.keep bd, Nat.lt_of_lt_of_le D6.k.lt bd.size, B6.drew⟩
      · exact D6.k.keep (Below.refl _ _).drew
      · intro k o hk f w' hB hP hU
        obtain ⟨hB1, hB2, hB3, hB4, hB5⟩ := hB
        rcases k with _ | _ | _ | _ | _ | _ | _ | _ | _ | _ | k
        · obtain rfl := Option.some.inj hk
          have hP := hP (by kernel_rfl)
          obtain ⟨x0', x1', x2', x3', x4'⟩ := hP.c5
          simp only [putAll, List.foldl_cons, List.foldl_nil]
          go_frame
          go_wp2_with fail
          exact ⟨rfl, .inl ⟨rfl, _, rfl, Below.refl _ _, fun f' h => h _ rfl⟩⟩
        · obtain rfl := Option.some.inj hk
          simp only [putAll, List.foldl_cons, List.foldl_nil]
          go_frame
          go_wp2_with fail
          exact ⟨rfl, .inl ⟨rfl, _, rfl, Below.refl _ _, fun f' h => h _ rfl⟩⟩
        · obtain rfl := Option.some.inj hk
          have u1 : f 22 = .int .i64 q := hU ⟨1, .data⟩ (by simp) rfl
          simp only [putAll, List.foldl_cons, List.foldl_nil]
          go_frame
          simp only [u1]
          go_wp2_with fail
          refine (refNew_any q w' (by omega) (fun b => b ≠ G) (fun b hb => by omega)).mono ?_
          rintro e w3 ⟨x, rfl, hx, b3⟩
          go_wp2_with fail
          exact ⟨rfl, .inl ⟨rfl, _, rfl, b3, fun f' h => ⟨x, h _ rfl, hx⟩⟩⟩
        · obtain rfl := Option.some.inj hk
          obtain ⟨x0', x1', x2', x3', x4'⟩ := hB2.c5
          simp only [putAll, List.foldl_cons, List.foldl_nil]
          go_frame
          go_wp2_with fail
          exact ⟨rfl, .inl ⟨rfl, _, rfl, Below.refl _ _, fun f' h => h _ rfl⟩⟩
        · obtain rfl := Option.some.inj hk
          have u0 : f 21 = d.v := hU ⟨0, .data⟩ (by simp) rfl
          obtain ⟨x, u2, hx⟩ : ∃ x : Rv, f 23 = x.v ∧ RefV (fun b => b ≠ G) w' x (Dk.new q) := hU ⟨2, .data⟩ (by simp) rfl
          have u3 : f 24 = (⟨act, at_, aa, ab, ch⟩ : Ac).v := hU ⟨3, .data⟩ (by simp) rfl
          have R2 := do_any (fun b => b ≠ G) d x ⟨act, at_, aa, ab, ch⟩ D (Dk.new q) w' (fun b hb => by omega) hB1 hx (by rw [hDn]; rfl) ha (by omega) (by simp [Dk.new])
          rw [hD'] at R2
          simp only [putAll, List.foldl_cons, List.foldl_nil]
          go_frame
          simp only [u0, u2, u3]
          go_wp2_with fail
          refine R2.mono ?_
          rintro e w3 ⟨d', x', rfl, hd', hx', b3⟩
          go_wp2_with fail
          exact ⟨rfl, .inl ⟨rfl, _, rfl, b3, fun f' h => ⟨d', x', h _ rfl, hd'⟩⟩⟩
        · obtain rfl := Option.some.inj hk
          obtain ⟨d', x', u4, hd'⟩ : ∃ (d' : DV) (x' : Rv), f 25 = .tuple #[d'.v, x'.v, .bool true] ∧ DkV w' d' D' := hU ⟨4, .data⟩ (by simp) rfl
          simp only [putAll, List.foldl_cons, List.foldl_nil]
          go_frame
          simp only [u4]
          go_wp2_with fail
          exact ⟨rfl, .inl ⟨rfl, _, rfl, Below.refl _ _, fun f' h => by first | exact ⟨d', x', h _ rfl, hd'⟩ | exact ⟨d', ⟨x', h _ rfl⟩, hd'⟩⟩⟩
        · obtain rfl := Option.some.inj hk
          obtain ⟨d', x', u4, hd'⟩ : ∃ (d' : DV) (x' : Rv), f 20 = .tuple #[d'.v, x'.v, .bool true] ∧ DkV w' d' D' := hU ⟨5, .data⟩ (by simp) rfl
          simp only [putAll, List.foldl_cons, List.foldl_nil]
          go_frame
          simp only [u4]
          go_wp2_with fail
          exact ⟨rfl, .inl ⟨rfl, _, rfl, Below.refl _ _, fun f' h => ⟨d', h _ rfl, hd'⟩⟩⟩
        · obtain rfl := Option.some.inj hk
          obtain ⟨d', x', u4, hd'⟩ : ∃ (d' : DV) (x' : Rv), f 20 = .tuple #[d'.v, x'.v, .bool true] ∧ DkV w' d' D' := hU ⟨5, .data⟩ (by simp) rfl
          simp only [putAll, List.foldl_cons, List.foldl_nil]
          go_frame
          simp only [u4]
          go_wp2_with fail
          exact ⟨rfl, .inl ⟨rfl, _, rfl, Below.refl _ _, fun f' h => trivial⟩⟩
        · obtain rfl := Option.some.inj hk
          obtain ⟨d', x', u4, hd'⟩ : ∃ (d' : DV) (x' : Rv), f 20 = .tuple #[d'.v, x'.v, .bool true] ∧ DkV w' d' D' := hU ⟨5, .data⟩ (by simp) rfl
          simp only [putAll, List.foldl_cons, List.foldl_nil]
          go_frame
          simp only [u4]
          go_wp2_with fail
          exact ⟨rfl, .inl ⟨rfl, _, rfl, Below.refl _ _, fun f' h => trivial⟩⟩
        · obtain rfl := Option.some.inj hk
          have hP := hP (by kernel_rfl)
          obtain ⟨d', u4, hd'⟩ : ∃ d' : DV, f 26 = d'.v ∧ DkV w' d' D' := hU ⟨6, .data⟩ (by simp) rfl
          simp only [putAll, List.foldl_cons, List.foldl_nil]
          go_frame
          simp only [u4]
          go_wp2_with ((with_reducible refine is_store 25 ?_); refine wp_storeB G _ _ d'.cs hP diskN rfl (dv_one _) rfl rfl ?_; intro w4 k44 r4; go_frame)
          have kk := Kept.grown r4 hP notDk
          refine ⟨rfl, .inr ⟨rfl, rfl, ⟨hB1.kept kk, hB2.grown r4 (by simpa using hKG), hB3.grown r4 (by simpa using hwG), ?_, hB5.grown r4 hB5.size (fun q hq => by cases hq; exact Nat.le_of_lt hG)⟩, ⟨d', k44, hd'.kept kk⟩, ?_⟩⟩
          · have := r4.size
            omega
          · intro j u hj hu
            rcases j with _ | _ | _ | _ | _ | _ | _ | _ | _ | _ | j
            · exact hu
            · exact hu
            · obtain ⟨y1, y2, y3⟩ := hu; exact ⟨y1, y2, y3.grown r4 (fun g hg => by cases hg; simp)⟩
            · exact hu
            · first | (obtain ⟨y1, y2, y3, y4⟩ := hu; exact ⟨y1, y2, y3, y4.kept kk⟩) | (obtain ⟨y1, y2, y4⟩ := hu; exact ⟨y1, y2, y4.kept kk⟩)
            · first | (obtain ⟨y1, y2, y3, y4⟩ := hu; exact ⟨y1, y2, y3, y4.kept kk⟩) | (obtain ⟨y1, y2, y4⟩ := hu; exact ⟨y1, y2, y4.kept kk⟩)
            · obtain ⟨y1, y2, y3⟩ := hu; exact ⟨y1, y2, y3.kept kk⟩
            · trivial
            · trivial
            · exact absurd rfl hj
            · trivial
        · simp at hk
      · intro k o hk f f' w' h hu
        rcases k with _ | _ | _ | _ | _ | _ | _ | _ | _ | _ | k
        · obtain rfl := Option.some.inj hk
          exact (h 21 (.inl rfl)).trans hu
        · obtain rfl := Option.some.inj hk
          exact (h 22 (.inl rfl)).trans hu
        · obtain rfl := Option.some.inj hk
          obtain ⟨y1, y2, y3⟩ := hu
          exact ⟨y1, (h 23 (.inl rfl)).trans y2, y3⟩
        · obtain rfl := Option.some.inj hk
          exact (h 24 (.inl rfl)).trans hu
        · obtain rfl := Option.some.inj hk
          obtain ⟨y1, y2, y3, y4⟩ := hu
          exact ⟨y1, y2, (h 25 (.inl rfl)).trans y3, y4⟩
        · obtain rfl := Option.some.inj hk
          obtain ⟨y1, y2, y3, y4⟩ := hu
          exact ⟨y1, y2, (h 20 (.inl rfl)).trans y3, y4⟩
        · obtain rfl := Option.some.inj hk
          obtain ⟨y1, y2, y3⟩ := hu
          exact ⟨y1, (h 26 (.inl rfl)).trans y2, y3⟩
        · trivial
        · trivial
        · exact hu
        · trivial
      · rintro f w7 ⟨hB1, hB2, hB3, hB4, hB5⟩ hU
        obtain ⟨d', k7, hd7⟩ : ∃ d' : DV, Blk w7 G 25 d'.cs ∧ DkV w7 d' D' := hU 9 _ rfl
        simp only [putAll, List.foldl_cons, List.foldl_nil]
        go_frame
        go_wp2_with fail
        go_roundw
        case rel => exact ⟨k + 1, d', by omega, by go_num, by rw [hnext, hD']; exact ⟨k7, hd7⟩, hB3, hB5⟩
        case measure => simp [intOf]; omega
    · obtain rfl : k = m := by omega
      rw [List.take_of_length_le (by rw [HX.out]; exact Nat.le_refl _)] at Dr
      obtain ⟨x0', x1', x2', x3', x4'⟩ := Dr.k.c5
      have hgl := Dr.k.lt
      have hwl := Kr.lt
      go_wp2_with ((with_reducible refine is_store 25 ?_); refine wp_storeB w.heap.size _ _ d.cs Kr diskN rfl (dv_one _) rfl rfl ?_; intro w4 k44 r4; go_frame)
      obtain ⟨y0', y1', y2', y3', y4'⟩ := k44.c5
      have hd4 := Dr.d.kept (Kept.grown r4 Kr notDk)
      have B4 := hbel.grown r4 hbel.size (fun q hq => by cases hq; exact Nat.le_refl _)
      go_wp2_with fail
      refine bodyPost_ret (v := d.v) (by simp [results, Try.results22, go_sem, y0', y1', y2', y3', y4']; rfl) rfl ⟨d, rfl, hd4, B4⟩
end Go.Proofs.Ythpalmncfcahkaa
