/- A commit that is cut: what a disk holds after some of its writes and a crash. No program in sight. ordinalref13.Body, walked. Conditions: the arguments read. -/
import Derived.Test.YtanglofabkbllaaDoorSim
import Derived.Test.YtanglofabkbllaaDoorRS
import Derived.Test.YtanglofabkbllaaDoorAppZ
import Derived.Test.YtanglofabkbllaaDoorRootPg
import Derived.Test.YtanglofabkbllaaDoorPgr
import Derived.Test.YtanglofabkbllaaDoorHead
import Derived.Test.YtanglofabkbllaaDoorRep
set_option linter.unusedSimpArgs false
set_option linter.unusedVariables false
namespace Go.Proofs.YtanglofabkbllaaDoor

theorem rootF_zero' {f : Secs} {sec par pgs : Nat} (h : ∃ r, f (sec + 8 * par) = 0 :: r) : rootF f sec pgs par = none := by
  obtain ⟨r0, h⟩ := h
  unfold rootF storedOf
  rw [if_pos]
  left
  have e : ∃ r, secs f (sec + 8 * par) 8 = 0 :: r := by
    refine ⟨r0 ++ (List.range 7).flatMap (fun i => f (sec + 8 * par + (i + 1))), ?_⟩
    unfold secs
    simp [List.range_succ, List.flatMap_append, List.append_assoc, h]
  obtain ⟨r, hr⟩ := e
  rw [hr]
  unfold decoded
  split
  · show (15 : Int) ≠ 0; omega
  · split
    · unfold pageOf
      dsimp only
      rw [if_neg]
      · show (15 : Int) ≠ 0; omega
      · rintro ⟨h1, -⟩
        rw [List.take_take] at h1
        simp at h1
    · show (29 : Int) ≠ 0; omega

/-- behind i of the writes of a commit -/
def cutD (D : Dk) (s : Nat) (b : List UInt8) : Nat → Dk
  | 0 => D.write s zero128
  | k + 1 => if k + 1 = 8 then (((D.write s zero128).sync.fill s b 7).sync).write s (b.take 128) else (D.write s zero128).sync.fill s b (k + 1)
theorem cutD_s (D : Dk) (s : Nat) (b : List UInt8) (k : Nat) : cutD D s b (k + 1) = if k + 1 = 8 then (((D.write s zero128).sync.fill s b 7).sync).write s (b.take 128) else (D.write s zero128).sync.fill s b (k + 1) := rfl
theorem cutD_step (D : Dk) (s : Nat) (b : List UInt8) (i : Nat) (hi : i < 8) :
    (if i = 0 ∨ i = 7 then (cutD D s b i).sync else cutD D s b i).write (s + (i + 1) % 8) ((b.drop (128 * ((i + 1) % 8))).take 128) = cutD D s b (i + 1) := by
  match i, hi with
  | 0, _ => rfl
  | 1, _ => rfl
  | 2, _ => rfl
  | 3, _ => rfl
  | 4, _ => rfl
  | 5, _ => rfl
  | 6, _ => rfl
  | 7, _ => rfl
theorem cutD_n (D : Dk) (s : Nat) (b : List UInt8) : ∀ i, (cutD D s b i).n = D.n
  | 0 => rfl
  | k + 1 => by
    rw [cutD_s]
    split
    · show ((D.write s zero128).sync.fill s b 7).n = _
      rw [Dk.fill_n]; rfl
    · rw [Dk.fill_n]; rfl
theorem cutD_W (D : Dk) (s : Nat) (b : List UInt8) : ∀ i, i ≤ 8 → (cutD D s b i).W.length ≤ D.W.length + 8
  | 0, _ => by show D.W.length + 1 ≤ _; omega
  | k + 1, h => by
    rw [cutD_s]
    split
    · show 0 + 1 ≤ _; omega
    · rw [Dk.fill_W]; show 0 + (k + 1) ≤ _; omega
theorem fill_Wm (D : Dk) (s : Nat) (b : List UInt8) : ∀ k, k ≤ 7 → ∀ x ∈ (D.fill s b k).W, x ∈ D.W ∨ (s + 1 ≤ x.1 ∧ x.1 < s + 8)
  | 0, _, x, h => .inl h
  | k + 1, hk, x, h => by
    rcases List.mem_cons.1 h with rfl | h
    · exact .inr ⟨by show s + 1 ≤ s + (k + 1); omega, by show s + (k + 1) < s + 8; omega⟩
    · exact fill_Wm D s b k (by omega) x h
theorem fill_S (D : Dk) (s : Nat) (b : List UInt8) : ∀ k, (D.fill s b k).S = D.S
  | 0 => rfl
  | k + 1 => fill_S D s b k
/-- outside of the slot -/
theorem cut_out (D : Dk) (s : Nat) (b : List UInt8) (ch i j : Nat) (hi : i ≤ 8) (hj : j < s ∨ s + 8 ≤ j) (hw : ∀ x ∈ D.W, x.1 ≠ j) : ((cutD D s b i).crash ch).S j = D.S j := by
  show crun ch 0 (cutD D s b i).S (cutD D s b i).W.reverse j = D.S j
  match i, hi with
  | 0, _ =>
    refine crunN ch _ _ _ j fun x hx => ?_
    rcases List.mem_cons.1 (List.mem_reverse.1 hx) with rfl | h
    · show s ≠ j; omega
    · exact hw x h
  | k + 1, hk =>
    rw [cutD_s]
    split
    · have e : ((((D.write s zero128).sync.fill s b 7).sync).write s (b.take 128)).S j = D.S j := by
        show ((D.write s zero128).sync.fill s b 7).cur j = _
        rw [fill_cur, if_neg (by omega)]
        show upd D.cur s zero128 j = _
        unfold upd
        rw [if_neg (by omega), cur_not D j hw]
      rw [← e]
      refine crunN ch _ _ _ j fun x hx => ?_
      rcases List.mem_cons.1 (List.mem_reverse.1 hx) with rfl | h
      · show s ≠ j; omega
      · cases h
    · have e : ((D.write s zero128).sync.fill s b (k + 1)).S j = D.S j := by
        rw [fill_S]
        show upd D.cur s zero128 j = _
        unfold upd
        rw [if_neg (by omega), cur_not D j hw]
      rw [← e]
      refine crunN ch _ _ _ j fun x hx => ?_
      rcases fill_Wm _ s b (k + 1) (by omega) x (List.mem_reverse.1 hx) with h | h
      · cases h
      · omega
/-- the slot is not valid, behind the first synced write -/
theorem cut_zero (D : Dk) (s : Nat) (b : List UInt8) (ch i : Nat) (h0 : 1 ≤ i) (hi : i ≤ 8) (hd : i = 8 → ch % 3 = 0) : ((cutD D s b i).crash ch).S s = zero128 := by
  show crun ch 0 (cutD D s b i).S (cutD D s b i).W.reverse s = zero128
  match i, h0, hi with
  | k + 1, _, hk =>
    rw [cutD_s]
    split
    · rename_i h8
      have e : ((((D.write s zero128).sync.fill s b 7).sync).write s (b.take 128)).S s = zero128 := by
        show ((D.write s zero128).sync.fill s b 7).cur s = _
        rw [fill_cur, if_neg (by omega)]
        show upd D.cur s zero128 s = _
        unfold upd
        rw [if_pos rfl]
      show tear ((((D.write s zero128).sync.fill s b 7).sync).write s (b.take 128)).S (s, b.take 128) (digit ch (0 % 40)) s = _
      have hd0 : digit ch (0 % 40) = 0 := by
        show ch / 3 ^ 0 % 3 = 0
        rw [Nat.pow_zero, Nat.div_one]
        exact hd h8
      rw [hd0]
      exact e
    · have e : ((D.write s zero128).sync.fill s b (k + 1)).S s = zero128 := by
        rw [fill_S]
        show upd D.cur s zero128 s = _
        unfold upd
        rw [if_pos rfl]
      refine Eq.trans (crunN ch _ _ _ s fun x hx => ?_) e
      rcases fill_Wm _ s b (k + 1) (by omega) x (List.mem_reverse.1 hx) with h | h
      · cases h
      · omega
theorem zero_drop : zero128.drop 64 = List.replicate 64 0 := by decide
/-- the last write was not lost -/
theorem cut_root (D : Dk) (s : Nat) (b : List UInt8) (ch : Nat) (hz : (b.take 128).drop 64 = List.replicate 64 0) (hd : ch % 3 ≠ 0) : (cutD D s b 8).crash ch = D.root s b := by
  have hS : ((D.write s zero128).sync.fill s b 7).cur s = zero128 := by
    rw [fill_cur, if_neg (by omega)]
    show upd D.cur s zero128 s = _
    unfold upd
    rw [if_pos rfl]
  show (⟨_, tear ((D.write s zero128).sync.fill s b 7).cur (s, b.take 128) (digit ch (0 % 40)), []⟩ : Dk) = ⟨_, upd ((D.write s zero128).sync.fill s b 7).cur s (b.take 128), []⟩
  have hd0 : digit ch (0 % 40) = 1 ∨ digit ch (0 % 40) = 2 := by
    show ch / 3 ^ 0 % 3 = 1 ∨ ch / 3 ^ 0 % 3 = 2
    rw [Nat.pow_zero, Nat.div_one]
    omega
  congr 1
  unfold tear
  rcases hd0 with e | e
  · rw [if_pos e]
  · rw [if_neg (by omega), if_pos e]
    congr 1
    show (b.take 128).take 64 ++ (((D.write s zero128).sync.fill s b 7).cur s).drop 64 = _
    rw [hS, zero_drop, ← hz, List.take_append_drop]
theorem enc_half (stamp root : Nat) (mt nu : List UInt8) (h : (rootBody root mt nu).length ≤ 1000) : ((encoded 0 stamp 2 (rootBody root mt nu)).take 128).drop 64 = List.replicate 64 0 := by
  have hB : rootBody root mt nu = [UInt8.ofNat root, UInt8.ofNat (root / 256), UInt8.ofNat mt.length, UInt8.ofNat (mt.length / 256)] ++ (List.replicate 104 0 ++ (mt ++ nu)) := by
    unfold rootBody
    simp only [List.append_assoc]
  have e : ∃ X Z c, encoded 0 stamp 2 (rootBody root mt nu) = (X ++ rootBody root mt nu ++ Z) ++ c ∧ X.length = 20 := ⟨_, _, _, rfl, by simp⟩
  obtain ⟨X, Z, c, e, hX⟩ := e
  rw [e]
  generalize rootBody root mt nu = B at hB
  subst hB
  have e2 : (X ++ ([UInt8.ofNat root, UInt8.ofNat (root / 256), UInt8.ofNat mt.length, UInt8.ofNat (mt.length / 256)] ++ (List.replicate 104 0 ++ (mt ++ nu))) ++ Z) ++ c = (X ++ [UInt8.ofNat root, UInt8.ofNat (root / 256), UInt8.ofNat mt.length, UInt8.ofNat (mt.length / 256)]) ++ (List.replicate 104 0 ++ (mt ++ nu ++ Z ++ c)) := by simp only [List.append_assoc]
  rw [e2]
  have ha : (X ++ [UInt8.ofNat root, UInt8.ofNat (root / 256), UInt8.ofNat mt.length, UInt8.ofNat (mt.length / 256)]).length = 24 := by rw [List.length_append, hX]; rfl
  generalize X ++ [UInt8.ofNat root, UInt8.ofNat (root / 256), UInt8.ofNat mt.length, UInt8.ofNat (mt.length / 256)] = a at ha
  rw [List.drop_take, List.drop_append, List.drop_eq_nil_of_le (by omega), List.nil_append, ha, List.drop_append, List.take_append, List.drop_replicate]
  simp

theorem Sim.alike {F : Secs} {p : Pgr} {D : Dk} {S : RS} {k : Nat} (h : Sim F p D S k) (D' : Dk) (en : D'.n = D.n) (eW : D'.W = []) (hc : ∀ j, (j < p.sec + 8 * ((S.num + 1) % 2) ∨ p.sec + 8 * ((S.num + 1) % 2) + 8 ≤ j) → (∀ x ∈ D.W, x.1 ≠ j) → D'.S j = D.S j)
    (ho : ∀ s, rootF D'.S p.sec S.n ((S.num + 1) % 2) = some s → s.num < S.num) : Sim F p.back D' S.reopen k := by
  obtain ⟨n', S', W'⟩ := D'
  dsimp only at en eW hc ho
  subst eW
  have hn : ∀ i, (i < p.sec + 16 ∨ p.sec + 8 * (S.n + 2) ≤ i ∨ ∃ id, S.usedB id = true ∧ p.sec + 8 * (id + 1) ≤ i ∧ i < p.sec + 8 * (id + 1) + 8) → ∀ x ∈ D.W, x.1 ≠ i := by
    intro i hi x hx e
    obtain ⟨id, h1, h2, h3, h4, h5⟩ := h.syn x hx
    rcases hi with hi | hi | ⟨j, hj, hi⟩
    · omega
    · omega
    · have : j = id := by omega
      rw [this, h3] at hj
      cases hj
  have hcur : ∀ j, (j < p.sec + 8 * ((S.num + 1) % 2) ∨ p.sec + 8 * ((S.num + 1) % 2) + 8 ≤ j) → (∀ x ∈ D.W, x.1 ≠ j) → S' j = D.cur j := fun j h1 h2 => by rw [hc j h1 h2, cur_not D j h2]
  exact { h with
    pok := Pgr.back_ok h.pok
    sok := ⟨h.sok.n, h.sok.num, h.sok.u, h.sok.u, h.sok.b⟩
    nu := h.cu
    k0 := h.u0
    hD := by show p.sec + 8 * (S.n + 2) ≤ n'; rw [en]; exact h.hD
    Wk := by show 0 ≤ _; omega
    syn := fun x hx => by cases hx
    slot := by
      refine Eq.trans (?_ : rootF S' p.sec S.n (S.num % 2) = rootF D.cur p.sec S.n (S.num % 2)) h.slot
      exact rootF_ext fun i h1 h2 => hcur i (by omega) (hn i (.inl (by have := Nat.mod_lt S.num (show 0 < 2 by omega); omega)))
    other := fun s hs => ho s hs
    bod := fun id h1 h2 h3 => by
      have hu : S.usedB id = true := h3.elim (fun x => x) (fun x => x)
      show pageF S' p.sec id = (S.bod[id]?.getD [], 0)
      rw [← h.bod id h1 h2 (.inl hu)]
      exact pageF_ext fun i h4 h5 => hcur i (.inr (by have := Nat.mod_lt (S.num + 1) (show 0 < 2 by omega); omega)) (hn i (.inr (.inr ⟨id, hu, h4, h5⟩)))
    out := fun i hi => by
      have h1 : i < p.sec ∨ p.sec + 8 * (S.n + 2) ≤ i := hi
      have h2 := h.n1
      have := Nat.mod_lt (S.num + 1) (show 0 < 2 by omega)
      show S' i = F i
      rw [hc i (by omega) (hn i (h1.elim (fun x => .inl (by omega)) fun x => .inr (.inl x)))]
      exact h.out i hi }
/-- a commit that was cut leaves the old state -/
theorem Sim.cut {F : Secs} {p : Pgr} {D : Dk} {S : RS} {k : Nat} (h : Sim F p D S k) (b : List UInt8) (ch i : Nat) (hi : i ≤ 8) (hd : i = 8 → ch % 3 = 0) :
    Sim F p.back ((cutD D (p.sec + 8 * ((S.num + 1) % 2)) b i).crash ch) S.reopen k := by
  refine h.alike _ (cutD_n D _ b i) rfl (fun j h1 h2 => cut_out D _ b ch i j hi h1 h2) fun s hs => ?_
  by_cases h0 : 1 ≤ i
  · rw [rootF_zero (cut_zero D _ b ch i h0 hi hd)] at hs
    cases hs
  · obtain rfl : i = 0 := by omega
    have hlow : ∀ j, j < p.sec + 16 → ∀ x ∈ D.W, x.1 ≠ j := fun j hj x hx e => by
      obtain ⟨id, h1, _, _, h4, _⟩ := h.syn x hx
      omega
    have hm := Nat.mod_lt (S.num + 1) (show 0 < 2 by omega)
    obtain ⟨f, hf⟩ : ∃ z, crun ch 0 D.S D.W.reverse = z := ⟨_, rfl⟩
    have hfl : ∀ j, j < p.sec + 16 → f j = D.cur j := fun j hj => by
      rw [← hf, crunN ch _ _ _ j fun x hx => hlow j hj x (List.mem_reverse.1 hx), cur_not D j (hlow j hj)]
    have e : ((cutD D (p.sec + 8 * ((S.num + 1) % 2)) b 0).crash ch).S = tear f (p.sec + 8 * ((S.num + 1) % 2), zero128) (digit ch ((0 + D.W.reverse.length) % 40)) := by
      show crun ch 0 D.S (((p.sec + 8 * ((S.num + 1) % 2), zero128) :: D.W).reverse) = _
      rw [List.reverse_cons, crun_snoc, hf]
    rw [e] at hs
    unfold tear at hs
    split at hs
    · rw [rootF_zero (by unfold upd; rw [if_pos rfl])] at hs
      cases hs
    · split at hs
      · rw [rootF_zero' ⟨_, by unfold upd; rw [if_pos rfl]; rfl⟩] at hs
        cases hs
      · refine h.other s ?_
        rw [← hs]
        exact rootF_ext fun j h1 h2 => (hfl j (by omega)).symm
end Go.Proofs.YtanglofabkbllaaDoor
set_option linter.unusedSimpArgs false
set_option linter.unusedVariables false
set_option maxRecDepth 100000
namespace Go.Proofs.YtanglofabkbllaaDoor
open Go.RowKit

/-- bit r set by a sum -/
def plus (x : UInt8) (r : Nat) : UInt8 := UInt8.ofNat (x.toNat + 2 ^ r)
theorem plus_fin : ∀ n : Fin 256, ∀ r : Fin 8, (n.1 / 2 ^ r.1 % 2 == 1) = false → n.1 + 2 ^ r.1 < 256 ∧ ∀ k : Fin 8, ((n.1 + 2 ^ r.1) / 2 ^ k.1 % 2 == 1) = ((n.1 / 2 ^ k.1 % 2 == 1) || k.1 == r.1) := by decide +kernel
theorem plus_val (x : UInt8) (r : Nat) (hr : r < 8) (h : bitB x r = false) : N8 x + 2 ^ r = N8 (plus x r) ∧ N8 (plus x r) < 256 ∧ 0 ≤ N8 (plus x r) ∧ ∀ k, k < 8 → bitB (plus x r) k = (bitB x k || k == r) := by
  have h1 := plus_fin ⟨x.toNat, UInt8.toNat_lt _⟩ ⟨r, hr⟩ h
  dsimp only at h1
  have e : (plus x r).toNat = x.toNat + 2 ^ r := by unfold plus; rw [UInt8.toNat_ofNat']; exact Nat.mod_eq_of_lt h1.1
  refine ⟨?_, ?_, ?_, fun k hk => ?_⟩
  · show (x.toNat : Int) + 2 ^ r = ((plus x r).toNat : Int)
    rw [e]
    push_cast
    rfl
  · show ((plus x r).toNat : Int) < 256
    have := UInt8.toNat_lt (plus x r)
    omega
  · show (0 : Int) ≤ ((plus x r).toNat : Int)
    omega
  · unfold bitB
    rw [e]
    exact h1.2 ⟨k, hk⟩
theorem byte_bits : ∀ n : Fin 256, n.1 = (List.range 8).foldl (fun s k => s + (if (n.1 / 2 ^ k % 2 == 1) = true then 2 ^ k else 0)) 0 := by decide +kernel
theorem byte_ext {x y : UInt8} (h : ∀ k, k < 8 → bitB x k = bitB y k) : x = y := by
  have e1 := byte_bits ⟨x.toNat, UInt8.toNat_lt _⟩
  have e2 := byte_bits ⟨y.toNat, UInt8.toNat_lt _⟩
  unfold bitB at h
  have h0 := h 0 (by omega)
  have h1 := h 1 (by omega)
  have h2 := h 2 (by omega)
  have h3 := h 3 (by omega)
  have h4 := h 4 (by omega)
  have h5 := h 5 (by omega)
  have h6 := h 6 (by omega)
  have h7 := h 7 (by omega)
  apply UInt8.toNat_inj.1
  rw [show List.range 8 = [0, 1, 2, 3, 4, 5, 6, 7] from rfl] at e1 e2
  simp only [List.foldl_cons, List.foldl_nil, h0, h1, h2, h3, h4, h5, h6, h7] at e1
  simp only [List.foldl_cons, List.foldl_nil] at e2
  exact e1.trans e2.symm
theorem bit_ext {u v : List UInt8} (hu : u.length = 128) (hv : v.length = 128) (h : ∀ i, i < 1024 → bit u i = bit v i) : u = v := by
  apply List.ext_getElem (by omega)
  intro i h1 h2
  apply byte_ext
  intro k hk
  have := h (8 * i + k) (by omega)
  unfold bit at this
  rw [show (8 * i + k) / 8 = i by omega, show (8 * i + k) % 8 = k by omega, List.getElem?_eq_getElem h1, List.getElem?_eq_getElem h2] at this
  exact this
theorem bit_plus (u : List UInt8) (i j : Nat) (hu : u.length = 128) (hi : i < 1024) (hj : j < 1024) (h0 : bit u i = false) : bit (u.set (i / 8) (plus (u[i / 8]?.getD 0) (i % 8))) j = (bit u j || j == i) := by
  have hp := plus_val (u[i / 8]?.getD 0) (i % 8) (Nat.mod_lt _ (by omega)) h0
  unfold bit
  rw [List.getElem?_set]
  by_cases hq : i / 8 = j / 8
  · rw [if_pos hq, if_pos (by omega), Option.getD_some, hp.2.2.2 _ (Nat.mod_lt _ (by omega)), ← hq]
    congr 1
    rw [Bool.eq_iff_iff]
    simp
    omega
  · rw [if_neg hq]
    have : (j == i) = false := by rw [beq_eq_false_iff_ne]; intro h; exact hq (by rw [h])
    rw [this, Bool.or_false]

theorem body_bytes (root : Nat) (mt bs : List UInt8) : ((([UInt8.ofNat root, UInt8.ofNat (root / 256), UInt8.ofNat mt.length, UInt8.ofNat (mt.length / 256)].map byV) ++ List.replicate 104 (.int .u8 0)) ++ mt.map byV) ++ bs.map byV = (rootBody root mt bs).map byV := by
  unfold rootBody
  rw [List.map_append, List.map_append, List.map_append, List.map_replicate]
  rfl

set_option maxHeartbeats 8000000 in
theorem refBody_any (root : Nat) (Am : Option Addr) (nm cm : Nat) (mt : List UInt8) (Au : Option Addr) (n cu : Nat) (us : List Bool) (w : World) (h1 : root ≤ 1023) (hm : RB w Am nm mt) (hm2 : nm ≤ 256) (hu : RL w 1 Au n (us.map Value.bool)) (hn : n ≤ 1024) (hnc : n ≤ cu) (hcu : cu ≤ 9223372036854775807) :
    Calls Tryd.prog 35 #[.int .i64 root, .slice Am nm cm, .slice Au n cu] w fun e w' => ∃ (A : Option Addr) (c : Nat) (bs : List UInt8), e = .returned (.slice A (236 + nm) c) ∧ bs.length = 128 ∧ (∀ i, i < 1024 → bit bs i = us[i]?.getD false) ∧ RN (fun b => w.heap.size ≤ b) w' 1 A (236 + nm) ((rootBody root mt bs).map byV) ∧ 236 + nm ≤ c ∧ c ≤ 9223372036854775807 ∧ Below w.heap.size w w' := by
  have hml : mt.length = nm := hm.len
  have hul : us.length = n := by have := hu.1; rw [List.length_map] at this; omega
  have HM := (RN.all hm).lt
  have HU := (RN.all hu).lt
  have e4 : [Value.int .u8 ((root : Int) % 256), .int .u8 ((root : Int) / 256), .int .u8 ((nm : Int) % 256), .int .u8 ((nm : Int) / 256)] = [UInt8.ofNat root, UInt8.ofNat (root / 256), UInt8.ofNat nm, UInt8.ofNat (nm / 256)].map byV := by
    have h : ∀ (x : Nat) (y : Int), y = ((x % 256 : Nat) : Int) → Value.int .u8 y = byV (UInt8.ofNat x) := fun x y e => by
      show _ = Value.int .u8 ((UInt8.ofNat x).toNat : Int)
      rw [UInt8.toNat_ofNat', e]
    rw [List.map_cons, List.map_cons, List.map_cons, List.map_cons, List.map_nil, h root _ (by omega), h (root / 256) _ (by omega), h nm _ (by omega), h (nm / 256) _ (by omega)]
  obtain ⟨L4, hL4⟩ : ∃ L : List UInt8, [UInt8.ofNat root, UInt8.ofNat (root / 256), UInt8.ofNat nm, UInt8.ofNat (nm / 256)] = L := ⟨_, rfl⟩
  have HL4 := hid hL4
  have E4 := hid e4
  clear e4 hL4
  clear hm hu
  go_enter Tryd.func35, Tryd.ntmps35
  go_upto_region 2 with fail
  obtain ⟨g4, hg4⟩ : ∃ z, w.heap.size = z := ⟨_, rfl⟩
  have k4 : Blk (w.alloc (.cells #[.int .u8 ((root : Int) % 256), .int .u8 ((root : Int) / 256), .int .u8 ((nm : Int) % 256), .int .u8 ((nm : Int) / 256)] 5)) w.heap.size 5 [.int .u8 ((root : Int) % 256), .int .u8 ((root : Int) / 256), .int .u8 ((nm : Int) % 256), .int .u8 ((nm : Int) / 256)] := Blk.new w _ _
  have ba : Below w.heap.size w (w.alloc (.cells #[.int .u8 ((root : Int) % 256), .int .u8 ((root : Int) / 256), .int .u8 ((nm : Int) % 256), .int .u8 ((nm : Int) / 256)] 5)) := (Below.refl _ _).alloc (Nat.le_refl _) _
  obtain ⟨wa, hwa⟩ : ∃ z, w.alloc (.cells #[.int .u8 ((root : Int) % 256), .int .u8 ((root : Int) / 256), .int .u8 ((nm : Int) % 256), .int .u8 ((nm : Int) / 256)] 5) = z := ⟨_, rfl⟩
  rw [hwa] at k4 ba ⊢
  rw [E4.out, HL4.out] at k4
  have HMa := HM.keep ba
  have HUa := HU.keep ba
  rw [hg4] at k4
  have lwa := k4.lt
  have own4 : wa.ownsRow g4 5 1 (.slice (some ⟨g4, 0, none⟩) 4 4) 4 (L4.map byV) := own_of_blk k4 (Nat.le_refl _) (by rw [List.length_map, ← HL4.out]; rfl) (by omega)
  rw [hg4] at HMa HUa ba ⊢
  clear HM HU k4 hwa E4
  have hgo : g4 ≤ wa.heap.size := Nat.le_of_lt lwa
  go_wp2_with (first
    | (at_builtin; refine wp_appz rfl _ _ 40 3 rfl g4 5 .i64 .i64 1 bytesT Tryd.underlying3 _ 4 _ own4 rfl 104 rfl (by unfold maxLen; omega) (by omega) hgo ?_; intro v5 w5 own5 r5 a5; go_frame; have q4 : ∀ g, (Value.slice (some ⟨g4, 0, none⟩) 4 4).ownBlock = some g → g4 ≤ g := (fun g hg => (own4.lt g hg).1); have HM5 := HMa.grown r5 (fun g hg hN => by have := q4 g hg; have := hN.2; omega); have hg5 : g4 ≤ w5.heap.size := Nat.le_trans hgo r5.size)
    | (at_builtin; refine wp_app _ rfl _ _ 40 rfl g4 5 _ 1 bytesT _ _ _ own5 rfl Am nm cm _ HM5.rl rfl (byV_one _) (by unfold maxLen; omega) (by omega) hg5 ?_; intro v6 w6 own6 r6 a6; go_frame; have q5 : ∀ g, v5.ownBlock = some g → g4 ≤ g := (fun g hg => (own5.lt g hg).1); have hg6 : g4 ≤ w6.heap.size := Nat.le_trans hg5 r6.size)
    | (at_make; refine wp_make _ rfl _ _ 40 rfl w6.heap.size 5 _ 1 bytesT rfl .i64 .i64 _ _ 128 rfl rfl rfl rfl (by omega) (by unfold maxLen; omega) (Nat.le_refl _) ?_; intro w7 own7 r7; go_frame))
  have B5 := ba.grown r5 hgo (fun g hg => q4 g hg)
  have B6 := B5.grown r6 hg5 (fun g hg => q5 g hg)
  have B7 := B6.grown r7 hg6 (fun z hz => by cases hz)
  have HU7 := ((HUa.grown r5 (fun g hg hN => by have := q4 g hg; have := hN.2; omega)).grown r6 (fun g hg hN => by have := q5 g hg; have := hN.2; omega)).grown r7 (fun g hg => by cases hg)
  have own67 : w7.ownsRow g4 5 1 v6 (4 + 104 + nm) ((L4.map byV ++ List.replicate 104 (.int .u8 0)) ++ mt.map byV) := own6.kept r7 (Classical.em _)
  have hown6 : ∀ g, v6.ownBlock = some g → g < w6.heap.size := fun g hg => (own6.lt g hg).2
  have kb : BlkB w7 w6.heap.size 5 (zeroB 128) := by
    have := own_blk own7
    unfold BlkB zeroB
    rw [List.map_replicate]
    exact this
  have hgb : g4 ≤ w6.heap.size := hg6
  clear own4 own5 own6 own7 r5 r6 r7 HMa HUa HM5 q4 q5 a5 a6 B5 B6 ba hg5 hg6 hgo lwa
  generalize w6.heap.size = gb at *
  obtain ⟨X6, hX6⟩ : ∃ z, (L4.map byV ++ List.replicate 104 (.int .u8 0)) ++ mt.map byV = z := ⟨_, rfl⟩
  have HX6 := hid hX6
  rw [hX6] at own67
  clear hX6
  obtain ⟨M, hM⟩ : ∃ z, 4 + 104 + nm = z := ⟨_, rfl⟩
  have HMn := hid hM
  rw [hM] at own67
  clear hM
  have HV6 := hid hown6
  clear hown6
  go_loopw [9] (fun iv wr => ∃ (i : Nat) (bs : List UInt8), i ≤ n ∧ iv = .int .i64 i ∧ bs.length = 128 ∧ Hid (∀ j, j < 1024 → bit bs j = (decide (j < i) && us[j]?.getD false)) ∧ BlkB wr gb 5 bs ∧ wr.ownsRow g4 5 1 v6 M X6 ∧ RN (fun b => True ∧ b < g4) wr 1 Au n (us.map Value.bool) ∧ Below g4 w wr) (fun iv _ => n - (intOf iv).toNat)
  case atStart =>
    refine ⟨0, zeroB 128, Nat.zero_le _, rfl, zeroB_len 128, hid (fun j hj => ?_), kb, own67, HU7, B7⟩
    have e : (zeroB 128)[j / 8]? = some 0 := by unfold zeroB; rw [List.getElem?_replicate, if_pos (by omega)]
    unfold bit
    rw [e]
    have h0 : bitB 0 (j % 8) = false := (by decide : ∀ r : Fin 8, bitB 0 r.1 = false) ⟨j % 8, Nat.mod_lt _ (by omega)⟩
    rw [Option.getD_some, h0]
    simp
  case round =>
    clear kb own67 HU7 B7
    obtain ⟨i, bs, hi, rfl, hbl, HB, kb, own, hu, hbel⟩ := hrel
    by_cases hlt : i < n
    · have tk : (i : Int) < (n : Int) := by omega
      obtain ⟨ub, hub⟩ : ∃ z, us[i]? = some z := ⟨_, List.getElem?_eq_getElem (by omega)⟩
      obtain ⟨bu, ou, eA, hbu, hcu2⟩ := hu.rl.2 (by omega)
      subst eA
      have cu0 : wr.cell? ⟨bu, ou + i, none⟩ = some (.bool ub) := by
        have := hcu2 i (.bool ub) (by rw [List.getElem?_map, hub]; rfl)
        simpa using this
      have gbl : bu < g4 := (hu.2 bu ou rfl (by omega)).2
      clear hcu2
      obtain ⟨q, hq⟩ : ∃ z, i / 8 = z := ⟨_, rfl⟩
      obtain ⟨r, hr⟩ : ∃ z, i % 8 = z := ⟨_, rfl⟩
      have e1 : (i : Int).tdiv 8 = (q : Int) := by rw [Int.tdiv_eq_ediv_of_nonneg (by omega)]; omega
      have e2 : (i : Int).tmod 8 = (r : Int) := by rw [Int.tmod_eq_emod_of_nonneg (by omega)]; omega
      have e3 := IntWalk.i64_in (q : Int) (by omega)
      have e4 := IntWalk.i64_in (r : Int) (by omega)
      have e5 := IntWalk.i64_in ((i : Int) + 1) (by omega)
      have hq8 : q < 128 := by omega
      have hr8 : r < 8 := by omega
      cases ub with
      | false =>
        go_wp2_with fail
        refine ⟨⟨i + 1, bs, by omega, by go_num, hbl, hid (fun j hj => ?_), kb, own, hu, hbel⟩, by simp [intOf]; omega⟩
        rw [HB.out j hj]
        by_cases hji : j = i
        · rw [hji, hub]; simp
        · have : decide (j < i + 1) = decide (j < i) := by rw [decide_eq_decide]; omega
          rw [this]
      | true =>
        obtain ⟨x, hx⟩ : ∃ x, bs[q]? = some x := ⟨_, List.getElem?_eq_getElem (by omega)⟩
        have CX : wr.cell? ⟨gb, q, none⟩ = some (.int .u8 (N8 x)) := (Blk.cell kb q).trans (by rw [List.getElem?_map, hx]; rfl)
        have hx0 : bit bs i = false := by rw [HB.out i (by omega)]; simp
        have hxr : bitB x r = false := by rw [← hx0]; unfold bit; rw [hq, hr, hx]; rfl
        have hpl := plus_val x r hr8 hxr
        have HBP := bit_plus bs i
        rw [hq, hr, hx] at HBP
        have HBP2 := hid HBP
        clear HBP hq hr
        obtain ⟨y, hy⟩ : ∃ z, plus x r = z := ⟨_, rfl⟩
        rw [hy] at hpl
        have HY := hid hy
        clear hy
        have ep : (2 : Int) ^ r % 256 = 2 ^ r := (by decide : ∀ r : Fin 8, (2 : Int) ^ r.1 % 256 = 2 ^ r.1) ⟨r, hr8⟩
        have ex : IntKind.u8.wrap (N8 x + 2 ^ r) = N8 y := by rw [hpl.1]; show N8 y % 256 = N8 y; omega
        have ex2 : (N8 x + 2 ^ r) % 256 = N8 y := ex
        have lgb := Blk.lt kb
        clear hpl hx0 hxr
        go_upto_region 9 with fail
        refine wp_region_head 57 13 [41, 42, 43, 44, 45, 46, 47, 48, 49, 50, 51, 52, 53] [] ((fun kq => ([fun u w' => u = .slice (some ⟨gb, 0, none⟩) 128 128, fun u w' => u = .int .i64 (i : Int), fun u w' => u = .int .i64 (q : Int), fun u w' => u = .slice (some ⟨gb, 0, none⟩) 128 128, fun u w' => u = .int .i64 (i : Int), fun u w' => u = .int .i64 (q : Int), fun u w' => u = .pointer (some ⟨gb, q, none⟩), fun u w' => u = .int .u8 (N8 x), fun u w' => u = .int .i64 (i : Int), fun u w' => u = .int .i64 (r : Int), fun u w' => u = .int .u8 (2 ^ r), fun u w' => u = .int .u8 (N8 y), fun u w' => u = .pointer (some ⟨gb, q, none⟩)] : List (Value → World → Prop)).getD kq (fun _ _ => True))) (by kernel_rfl) rfl (by kernel_rfl) (.inl rfl) ?grow ?step ?tail
        case step =>
          simp only [List.take_succ_cons, List.take_zero]
          refine HSteps.cons ?_ ?_
          · intro f w' hb hU
            simp only [putAll, List.foldl_cons, List.foldl_nil]
            go_frame
            go_wp2_with fail
            exact ⟨rfl, _, rfl, Below.refl _ _, rfl⟩
          refine HSteps.cons ?_ ?_
          · intro f w' hb hU
            simp only [putAll, List.foldl_cons, List.foldl_nil]
            go_frame
            go_wp2_with fail
            exact ⟨rfl, _, rfl, Below.refl _ _, rfl⟩
          refine HSteps.cons ?_ ?_
          · intro f w' hb hU
            obtain u1 : f 42 = .int .i64 (i : Int) := hU.get ⟨1, .data⟩ (by simp) rfl
            simp only [putAll, List.foldl_cons, List.foldl_nil]
            go_frame
            try simp only [u1]
            go_wp2_with fail
            exact ⟨rfl, _, rfl, Below.refl _ _, rfl⟩
          refine HSteps.cons ?_ ?_
          · intro f w' hb hU
            simp only [putAll, List.foldl_cons, List.foldl_nil]
            go_frame
            go_wp2_with fail
            exact ⟨rfl, _, rfl, Below.refl _ _, rfl⟩
          refine HSteps.cons ?_ ?_
          · intro f w' hb hU
            simp only [putAll, List.foldl_cons, List.foldl_nil]
            go_frame
            go_wp2_with fail
            exact ⟨rfl, _, rfl, Below.refl _ _, rfl⟩
          refine HSteps.cons ?_ ?_
          · intro f w' hb hU
            obtain u4 : f 45 = .int .i64 (i : Int) := hU.get ⟨4, .data⟩ (by simp) rfl
            simp only [putAll, List.foldl_cons, List.foldl_nil]
            go_frame
            try simp only [u4]
            go_wp2_with fail
            exact ⟨rfl, _, rfl, Below.refl _ _, rfl⟩
          refine HSteps.cons ?_ ?_
          · intro f w' hb hU
            obtain u3 : f 44 = .slice (some ⟨gb, 0, none⟩) 128 128 := hU.get ⟨3, .data⟩ (by simp) rfl
            obtain u5 : f 46 = .int .i64 (q : Int) := hU.get ⟨5, .data⟩ (by simp) rfl
            simp only [putAll, List.foldl_cons, List.foldl_nil]
            go_frame
            try simp only [u3, u5]
            go_wp2_with fail
            exact ⟨rfl, _, rfl, Below.refl _ _, rfl⟩
          refine HSteps.cons ?_ ?_
          · intro f w' hb hU
            obtain u6 : f 47 = .pointer (some ⟨gb, q, none⟩) := hU.get ⟨6, .data⟩ (by simp) rfl
            have cx := (hb.cell lgb).trans CX
            simp only [putAll, List.foldl_cons, List.foldl_nil]
            go_frame
            try simp only [u6]
            go_wp2_with fail
            exact ⟨rfl, _, rfl, Below.refl _ _, rfl⟩
          refine HSteps.cons ?_ ?_
          · intro f w' hb hU
            simp only [putAll, List.foldl_cons, List.foldl_nil]
            go_frame
            go_wp2_with fail
            exact ⟨rfl, _, rfl, Below.refl _ _, rfl⟩
          refine HSteps.cons ?_ ?_
          · intro f w' hb hU
            obtain u8 : f 49 = .int .i64 (i : Int) := hU.get ⟨8, .data⟩ (by simp) rfl
            simp only [putAll, List.foldl_cons, List.foldl_nil]
            go_frame
            try simp only [u8]
            go_wp2_with fail
            exact ⟨rfl, _, rfl, Below.refl _ _, rfl⟩
          refine HSteps.cons ?_ ?_
          · intro f w' hb hU
            obtain u9 : f 50 = .int .i64 (r : Int) := hU.get ⟨9, .data⟩ (by simp) rfl
            simp only [putAll, List.foldl_cons, List.foldl_nil]
            go_frame
            try simp only [u9]
            go_wp2_with fail
            exact ⟨rfl, _, rfl, Below.refl _ _, rfl⟩
          refine HSteps.cons ?_ ?_
          · intro f w' hb hU
            obtain u7 : f 48 = .int .u8 (N8 x) := hU.get ⟨7, .data⟩ (by simp) rfl
            obtain u10 : f 51 = .int .u8 (2 ^ r) := hU.get ⟨10, .data⟩ (by simp) rfl
            simp only [putAll, List.foldl_cons, List.foldl_nil]
            go_frame
            try simp only [u7, u10]
            go_wp2_with fail
            exact ⟨rfl, _, rfl, Below.refl _ _, rfl⟩
          refine HSteps.cons ?_ ?_
          · intro f w' hb hU
            obtain u0 : f 41 = .slice (some ⟨gb, 0, none⟩) 128 128 := hU.get ⟨0, .data⟩ (by simp) rfl
            obtain u2 : f 43 = .int .i64 (q : Int) := hU.get ⟨2, .data⟩ (by simp) rfl
            obtain u1 : f 42 = .int .i64 (i : Int) := hU.get ⟨1, .phase⟩ (by simp) rfl
            obtain u3 : f 44 = .slice (some ⟨gb, 0, none⟩) 128 128 := hU.get ⟨3, .phase⟩ (by simp) rfl
            obtain u4 : f 45 = .int .i64 (i : Int) := hU.get ⟨4, .phase⟩ (by simp) rfl
            obtain u5 : f 46 = .int .i64 (q : Int) := hU.get ⟨5, .phase⟩ (by simp) rfl
            obtain u6 : f 47 = .pointer (some ⟨gb, q, none⟩) := hU.get ⟨6, .phase⟩ (by simp) rfl
            obtain u7 : f 48 = .int .u8 (N8 x) := hU.get ⟨7, .phase⟩ (by simp) rfl
            obtain u8 : f 49 = .int .i64 (i : Int) := hU.get ⟨8, .phase⟩ (by simp) rfl
            obtain u9 : f 50 = .int .i64 (r : Int) := hU.get ⟨9, .phase⟩ (by simp) rfl
            obtain u10 : f 51 = .int .u8 (2 ^ r) := hU.get ⟨10, .phase⟩ (by simp) rfl
            obtain u11 : f 52 = .int .u8 (N8 y) := hU.get ⟨11, .phase⟩ (by simp) rfl
            simp only [putAll, List.foldl_cons, List.foldl_nil]
            go_frame
            try simp only [u0, u2, u1, u3, u4, u5, u6, u7, u8, u9, u10, u11]
            go_wp2_with fail
            exact ⟨rfl, _, rfl, Below.refl _ _, rfl⟩
          exact HSteps.nil
        case grow =>
          intro kq u wa wb hb hu
          rcases kq with _ | _ | _ | _ | _ | _ | _ | _ | _ | _ | _ | _ | _ | kq
          · exact hu
          · exact hu
          · exact hu
          · exact hu
          · exact hu
          · exact hu
          · exact hu
          · exact hu
          · exact hu
          · exact hu
          · exact hu
          · exact hu
          · exact hu
          · trivial
        case tail =>
          intro f w7 hb7 hU
          obtain u11 : f 52 = .int .u8 (N8 y) := hU.get 11 (by decide)
          obtain u12 : f 53 = .pointer (some ⟨gb, q, none⟩) := hU.get 12 (by decide)
          simp only [List.drop_succ_cons, List.drop_zero, putAll, List.foldl_cons, List.foldl_nil]
          go_frame
          simp only [u11, u12]
          clear u11 u12
          clear hU
          have kb7 : BlkB w7 gb 5 bs := Blk.keep kb hb7
          have own7 := own_below own hb7
          have hu7 := hu.keep hb7
          have B7 := hbel.trans (hb7.mono (by have := hbel.size; omega))
          clear kb own hu hbel hb7 cu0 CX
          go_wp2_with ((with_reducible refine is_store 5 ?_); refine wp_store1 gb q _ _ (.int .u8 (N8 y)) kb7 rfl slN.2.1 (by rw [List.length_map]; omega) rfl rfl rfl ?_; intro w8 kA8 r8; go_frame)
          have kb8 : BlkB w8 gb 5 (bs.set q y) := by
            unfold BlkB
            rw [List.map_set]
            exact kA8
          have own8 := own7.kept r8 (.inr (fun hq => by have := HV6.out _ hq; omega))
          have hu8 := hu7.grown r8 (fun g hg hN => by cases hg; have := hN.2; omega)
          have B8 := B7.grown r8 (by have := B7.size; omega) (fun z hz => by cases hz; exact hgb)
          go_wp2_with fail
          go_roundw
          case measure => simp [intOf]; omega
          case rel =>
            refine ⟨i + 1, bs.set q y, by omega, by go_num, by rw [List.length_set]; exact hbl, hid (fun j hj => ?_), kb8, own8, hu8, B8⟩
            have hb0 : bit bs i = false := by rw [HB.out i (by omega)]; simp
            have := HBP2.out j hbl (by omega) hj hb0
            rw [show ((some x : Option UInt8).getD 0) = x from rfl, HY.out] at this
            rw [this, HB.out j hj]
            by_cases hji : j = i
            · rw [hji, hub]; simp
            · have : decide (j < i + 1) = decide (j < i) := by rw [decide_eq_decide]; omega
              rw [this]
              simp [hji]
    · obtain rfl : i = n := by omega
      have hgl : gb < wr.heap.size := Blk.lt kb
      have hrb : RB wr (some ⟨gb, 0, none⟩) 128 bs := BlkB.cells kb hbl
      have hg4w : g4 ≤ wr.heap.size := by have := hbel.size; omega
      have tk : ¬ (i : Int) < (i : Int) := by omega
      have hM4 : M ≤ 364 := by have := HMn.out; omega
      go_wp2_with (at_builtin; refine wp_app _ rfl _ _ 40 rfl g4 5 _ 1 bytesT _ _ _ own rfl (some ⟨gb, 0, none⟩) 128 128 _ hrb rfl (byV_one _) (by unfold maxLen; omega) (by omega) hg4w ?_; intro v8 w8 own8 r8 a8; go_frame)
      have q8 : ∀ g, v6.ownBlock = some g → g4 ≤ g := fun g hg => (own.lt g hg).1
      have B8 := hbel.grown r8 hg4w (fun g hg => q8 g hg)
      have eX : X6 ++ bs.map byV = (rootBody root mt bs).map byV := by
        rw [← HX6.out, ← HL4.out, ← hml]
        exact body_bytes root mt bs
      rw [eX] at own8
      obtain ⟨A8, c8, rfl, hr8, hc1, hc2⟩ := own_form own8
      go_wp2_with fail
      go_ret
      have eM : M + 128 = 236 + nm := by have := HMn.out; omega
      rw [eM] at own8 hc1 ⊢
      refine ⟨A8, c8, rfl, bs, hbl, fun j hj => ?_, RN.own own8 (fun b hb => hb), hc1, hc2, B8⟩
      rw [HB.out j hj]
      by_cases hjn : j < i
      · simp [hjn]
      · rw [List.getElem?_eq_none (by omega)]; simp
end Go.Proofs.YtanglofabkbllaaDoor
