/- The invariant of a page store: what its disk holds and what the reference says. No program in sight. -/
import Derived.Test.YtanglofabkbllaaDoorRS
import Derived.Test.YtanglofabkbllaaDoorPgO
import Derived.Test.YtanglofabkbllaaDoorUsed
set_option linter.unusedSimpArgs false
set_option linter.unusedVariables false
namespace Go.Proofs.YtanglofabkbllaaDoor
open Go.RowKit

theorem dec_enc (id stamp kind : Nat) (l : List UInt8) (h1 : id ≤ 2147483647) (h2 : kind ≤ 255) (h3 : l.length ≤ 1000) (h4 : stamp < 18446744073709551616) : decoded (encoded id stamp kind l) = ⟨id, stamp, kind, l, 0⟩ := by
  have hp := plainPage_len (id := id) (stamp := stamp) (kind := kind) h3
  have hlen : (encoded id stamp kind l).length = 1024 := by unfold encoded; rw [sealed_len, hp]
  have ht : (encoded id stamp kind l).take 1020 = plainPage id stamp kind l := by
    unfold encoded sealed
    rw [List.take_append_of_le_length (by omega), List.take_of_length_le (by omega)]
  have hd : (encoded id stamp kind l).drop 1020 = sumBytes (Crc.crc (plainPage id stamp kind l)) := by
    unfold encoded sealed
    rw [List.drop_append_of_le_length (by omega), List.drop_of_length_le (by omega), List.nil_append]
  unfold decoded
  rw [if_neg (by omega), if_pos (by rw [ht, hd]), ht]
  have e0 : plainPage id stamp kind l = [79, 80, 71, 49] ++ (le 4 id ++ (le 8 stamp ++ ([UInt8.ofNat kind, 0] ++ (le 2 l.length ++ (l ++ List.replicate (1000 - l.length) 0))))) := by
    unfold plainPage; simp only [List.append_assoc]
  have t1 : (plainPage id stamp kind l).take 4 = [79, 80, 71, 49] := by rw [e0]; rfl
  have d4 : (plainPage id stamp kind l).drop 4 = le 4 id ++ (le 8 stamp ++ ([UInt8.ofNat kind, 0] ++ (le 2 l.length ++ (l ++ List.replicate (1000 - l.length) 0)))) := by rw [e0]; rfl
  have d8 : (plainPage id stamp kind l).drop 8 = le 8 stamp ++ ([UInt8.ofNat kind, 0] ++ (le 2 l.length ++ (l ++ List.replicate (1000 - l.length) 0))) := by
    rw [show (8 : Nat) = 4 + 4 from rfl, ← List.drop_drop, d4, List.drop_left' (by simp)]
  have d16 : (plainPage id stamp kind l).drop 16 = [UInt8.ofNat kind, 0] ++ (le 2 l.length ++ (l ++ List.replicate (1000 - l.length) 0)) := by
    rw [show (16 : Nat) = 8 + 8 from rfl, ← List.drop_drop, d8, List.drop_left' (by simp)]
  have d18 : (plainPage id stamp kind l).drop 18 = le 2 l.length ++ (l ++ List.replicate (1000 - l.length) 0) := by
    rw [show (18 : Nat) = 16 + 2 from rfl, ← List.drop_drop, d16]; rfl
  have d20 : (plainPage id stamp kind l).drop 20 = l ++ List.replicate (1000 - l.length) 0 := by
    rw [show (20 : Nat) = 18 + 2 from rfl, ← List.drop_drop, d18, List.drop_left' (by simp)]
  have n2 : num (((plainPage id stamp kind l).drop 18).take 2) = l.length := by
    rw [d18, List.take_left' (by simp), num_le 2 _ (by omega)]
  have n4 : num (((plainPage id stamp kind l).drop 4).take 4) = id := by
    rw [d4, List.take_left' (by simp), num_le 4 _ (by omega)]
  have n8 : num (((plainPage id stamp kind l).drop 8).take 8) = stamp := by
    rw [d8, List.take_left' (by simp), num_le 8 _ (by omega)]
  have k16 : (plainPage id stamp kind l)[16]? = some (UInt8.ofNat kind) := by
    have := List.getElem?_drop (xs := plainPage id stamp kind l) (i := 16) (j := 0)
    rw [d16, List.cons_append, List.getElem?_cons_zero] at this; exact this.symm
  have k17 : (plainPage id stamp kind l)[17]? = some 0 := by
    have := List.getElem?_drop (xs := plainPage id stamp kind l) (i := 16) (j := 1)
    rw [d16, List.cons_append, List.getElem?_cons_succ, List.cons_append, List.getElem?_cons_zero] at this; exact this.symm
  have hk : (UInt8.ofNat kind).toNat = kind := by rw [UInt8.toNat_ofNat']; omega
  have t20 : ((plainPage id stamp kind l).drop 20).take l.length = l := by rw [d20, List.take_left' rfl]
  have hz : ((plainPage id stamp kind l).drop (20 + l.length)).all (· == 0) = true := by
    rw [← List.drop_drop, d20, List.drop_left' rfl, List.all_eq_true]
    intro b hb
    simp [List.eq_of_mem_replicate hb]
  have hpg := page_of (plainPage id stamp kind l) id stamp l.length (UInt8.ofNat kind) hp h3 h1 n2 n4 n8 k16
  rw [hpg, if_pos ⟨t1, k17, hz⟩, t20, hk]
/-- what a root slot holds, and what a data page holds -/
noncomputable def rootF (f : Secs) (sec pgs par : Nat) : Option Sta := storedOf (decoded (secs f (sec + 8 * par) 8)) par pgs
def pageF (f : Secs) (sec id : Nat) : List UInt8 × Int := readOf (decoded (secs f (sec + 8 * (id + 1)) 8)) id

structure Sim (F : Secs) (p : Pgr) (D : Dk) (S : RS) (k : Nat) : Prop where
  pok : p.ok
  sok : S.ok
  n : p.pgs = S.n
  n1 : 1 ≤ S.n
  num : p.num = S.num
  root : p.root = S.root
  mt : p.mt = S.mt
  cu : ∀ i, i < 1024 → bit p.cu i = S.usedB i
  nu : ∀ i, i < 1024 → bit p.nu i = S.nowB i
  u0 : S.usedB 0 = false
  k0 : S.nowB 0 = false
  rin : S.root = 0 ∨ (S.root ≤ S.n ∧ S.usedB S.root = true)
  numk : S.num ≤ k + 1
  num1 : 1 ≤ S.num
  Wk : D.W.length ≤ 8 * k
  hD : p.sec + 8 * (S.n + 2) ≤ D.n
  syn : ∀ x ∈ D.W, ∃ id, 1 ≤ id ∧ id ≤ S.n ∧ S.usedB id = false ∧ p.sec + 8 * (id + 1) ≤ x.1 ∧ x.1 < p.sec + 8 * (id + 1) + 8
  slot : rootF D.cur p.sec S.n (S.num % 2) = some ⟨S.root, S.num, S.mt, p.cu⟩
  other : ∀ s, rootF D.cur p.sec S.n ((S.num + 1) % 2) = some s → s.num < S.num
  bod : ∀ id, 1 ≤ id → id ≤ S.n → (S.usedB id = true ∨ S.nowB id = true) → pageF D.cur p.sec id = (S.bod[id]?.getD [], 0)
  out : ∀ i, i < p.sec ∨ p.sec + 8 * (S.n + 2) ≤ i → D.S i = F i

theorem nowB_in {S : RS} (h : S.ok) {i : Nat} (hi : S.nowB i = true) : i ≤ S.n := by
  unfold RS.nowB at hi
  rcases Nat.lt_or_ge S.n i with h1 | h1
  · rw [List.getElem?_eq_none (by rw [h.k]; omega)] at hi
    cases hi
  · exact h1
theorem usedB_in {S : RS} (h : S.ok) {i : Nat} (hi : S.usedB i = true) : i ≤ S.n := by
  unfold RS.usedB at hi
  rcases Nat.lt_or_ge S.n i with h1 | h1
  · rw [List.getElem?_eq_none (by rw [h.u]; omega)] at hi
    cases hi
  · exact h1
theorem Sim.mono {F : Secs} {p : Pgr} {D : Dk} {S : RS} {k m : Nat} (h : Sim F p D S k) (hm : k ≤ m) : Sim F p D S m :=
  { h with numk := by have := h.numk; omega, Wk := by have := h.Wk; omega }
theorem Sim.uses {F : Secs} {p : Pgr} {D : Dk} {S : RS} {k : Nat} (h : Sim F p D S k) (id : Int) : p.uses id = S.inn id := by
  unfold Pgr.uses RS.inn
  rw [h.n]
  by_cases h1 : 1 ≤ id
  · by_cases h2 : id ≤ S.n
    · have := h.sok.n
      rw [h.nu id.toNat (by omega)]
      rfl
    · simp [h2]
  · simp [h1]
theorem Sim.idle {F : Secs} {p : Pgr} {D : Dk} {S : RS} {k : Nat} (h : Sim F p D S k) (id : Nat) : p.idle id ↔ S.idle id := by
  unfold Pgr.idle RS.idle
  rw [h.n]
  have := h.sok.n
  constructor
  · rintro ⟨h1, h2, h3, h4⟩
    exact ⟨h1, h2, by rw [← h.nu id (by omega)]; exact h3, by rw [← h.cu id (by omega)]; exact h4⟩
  · rintro ⟨h1, h2, h3, h4⟩
    exact ⟨h1, h2, by rw [h.nu id (by omega)]; exact h3, by rw [h.cu id (by omega)]; exact h4⟩
theorem Sim.first {F : Secs} {p : Pgr} {D : Dk} {S : RS} {k : Nat} (h : Sim F p D S k) (id : Nat) : p.first id ↔ S.first id := by
  unfold Pgr.first RS.first
  simp only [h.idle]
theorem first_eq {S : RS} {a b : Nat} (ha : S.first a) (hb : S.first b) : a = b := Nat.le_antisymm (ha.2 b hb.1) (hb.2 a ha.1)
theorem Sim.room {F : Secs} {p : Pgr} {D : Dk} {S : RS} {k : Nat} (h : Sim F p D S k) : p.roomC p.pgs = S.roomC S.n := by
  rw [h.n]
  have hn := h.sok.n
  have : ∀ m, m ≤ S.n → p.roomC m = S.roomC m := by
    intro m
    induction m with
    | zero => intro _; rfl
    | succ m ih =>
      intro hm
      rw [Pgr.roomC_succ, RS.roomC_succ, ih (by omega), h.nu (m + 1) (by omega), h.cu (m + 1) (by omega)]
  exact this S.n (Nat.le_refl _)

theorem Sim.free {F : Secs} {p : Pgr} {D : Dk} {S : RS} {k id : Nat} (h : Sim F p D S k) (hi : S.inn id = true) : Sim F (p.turned id) D (S.free id) (k + 1) := by
  have hn := h.sok.n
  unfold RS.inn at hi
  simp only [Bool.and_eq_true, decide_eq_true_eq, Int.toNat_natCast] at hi
  obtain ⟨⟨h1, h2⟩, h3⟩ := hi
  have hB : ∀ i, (S.free id).nowB i = if i = id then false else S.nowB i := by
    intro i
    unfold RS.nowB RS.free
    dsimp only
    rw [List.getElem?_set]
    have := h.sok.k
    by_cases e : i = id
    · rw [if_pos e.symm, if_pos (by omega), if_pos e]; rfl
    · rw [if_neg (fun x => e x.symm), if_neg e]
  have hm := h.mono (Nat.le_succ k)
  exact { hm with
    pok := Pgr.turned_ok h.pok id
    sok := ⟨h.sok.n, h.sok.num, h.sok.u, by simp [RS.free, h.sok.k], h.sok.b⟩
    nu := fun i hi => by
      show bit (turn p.nu id) i = _
      rw [bit_turn _ _ _ (by rw [h.pok.nu]; omega), h.nu i hi, hB]
      by_cases e : i = id
      · subst e
        have e3 : S.nowB i = true := h3
        simp [e3]
      · rw [if_neg e, show (i == id) = false by simpa using e, Bool.xor_false]
    k0 := by rw [hB, if_neg (by omega)]; exact h.k0
    bod := fun i a b c => h.bod i a b (by
      rcases c with c | c
      · exact .inl c
      · rw [hB] at c
        split at c
        · cases c
        · exact .inr c) }

theorem crunN (ch : Nat) : ∀ (l : List (Nat × List UInt8)) (c : Nat) (f : Secs) (i : Nat), (∀ x ∈ l, x.1 ≠ i) → crun ch c f l i = f i
  | [], _, _, _, _ => rfl
  | x :: l, c, f, i, h => by
    rw [crun, crunN ch l _ _ i fun y hy => h y (List.mem_cons_of_mem _ hy)]
    have hne : i ≠ x.1 := fun e => h x (List.mem_cons_self ..) e.symm
    unfold tear
    split
    · exact if_neg hne
    · split
      · exact if_neg hne
      · rfl
theorem cur_not (D : Dk) (i : Nat) (h : ∀ x ∈ D.W, x.1 ≠ i) : D.cur i = D.S i := by
  unfold Dk.cur
  generalize D.W = W at h ⊢
  induction W with
  | nil => rfl
  | cons x l ih =>
    rw [List.foldr_cons]
    unfold upd
    rw [if_neg (fun e => h x (List.mem_cons_self ..) e.symm)]
    exact ih fun y hy => h y (List.mem_cons_of_mem _ hy)
theorem crash_not (D : Dk) (ch i : Nat) (h : ∀ x ∈ D.W, x.1 ≠ i) : (D.crash ch).cur i = D.cur i := by
  rw [cur_not D i h]
  exact crunN ch _ _ _ i fun x hx => h x (List.mem_reverse.1 hx)
theorem rootF_ext {f g : Secs} {sec pgs par : Nat} (h : ∀ i, sec + 8 * par ≤ i → i < sec + 8 * par + 8 → f i = g i) : rootF f sec pgs par = rootF g sec pgs par := by
  unfold rootF
  rw [secs_ext 8 fun i hi => h (sec + 8 * par + i) (by omega) (by omega)]
theorem pageF_ext {f g : Secs} {sec id : Nat} (h : ∀ i, sec + 8 * (id + 1) ≤ i → i < sec + 8 * (id + 1) + 8 → f i = g i) : pageF f sec id = pageF g sec id := by
  unfold pageF
  rw [secs_ext 8 fun i hi => h (sec + 8 * (id + 1) + i) (by omega) (by omega)]

theorem Sim.opens {F : Secs} {p : Pgr} {D : Dk} {S : RS} {k : Nat} (h : Sim F p D S k) : openOf D p.sec S.n = some ⟨S.root, S.num, S.mt, p.cu⟩ := by
  unfold openOf
  show later13 (later13 none (rootAt D p.sec S.n 0)) (rootAt D p.sec S.n 1) = _
  have hs := h.slot
  have ho := h.other
  show later13 (later13 none (rootF D.cur p.sec S.n 0)) (rootF D.cur p.sec S.n 1) = _
  rcases Nat.mod_two_eq_zero_or_one S.num with e | e
  · rw [e] at hs
    rw [show (S.num + 1) % 2 = 1 by omega] at ho
    rw [hs]
    show later13 (some ⟨S.root, S.num, S.mt, p.cu⟩) _ = _
    cases e1 : rootF D.cur p.sec S.n 1 with
    | none => rfl
    | some t =>
      have := ho t e1
      show (if S.num < t.num then _ else _) = _
      rw [if_neg (by omega)]
  · rw [e] at hs
    rw [show (S.num + 1) % 2 = 0 by omega] at ho
    rw [hs]
    cases e1 : rootF D.cur p.sec S.n 0 with
    | none => rfl
    | some t =>
      have := ho t e1
      show (if t.num < S.num then _ else _) = _
      rw [if_pos this]
/-- a store that was opened anew -/
theorem Sim.again {F : Secs} {p : Pgr} {D : Dk} {S : RS} {k : Nat} (h : Sim F p D S k) (d : DV) : Sim F (Pgr.at_ d p.sec S.n ⟨S.root, S.num, S.mt, p.cu⟩) D S.reopen (k + 1) := by
  have hm := h.mono (Nat.le_succ k)
  exact { hm with
    pok := ⟨h.pok.cu, h.pok.cu, h.pok.sec, h.sok.n, h.sok.num, by show S.mt.length ≤ 256; rw [← h.mt]; exact h.pok.mt⟩
    sok := ⟨h.sok.n, h.sok.num, h.sok.u, h.sok.u, h.sok.b⟩
    n := rfl
    num := rfl
    root := rfl
    mt := rfl
    nu := h.cu
    k0 := h.u0
    bod := fun i a b c => h.bod i a b (.inl (c.elim id id)) }
theorem Sim.crash {F : Secs} {p : Pgr} {D : Dk} {S : RS} {k : Nat} (h : Sim F p D S k) (ch : Nat) : Sim F p.back (D.crash ch) S.reopen k := by
  have hn : ∀ i, (i < p.sec + 16 ∨ p.sec + 8 * (S.n + 2) ≤ i ∨ ∃ id, S.usedB id = true ∧ p.sec + 8 * (id + 1) ≤ i ∧ i < p.sec + 8 * (id + 1) + 8) → ∀ x ∈ D.W, x.1 ≠ i := by
    intro i hi x hx e
    obtain ⟨id, h1, h2, h3, h4, h5⟩ := h.syn x hx
    rcases hi with hi | hi | ⟨j, hj, hi⟩
    · omega
    · omega
    · have : j = id := by omega
      rw [this, h3] at hj
      cases hj
  exact { h with
    pok := Pgr.back_ok h.pok
    sok := ⟨h.sok.n, h.sok.num, h.sok.u, h.sok.u, h.sok.b⟩
    nu := h.cu
    k0 := h.u0
    Wk := by show 0 ≤ _; omega
    syn := fun x hx => by cases hx
    slot := by
      refine Eq.trans (?_ : rootF (D.crash ch).cur p.sec S.n (S.num % 2) = rootF D.cur p.sec S.n (S.num % 2)) h.slot
      exact rootF_ext fun i h1 h2 => crash_not D ch i (hn i (.inl (by have := Nat.mod_lt S.num (show 0 < 2 by omega); omega)))
    other := fun s hs => h.other s (by
      rw [← hs]
      exact (rootF_ext fun i h1 h2 => crash_not D ch i (hn i (.inl (by have := Nat.mod_lt (S.num + 1) (show 0 < 2 by omega); omega)))).symm)
    bod := fun id h1 h2 h3 => by
      have hu : S.usedB id = true := h3.elim (fun x => x) (fun x => x)
      show pageF _ p.sec id = (S.bod[id]?.getD [], 0)
      rw [← h.bod id h1 h2 (.inl hu)]
      exact pageF_ext fun i h1 h2 => crash_not D ch i (hn i (.inr (.inr ⟨id, hu, h1, h2⟩)))
    out := fun i hi => by
      show crun ch 0 D.S D.W.reverse i = F i
      have h1 : i < p.sec ∨ p.sec + 8 * (S.n + 2) ≤ i := hi
      rw [crunN ch _ _ _ i fun x hx => hn i (h1.elim (fun x => .inl (by omega)) fun x => .inr (.inl x)) x (List.mem_reverse.1 hx)]
      exact h.out i hi }

theorem pageF_put {D : Dk} {sec id stamp : Nat} {l : List UInt8} (h1 : id ≤ 1023) (h2 : l.length ≤ 1000) (h3 : stamp < 18446744073709551616) : pageF (put D (sec + 8 * (id + 1)) (encoded id stamp 1 l) 8).cur sec id = (l, 0) := by
  unfold pageF
  rw [secs_put _ _ _ (enc_len _ _ _ _ h2), dec_enc _ _ _ _ (by omega) (by omega) h2 h3]
  simp [readOf]
theorem put_Wmem (D : Dk) (s : Nat) (B : List UInt8) : ∀ k, ∀ x ∈ (put D s B k).W, x ∈ D.W ∨ (s ≤ x.1 ∧ x.1 < s + k)
  | 0, x, hx => .inl hx
  | k + 1, x, hx => by
    rcases List.mem_cons.1 hx with e | e
    · right; rw [e]; constructor
      · exact Nat.le_add_right _ _
      · show s + k < _; omega
    · rcases put_Wmem D s B k x e with h | h
      · exact .inl h
      · exact .inr ⟨h.1, by omega⟩
theorem Sim.alloc {F : Secs} {p : Pgr} {D : Dk} {S : RS} {k id : Nat} {l : List UInt8} (h : Sim F p D S k) (hk : k ≤ 100000) (hf : S.first id) (hl : l.length ≤ 1000) (d : DV) :
    Sim F ((p.on d).turned id) (put D (p.sec + 8 * (id + 1)) (encoded id (p.num + 1) 1 l) 8) (S.alloc id l) (k + 1) := by
  have hn := h.sok.n
  obtain ⟨⟨h1, h2, h3, h4⟩, -⟩ := hf
  have hB : ∀ i, (S.alloc id l).nowB i = if i = id then true else S.nowB i := by
    intro i
    unfold RS.nowB RS.alloc
    dsimp only
    rw [List.getElem?_set]
    have := h.sok.k
    by_cases e : i = id
    · rw [if_pos e.symm, if_pos (by omega), if_pos e]; rfl
    · rw [if_neg (fun x => e x.symm), if_neg e]
  have hu : ∀ i, (S.alloc id l).usedB i = S.usedB i := fun i => rfl
  have hb : ∀ i, (S.alloc id l).bod[i]?.getD [] = if i = id then l else S.bod[i]?.getD [] := by
    intro i
    show (S.bod.set id l)[i]?.getD [] = _
    rw [List.getElem?_set]
    have := h.sok.b
    by_cases e : i = id
    · rw [if_pos e.symm, if_pos (by omega), if_pos e]; rfl
    · rw [if_neg (fun x => e x.symm), if_neg e]
  have hm := h.mono (Nat.le_succ k)
  exact { hm with
    pok := Pgr.turned_ok (Pgr.on_ok h.pok d) id
    sok := ⟨h.sok.n, h.sok.num, h.sok.u, by simp [RS.alloc, h.sok.k], by simp [RS.alloc, h.sok.b]⟩
    nu := fun i hi => by
      show bit (turn p.nu id) i = _
      rw [bit_turn _ _ _ (by rw [h.pok.nu]; omega), h.nu i hi, hB]
      by_cases e : i = id
      · subst e; simp [h3]
      · rw [if_neg e, show (i == id) = false by simpa using e, Bool.xor_false]
    k0 := by rw [hB, if_neg (by omega)]; exact h.k0
    Wk := by rw [put_W]; have := h.Wk; omega
    hD := by rw [put_n]; exact h.hD
    syn := fun x hx => by
      rcases put_Wmem _ _ _ 8 x hx with e | e
      · exact h.syn x e
      · exact ⟨id, h1, h2, h4, e.1, e.2⟩
    slot := by
      refine Eq.trans (?_ : rootF (put D (p.sec + 8 * (id + 1)) (encoded id (p.num + 1) 1 l) 8).cur p.sec S.n (S.num % 2) = rootF D.cur p.sec S.n (S.num % 2)) h.slot
      refine rootF_ext fun i a b => ?_
      rw [put_cur, if_neg]
      have := Nat.mod_lt S.num (show 0 < 2 by omega)
      have b' : i < p.sec + 8 * (S.num % 2) + 8 := b
      omega
    other := fun s hs => h.other s (by
      rw [← hs]
      refine (rootF_ext fun i a b => ?_).symm
      rw [put_cur, if_neg]
      have := Nat.mod_lt (S.num + 1) (show 0 < 2 by omega)
      have b' : i < p.sec + 8 * ((S.num + 1) % 2) + 8 := b
      omega)
    bod := fun i a b c => by
      rw [hb]
      by_cases e : i = id
      · subst e
        rw [if_pos rfl]
        exact pageF_put (by omega) hl (by have := h.numk; rw [h.num]; omega)
      · rw [if_neg e, ← h.bod i a b (by
          rcases c with c | c
          · exact .inl c
          · rw [hB, if_neg e] at c; exact .inr c)]
        refine pageF_ext fun j a b => ?_
        rw [put_cur, if_neg]
        have a' : p.sec + 8 * (i + 1) ≤ j := a
        have b' : j < p.sec + 8 * (i + 1) + 8 := b
        omega
    out := fun i hi => by rw [put_S]; exact h.out i hi }

theorem fill_cur (D : Dk) (s : Nat) (b : List UInt8) : ∀ k j, (D.fill s b k).cur j = if s + 1 ≤ j ∧ j ≤ s + k then chunk b (j - s) else D.cur j
  | 0, j => by rw [if_neg (by omega)]; rfl
  | k + 1, j => by
    show upd (D.fill s b k).cur (s + (k + 1)) _ j = _
    unfold upd
    by_cases h : j = s + (k + 1)
    · rw [if_pos h, if_pos (by omega), h, Nat.add_sub_cancel_left]; rfl
    · rw [if_neg h, fill_cur D s b k j]
      by_cases h2 : s + 1 ≤ j ∧ j ≤ s + k
      · rw [if_pos h2, if_pos (by omega)]
      · rw [if_neg h2, if_neg (by omega)]
theorem root_cur (D : Dk) (s : Nat) (b : List UInt8) (j : Nat) : (D.root s b).cur j = if s ≤ j ∧ j < s + 8 then chunk b (j - s) else D.cur j := by
  show upd (((D.write s zero128).sync.fill s b 7)).cur s (b.take 128) j = _
  unfold upd
  by_cases h : j = s
  · rw [if_pos h, if_pos (by omega), h, Nat.sub_self]; simp [chunk]
  · rw [if_neg h, fill_cur]
    by_cases h2 : s + 1 ≤ j ∧ j ≤ s + 7
    · rw [if_pos h2, if_pos (by omega)]
    · rw [if_neg h2, if_neg (by omega)]
      show upd D.cur s zero128 j = _
      unfold upd
      rw [if_neg h]
theorem root_n (D : Dk) (s : Nat) (b : List UInt8) : (D.root s b).n = D.n := by
  show (((D.write s zero128).sync.fill s b 7)).n = _
  rw [Dk.fill_n]
  rfl
theorem root_W (D : Dk) (s : Nat) (b : List UInt8) : (D.root s b).W = [] := rfl
theorem secs_root (D : Dk) (s : Nat) (b : List UInt8) (hb : b.length = 1024) : secs (D.root s b).cur s 8 = b := by
  rw [secs_chunks b _ s 8, List.take_of_length_le (by omega)]
  intro i hi
  rw [root_cur, if_pos (by omega), Nat.add_sub_cancel_left]
theorem two_num (n : Nat) (h : n < 65536) : num [UInt8.ofNat n, UInt8.ofNat (n / 256)] = n := by
  have := num_le 2 n (by omega)
  simpa [le] using this
theorem stored_root (root stamp par pgs : Nat) (mt nu : List UInt8) (h1 : root ≤ 1023) (h2 : stamp ≠ 0) (h3 : stamp % 2 = par) (h4 : mt.length ≤ 256) (h5 : nu.length = 128) (h6 : within nu pgs) (h7 : rootIn nu root pgs) :
    storedOf ⟨0, stamp, 2, rootBody root mt nu, 0⟩ par pgs = some ⟨root, stamp, mt, nu⟩ := by
  have hl := rootBody_len root mt nu
  have e0 : rootBody root mt nu = UInt8.ofNat root :: UInt8.ofNat (root / 256) :: UInt8.ofNat mt.length :: UInt8.ofNat (mt.length / 256) :: (List.replicate 104 0 ++ (mt ++ nu)) := by
    unfold rootBody
    simp only [List.append_assoc, List.cons_append, List.nil_append]
  have d108 : (rootBody root mt nu).drop 108 = mt ++ nu := by
    rw [e0, show (108 : Nat) = 4 + 104 from rfl, ← List.drop_drop]
    show List.drop 104 (List.replicate 104 0 ++ (mt ++ nu)) = _
    rw [List.drop_left' (by simp)]
  refine (stored_end stamp par pgs mt.length root (rootBody root mt nu) mt nu h2 h3 (by rw [hl, h5]) h4 ?_ ?_ ?_ ?_ ?_).2.2 h6 h7
  · unfold mlen
    rw [e0]
    exact two_num mt.length (by omega)
  · rw [e0]
    show List.take 104 (List.replicate 104 0 ++ (mt ++ nu)) = _
    rw [List.take_left' (by simp)]
  · rw [e0]
    exact two_num root (by omega)
  · rw [d108, List.take_left' rfl]
  · rw [← List.drop_drop, d108, List.drop_left' rfl]
theorem rootF_root {f : Secs} {sec par pgs root stamp : Nat} {mt nu : List UInt8} (hf : secs f (sec + 8 * par) 8 = encoded 0 stamp 2 (rootBody root mt nu)) (h1 : root ≤ 1023) (h2 : stamp ≠ 0) (h3 : stamp % 2 = par) (h4 : mt.length ≤ 256) (h5 : nu.length = 128) (h6 : within nu pgs) (h7 : rootIn nu root pgs) (h8 : stamp < 18446744073709551616) :
    rootF f sec pgs par = some ⟨root, stamp, mt, nu⟩ := by
  unfold rootF
  rw [hf, dec_enc _ _ _ _ (by omega) (by omega) (by rw [rootBody_len]; omega) h8]
  exact stored_root root stamp par pgs mt nu h1 h2 h3 h4 h5 h6 h7
theorem rootF_zero {f : Secs} {sec par pgs : Nat} (h : f (sec + 8 * par) = zero128) : rootF f sec pgs par = none := by
  unfold rootF storedOf
  rw [if_pos]
  left
  have e : ∃ r, secs f (sec + 8 * par) 8 = zero128 ++ r := by
    refine ⟨(List.range 7).flatMap (fun i => f (sec + 8 * par + (i + 1))), ?_⟩
    unfold secs
    rw [← h]
    simp [List.range_succ, List.flatMap_append, List.append_assoc]
  obtain ⟨r, hr⟩ := e
  rw [hr]
  unfold decoded
  split
  · show (15 : Int) ≠ 0; omega
  · split
    · unfold pageOf
      dsimp only
      rw [if_neg]
      · show (15 : Int) ≠ 0; omega
      · rintro ⟨h1, -⟩
        rw [List.take_take] at h1
        have : zero128 = 0 :: List.replicate 127 0 := by decide
        rw [this] at h1
        simp at h1
    · show (29 : Int) ≠ 0; omega
theorem Sim.within {F : Secs} {p : Pgr} {D : Dk} {S : RS} {k : Nat} (h : Sim F p D S k) : within p.nu S.n := fun i hi hb => by
  rw [h.nu i hi] at hb
  refine ⟨?_, nowB_in h.sok hb⟩
  rcases Nat.eq_zero_or_pos i with e | e
  · rw [e, h.k0] at hb; cases hb
  · exact e
set_option maxHeartbeats 1000000 in
theorem Sim.commit {F : Secs} {p : Pgr} {D : Dk} {S : RS} {k root : Nat} {l : List UInt8} (h : Sim F p D S k) (hk : k ≤ 100000) (hr : S.rootOk root) (hl : l.length ≤ 256) (d : DV) :
    Sim F ((p.com ⟨root, p.num + 1, l, p.nu⟩).on d) (D.root (p.sec + 8 * ((p.num + 1) % 2)) (encoded 0 (p.num + 1) 2 (rootBody root l p.nu))) (S.commit root l) (k + 1) := by
  have hn := h.sok.n
  have hnk := h.numk
  have e1 := h.num
  have hr' : root = 0 ∨ (root ≤ S.n ∧ S.nowB root = true) := by
    rcases hr with e | e
    · exact .inl e
    · right
      unfold RS.inn at e
      simp only [Bool.and_eq_true, decide_eq_true_eq, Int.toNat_natCast] at e
      exact ⟨by omega, e.2⟩
  have hrn : root ≤ 1023 := by rcases hr' with e | e <;> omega
  have hm2 := Nat.mod_lt (S.num + 1) (show 0 < 2 by omega)
  have hbl : (encoded 0 (p.num + 1) 2 (rootBody root l p.nu)).length = 1024 := enc_len _ _ _ _ (by rw [rootBody_len, h.pok.nu]; omega)
  rw [e1]
  rw [e1] at hbl
  obtain ⟨B, hB⟩ : ∃ z, encoded 0 (S.num + 1) 2 (rootBody root l p.nu) = z := ⟨_, rfl⟩
  have hrI : rootIn p.nu root S.n := by
    rcases hr' with e | e
    · exact .inl e
    · exact .inr ⟨e.1, by rw [h.nu root (by omega)]; exact e.2⟩
  have hslot : rootF (D.root (p.sec + 8 * ((S.num + 1) % 2)) B).cur p.sec S.n ((S.num + 1) % 2) = some ⟨root, S.num + 1, l, p.nu⟩ := by
    refine rootF_root (root := root) (stamp := S.num + 1) (mt := l) (nu := p.nu) ?_ hrn (Nat.succ_ne_zero _) rfl hl h.pok.nu h.within hrI (by omega)
    rw [hB, secs_root D _ B (by rw [← hB]; exact hbl)]
  rw [hB]
  clear hbl
  have hc := root_cur D (p.sec + 8 * ((S.num + 1) % 2)) B
  have hother : ∀ s, rootF (D.root (p.sec + 8 * ((S.num + 1) % 2)) B).cur p.sec S.n ((S.num + 1 + 1) % 2) = some s → s.num < S.num + 1 := by
    intro s hs
    rw [show (S.num + 1 + 1) % 2 = S.num % 2 by omega, rootF_ext (g := D.cur) fun i a b => by rw [hc, if_neg (by omega)], h.slot] at hs
    cases hs
    show S.num < S.num + 1
    omega
  have hbod : ∀ i, 1 ≤ i → i ≤ S.n → S.nowB i = true → pageF (D.root (p.sec + 8 * ((S.num + 1) % 2)) B).cur p.sec i = (S.bod[i]?.getD [], 0) := by
    intro i a b c
    rw [← h.bod i a b (.inr c)]
    exact pageF_ext fun j a b => by rw [hc, if_neg (by omega)]
  have hout : ∀ i, i < p.sec ∨ p.sec + 8 * (S.n + 2) ≤ i → (D.root (p.sec + 8 * ((S.num + 1) % 2)) B).cur i = F i := by
    intro i h1
    rw [hc, if_neg (by omega), ← h.out i h1]
    refine cur_not D i fun x hx => ?_
    obtain ⟨id, a1, a2, a3, a4, a5⟩ := h.syn x hx
    omega
  have hm := h.mono (Nat.le_succ k)
  exact { hm with
    pok := Pgr.on_ok (Pgr.com_ok h.pok ⟨by show root < 65536; omega, by show S.num + 1 < _; omega, hl, h.pok.nu⟩) d
    sok := ⟨h.sok.n, by show S.num + 1 < _; omega, h.sok.k, h.sok.k, h.sok.b⟩
    num := rfl
    root := rfl
    mt := rfl
    cu := h.nu
    u0 := h.k0
    rin := hr'
    numk := by show S.num + 1 ≤ k + 1 + 1; omega
    num1 := by show 1 ≤ S.num + 1; omega
    Wk := by rw [root_W]; exact Nat.zero_le _
    hD := by rw [root_n]; exact h.hD
    syn := fun x hx => by rw [root_W] at hx; cases hx
    slot := hslot
    other := hother
    bod := fun i a b c => hbod i a b (c.elim (fun x => x) (fun x => x))
    out := hout }
theorem Sim.fresh {D : Dk} {sec n : Nat} (d : DV) (hn : n ≤ 1023) (h1 : 1 ≤ n) (hs : sec ≤ 16384) (hD : sec + 8 * (n + 2) ≤ D.n) : Sim D.cur (Pgr.mk d sec n 0 1 [] zeros128 zeros128) (D.fresh sec) (RS.new n) 0 := by
  have z : ∀ i, bit zeros128 i = false := by
    intro i
    unfold bit zeros128
    rw [List.getElem?_replicate]
    split <;> simp [bitB]
  have zb : ∀ i : Nat, (List.replicate (n + 1) false)[i]?.getD false = false := by
    intro i
    rw [List.getElem?_replicate]
    split <;> rfl
  have hbl : (encoded 0 1 2 (rootBody 0 [] zeros128)).length = 1024 := enc_len _ _ _ _ (by rw [rootBody_len]; simp [zeros128])
  obtain ⟨E, hE⟩ : ∃ z, encoded 0 1 2 (rootBody 0 [] zeros128) = z := ⟨_, rfl⟩
  have hfr : D.fresh sec = (put (D.write sec zero128) (sec + 8) E 8).sync := by unfold Dk.fresh; rw [hE]
  have hc : ∀ j, (D.fresh sec).cur j = if sec + 8 ≤ j ∧ j < sec + 8 + 8 then chunk E (j - (sec + 8)) else upd D.cur sec zero128 j := fun j => by
    rw [hfr, Dk.cur_sync, put_cur, Dk.cur_write]
  have hcn : (D.fresh sec).n = D.n := by rw [hfr]; show (put (D.write sec zero128) (sec + 8) E 8).n = _; rw [put_n]; rfl
  have hcW : (D.fresh sec).W = [] := by rw [hfr]; rfl
  have hcS : (D.fresh sec).S = (D.fresh sec).cur := by rw [hfr]; rfl
  have hslot : rootF (D.fresh sec).cur sec n 1 = some ⟨0, 1, [], zeros128⟩ := by
    refine rootF_root (root := 0) (stamp := 1) (mt := []) (nu := zeros128) ?_ (by omega) (by omega) rfl (by simp) (by simp [zeros128]) (fun i _ hb => by rw [z] at hb; cases hb) (.inl rfl) (by omega)
    rw [hE, hfr, Dk.cur_sync]
    exact secs_put (D.write sec zero128) (sec + 8) E (by rw [← hE]; exact hbl)
  have hother : ∀ s, rootF (D.fresh sec).cur sec n 0 = some s → s.num < 1 := fun s hs => by
    rw [rootF_zero (by rw [hc, if_neg (by omega)]; unfold upd; rw [if_pos (by omega)])] at hs
    cases hs
  have hout : ∀ i, i < sec ∨ sec + 8 * (n + 2) ≤ i → (D.fresh sec).S i = D.cur i := fun i h1 => by
    rw [hcS, hc, if_neg (by omega)]
    unfold upd
    rw [if_neg (by omega)]
  clear hfr hc hE
  exact {
    pok := ⟨by simp [zeros128], by simp [zeros128], hs, hn, by show (1 : Nat) < _; omega, by simp⟩
    sok := ⟨hn, by show (1 : Nat) < _; omega, by simp [RS.new], by simp [RS.new], by simp [RS.new]⟩
    n := rfl
    n1 := h1
    num := rfl
    root := rfl
    mt := rfl
    cu := fun i _ => (z i).trans (zb i).symm
    nu := fun i _ => (z i).trans (zb i).symm
    u0 := zb 0
    k0 := zb 0
    rin := .inl rfl
    numk := Nat.le_refl _
    num1 := Nat.le_refl _
    Wk := by rw [hcW]; exact Nat.le_refl _
    hD := by rw [hcn]; exact hD
    syn := fun x hx => by rw [hcW] at hx; cases hx
    slot := hslot
    other := fun s hs => hother s (by rw [show ((RS.new n).num + 1) % 2 = 0 by simp [RS.new]] at hs; exact hs)
    bod := fun i a b c => by
      rcases c with c | c
      · have := (zb i).symm.trans c; cases this
      · have := (zb i).symm.trans c; cases this
    out := hout }
end Go.Proofs.YtanglofabkbllaaDoor

