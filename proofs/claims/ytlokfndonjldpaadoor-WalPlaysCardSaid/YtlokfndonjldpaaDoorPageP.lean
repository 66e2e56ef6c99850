/- The numbers and pages of layer 11 as plain lists of bytes. No program in sight. -/
import Derived.Test.YtlokfndonjldpaaDoorCrc
set_option linter.unusedSimpArgs false
set_option linter.unusedVariables false
namespace Go.Proofs.YtlokfndonjldpaaDoor

/-- n bytes of v, least first -/
def le : Nat → Nat → List UInt8
  | 0, _ => []
  | n + 1, v => UInt8.ofNat v :: le n (v / 256)
/-- the number whose bytes these are -/
def num : List UInt8 → Nat
  | [] => 0
  | b :: l => b.toNat + 256 * num l

@[simp] theorem le_len : ∀ n v, (le n v).length = n
  | 0, _ => rfl
  | n + 1, v => by simp [le, le_len n]
theorem le_at : ∀ n v i, i < n → (le n v)[i]? = some (UInt8.ofNat (v / 256 ^ i))
  | 0, _, _, h => absurd h (Nat.not_lt_zero _)
  | n + 1, v, 0, _ => by simp [le]
  | n + 1, v, i + 1, h => by
    simp only [le, List.getElem?_cons_succ]
    rw [le_at n _ i (by omega), Nat.div_div_eq_div_mul, Nat.pow_succ, Nat.mul_comm 256]
theorem le_snoc : ∀ n v, le (n + 1) v = le n v ++ [UInt8.ofNat (v / 256 ^ n)]
  | 0, v => by simp [le]
  | n + 1, v => by
    rw [le, le_snoc n, le, List.cons_append, Nat.div_div_eq_div_mul, Nat.pow_succ, Nat.mul_comm 256]
theorem le_take : ∀ k n v, k ≤ n → (le n v).take k = le k v
  | 0, _, _, _ => by simp [le]
  | k + 1, 0, _, h => absurd h (by omega)
  | k + 1, n + 1, v, h => by simp [le, le_take k n _ (by omega)]
theorem num_lt : ∀ l : List UInt8, num l < 256 ^ l.length
  | [] => by simp [num]
  | b :: l => by
    have := num_lt l
    have hb := b.toNat_lt
    simp only [num, List.length_cons, Nat.pow_succ]
    omega
theorem num_le : ∀ n v, v < 256 ^ n → num (le n v) = v
  | 0, v, h => by simp at h; simp [le, num, h]
  | n + 1, v, h => by
    rw [le, num, num_le n _ (by rw [Nat.pow_succ] at h; omega)]
    simp
    omega
theorem le_num : ∀ l : List UInt8, le l.length (num l) = l
  | [] => rfl
  | b :: l => by
    have hb := b.toNat_lt
    simp only [List.length_cons, le, num]
    rw [show (b.toNat + 256 * num l) / 256 = num l by omega, le_num l]
    congr 1
    apply UInt8.toNat_inj.1
    simp
theorem le_inj {n a b : Nat} (ha : a < 256 ^ n) (hb : b < 256 ^ n) (h : le n a = le n b) : a = b := by
  rw [← num_le n a ha, ← num_le n b hb, h]
theorem num_snoc (l : List UInt8) (b : UInt8) : num (l ++ [b]) = num l + 256 ^ l.length * b.toNat := by
  induction l with
  | nil => simp [num]
  | cons a l ih => simp only [List.cons_append, num, ih, List.length_cons, Nat.pow_succ, Nat.mul_add]; rw [← Nat.mul_assoc, Nat.mul_comm 256 (256 ^ l.length)]; omega

/-- the 1020 bytes ahead of the checksum -/
def plainPage (id stamp kind : Nat) (body : List UInt8) : List UInt8 :=
  [79, 80, 71, 49] ++ le 4 id ++ le 8 stamp ++ [UInt8.ofNat kind, 0] ++ le 2 body.length ++ body ++ List.replicate (1000 - body.length) 0
def encoded (id stamp kind : Nat) (body : List UInt8) : List UInt8 := sealed (plainPage id stamp kind body)
theorem plainPage_len {id stamp kind : Nat} {body : List UInt8} (h : body.length ≤ 1000) : (plainPage id stamp kind body).length = 1020 := by
  simp [plainPage]; omega
/-- the error of a page -/
def wrong (id kind : Int) (n : Nat) : Int := if id < 0 ∨ 2147483647 < id then 3 else if kind < 0 ∨ 255 < kind then 2 else if 1000 < n then 13 else 0

structure Dec where
  (id stamp kind : Nat) (body : List UInt8) (err : Int)
def pageOf (d : List UInt8) : Dec :=
  let n := num ((d.drop 18).take 2)
  let id := num ((d.drop 4).take 4)
  if d.take 4 = [79, 80, 71, 49] ∧ id ≤ 2147483647 ∧ d[17]? = some 0 ∧ n ≤ 1000 ∧ (d.drop (20 + n)).all (· == 0) = true then
    ⟨id, num ((d.drop 8).take 8), (d.getD 16 0).toNat, (d.drop 20).take n, 0⟩
  else ⟨0, 0, 0, [], 15⟩
def decoded (b : List UInt8) : Dec :=
  if b.length ≠ 1024 then ⟨0, 0, 0, [], 15⟩
  else if b.drop 1020 = sumBytes (Crc.crc (b.take 1020)) then pageOf (b.take 1020)
  else ⟨0, 0, 0, [], 29⟩

theorem cut_at {α : Type} (l : List α) (i m : Nat) : (l.drop i) = (l.drop i).take m ++ l.drop (i + m) := by
  rw [← List.drop_drop, List.take_append_drop]
theorem page_split (d : List UInt8) (n : Nat) (hd : d.length = 1020) (hn : n ≤ 1000) :
    d = d.take 4 ++ (d.drop 4).take 4 ++ (d.drop 8).take 8 ++ [d.getD 16 0, d.getD 17 0] ++ (d.drop 18).take 2 ++ (d.drop 20).take n ++ d.drop (20 + n) := by
  have h2 : [d.getD 16 0, d.getD 17 0] = (d.drop 16).take 2 := by
    apply List.ext_getElem?
    intro i
    match i with
    | 0 => simp [List.getD_eq_getElem?_getD, List.getElem?_take, List.getElem?_drop, hd]
    | 1 => simp [List.getD_eq_getElem?_getD, List.getElem?_take, List.getElem?_drop, hd]
    | i + 2 => rw [List.getElem?_eq_none (by simp), List.getElem?_eq_none (by simp; omega)]
  rw [h2]
  simp only [List.append_assoc]
  rw [← cut_at d 20 n, ← cut_at d 18 2, ← cut_at d 16 2, ← cut_at d 8 8, ← cut_at d 4 4, List.take_append_drop]
theorem take_in {α : Type} (l : List α) (i m k : Nat) (h : i + m ≤ k) : ((l.take k).drop i).take m = (l.drop i).take m := by
  rw [List.drop_take, List.take_take, Nat.min_eq_left (by omega)]
theorem plain_iff (d : List UInt8) (n : Nat) (hd : d.length = 1020) (hn : n ≤ 1000) (he : num ((d.drop 18).take 2) = n) :
    plainPage (num ((d.drop 4).take 4)) (num ((d.drop 8).take 8)) (d.getD 16 0).toNat ((d.drop 20).take n) = d ↔
      d.take 4 = [79, 80, 71, 49] ∧ d[17]? = some 0 ∧ (d.drop (20 + n)).all (· == 0) = true := by
  have l4 : ((d.drop 4).take 4).length = 4 := by simp [hd]
  have l8 : ((d.drop 8).take 8).length = 8 := by simp [hd]
  have l2 : ((d.drop 18).take 2).length = 2 := by simp [hd]
  have ln : ((d.drop 20).take n).length = n := by simp [hd]; omega
  have e4 := le_num ((d.drop 4).take 4)
  have e8 := le_num ((d.drop 8).take 8)
  have e2 := le_num ((d.drop 18).take 2)
  rw [l4] at e4; rw [l8] at e8; rw [l2, he] at e2
  have hk : UInt8.ofNat (d.getD 16 0).toNat = d.getD 16 0 := UInt8.ofNat_toNat
  unfold plainPage
  rw [ln, e4, e8, e2, hk]
  have hs := page_split d n hd hn
  have h17 : d[17]? = some (d.getD 17 0) := by simp [List.getD_eq_getElem?_getD, hd]
  have hz : (d.drop (20 + n)).all (· == 0) = true ↔ List.replicate (1000 - n) 0 = d.drop (20 + n) := by
    rw [List.all_eq_true]
    constructor
    · intro h
      symm
      rw [List.eq_replicate_iff]
      exact ⟨by simp [hd]; omega, fun b hb => by simpa using h b hb⟩
    · intro h b hb
      rw [← h] at hb
      simp [List.eq_of_mem_replicate hb]
  rw [h17, hz]
  constructor
  · intro h
    obtain ⟨h1, hz⟩ := List.append_inj' (h.trans hs) (by simp [hd]; omega)
    obtain ⟨h2, _⟩ := List.append_inj' h1 rfl
    obtain ⟨h3, _⟩ := List.append_inj' h2 rfl
    obtain ⟨h4, hk⟩ := List.append_inj' h3 rfl
    obtain ⟨h5, _⟩ := List.append_inj' h4 rfl
    obtain ⟨h6, _⟩ := List.append_inj' h5 rfl
    exact ⟨h6.symm, by rw [← (List.cons.inj (List.cons.inj hk).2).1], hz⟩
  · rintro ⟨h1, h2, h3⟩
    rw [h3]
    conv => rhs; rw [hs, h1]
    have : d.getD 17 0 = 0 := Option.some.inj h2
    rw [this]
end Go.Proofs.YtlokfndonjldpaaDoor
