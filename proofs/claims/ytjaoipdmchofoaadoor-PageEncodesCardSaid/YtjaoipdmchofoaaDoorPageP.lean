/- The numbers and pages of layer 11 as plain lists of bytes. No program in sight. -/
import Derived.Test.YtjaoipdmchofoaaDoorCrc
set_option linter.unusedSimpArgs false
set_option linter.unusedVariables false
namespace Go.Proofs.YtjaoipdmchofoaaDoor

/-- n bytes of v, least first -/
def le : Nat → Nat → List UInt8
  | 0, _ => []
  | n + 1, v => UInt8.ofNat v :: le n (v / 256)
/-- the number whose bytes these are -/
def num : List UInt8 → Nat
  | [] => 0
  | b :: l => b.toNat + 256 * num l

@[simp] theorem le_len : ∀ n v, (le n v).length = n
  | 0, _ => rfl
  | n + 1, v => by simp [le, le_len n]
theorem le_at : ∀ n v i, i < n → (le n v)[i]? = some (UInt8.ofNat (v / 256 ^ i))
  | 0, _, _, h => absurd h (Nat.not_lt_zero _)
  | n + 1, v, 0, _ => by simp [le]
  | n + 1, v, i + 1, h => by
    simp only [le, List.getElem?_cons_succ]
    rw [le_at n _ i (by omega), Nat.div_div_eq_div_mul, Nat.pow_succ, Nat.mul_comm 256]
theorem le_snoc : ∀ n v, le (n + 1) v = le n v ++ [UInt8.ofNat (v / 256 ^ n)]
  | 0, v => by simp [le]
  | n + 1, v => by
    rw [le, le_snoc n, le, List.cons_append, Nat.div_div_eq_div_mul, Nat.pow_succ, Nat.mul_comm 256]
theorem le_take : ∀ k n v, k ≤ n → (le n v).take k = le k v
  | 0, _, _, _ => by simp [le]
  | k + 1, 0, _, h => absurd h (by omega)
  | k + 1, n + 1, v, h => by simp [le, le_take k n _ (by omega)]
theorem num_lt : ∀ l : List UInt8, num l < 256 ^ l.length
  | [] => by simp [num]
  | b :: l => by
    have := num_lt l
    have hb := b.toNat_lt
    simp only [num, List.length_cons, Nat.pow_succ]
    omega
theorem num_le : ∀ n v, v < 256 ^ n → num (le n v) = v
  | 0, v, h => by simp at h; simp [le, num, h]
  | n + 1, v, h => by
    rw [le, num, num_le n _ (by rw [Nat.pow_succ] at h; omega)]
    simp
    omega
theorem le_num : ∀ l : List UInt8, le l.length (num l) = l
  | [] => rfl
  | b :: l => by
    have hb := b.toNat_lt
    simp only [List.length_cons, le, num]
    rw [show (b.toNat + 256 * num l) / 256 = num l by omega, le_num l]
    congr 1
    apply UInt8.toNat_inj.1
    simp
theorem le_inj {n a b : Nat} (ha : a < 256 ^ n) (hb : b < 256 ^ n) (h : le n a = le n b) : a = b := by
  rw [← num_le n a ha, ← num_le n b hb, h]
theorem num_snoc (l : List UInt8) (b : UInt8) : num (l ++ [b]) = num l + 256 ^ l.length * b.toNat := by
  induction l with
  | nil => simp [num]
  | cons a l ih => simp only [List.cons_append, num, ih, List.length_cons, Nat.pow_succ, Nat.mul_add]; rw [← Nat.mul_assoc, Nat.mul_comm 256 (256 ^ l.length)]; omega

/-- the 1020 bytes ahead of the checksum -/
def plainPage (id stamp kind : Nat) (body : List UInt8) : List UInt8 :=
  [79, 80, 71, 49] ++ le 4 id ++ le 8 stamp ++ [UInt8.ofNat kind, 0] ++ le 2 body.length ++ body ++ List.replicate (1000 - body.length) 0
def encoded (id stamp kind : Nat) (body : List UInt8) : List UInt8 := sealed (plainPage id stamp kind body)
theorem plainPage_len {id stamp kind : Nat} {body : List UInt8} (h : body.length ≤ 1000) : (plainPage id stamp kind body).length = 1020 := by
  simp [plainPage]; omega
/-- the error of a page -/
def wrong (id kind : Int) (n : Nat) : Int := if id < 0 ∨ 2147483647 < id then 3 else if kind < 0 ∨ 255 < kind then 2 else if 1000 < n then 13 else 0

structure Dec where
  (id stamp kind : Nat) (body : List UInt8) (err : Int)
def pageOf (d : List UInt8) : Dec :=
  let n := num ((d.drop 18).take 2)
  let id := num ((d.drop 4).take 4)
  if d.take 4 = [79, 80, 71, 49] ∧ id ≤ 2147483647 ∧ d[17]? = some 0 ∧ n ≤ 1000 ∧ (d.drop (20 + n)).all (· == 0) = true then
    ⟨id, num ((d.drop 8).take 8), (d.getD 16 0).toNat, (d.drop 20).take n, 0⟩
  else ⟨0, 0, 0, [], 15⟩
def decoded (b : List UInt8) : Dec :=
  if b.length ≠ 1024 then ⟨0, 0, 0, [], 15⟩
  else if b.drop 1020 = sumBytes (Crc.crc (b.take 1020)) then pageOf (b.take 1020)
  else ⟨0, 0, 0, [], 29⟩
end Go.Proofs.YtjaoipdmchofoaaDoor
