/- A change within four consecutive bytes of a sealed text. No program in sight. -/
import Derived.Test.YtjaoipdmchofoaaDoorRefEnc
set_option linter.unusedSimpArgs false
set_option linter.unusedVariables false
namespace Go.Proofs.YtjaoipdmchofoaaDoor

def xorAt (c : List UInt8) (p : Nat) (x : List UInt8) : List UInt8 := Crc.xorL c (Crc.zeros p ++ x ++ Crc.zeros (c.length - p - x.length))
theorem z_at (p q : Nat) (xs : List UInt8) (j : Nat) (hj : j < p + xs.length + q) : (Crc.zeros p ++ xs ++ Crc.zeros q)[j]? = some (if p ≤ j then xs.getD (j - p) 0 else 0) := by
  have hp : (Crc.zeros p).length = p := by simp [Crc.zeros]
  by_cases h1 : j < p
  · rw [List.append_assoc, List.getElem?_append_left (by omega), if_neg (by omega)]
    simp [Crc.zeros, h1]
  · rw [if_pos (by omega), List.append_assoc, List.getElem?_append_right (by omega), hp]
    by_cases h2 : j - p < xs.length
    · rw [List.getElem?_append_left h2, List.getElem?_eq_getElem h2]
      simp [List.getD_eq_getElem?_getD, h2]
    · rw [List.getElem?_append_right (by omega)]
      have : xs.getD (j - p) 0 = 0 := by rw [List.getD_eq_getElem?_getD, List.getElem?_eq_none (by omega)]; rfl
      rw [this]
      unfold Crc.zeros
      rw [List.getElem?_replicate, if_pos (by omega)]
theorem xorAt_at (c : List UInt8) (p : Nat) (xs : List UInt8) (h : p + xs.length ≤ c.length) (j : Nat) :
    (xorAt c p xs)[j]? = (c[j]?).map (fun b => b ^^^ (if p ≤ j then xs.getD (j - p) 0 else 0)) := by
  unfold xorAt Crc.xorL
  rw [List.getElem?_zipWith]
  by_cases hj : j < c.length
  · rw [z_at _ _ _ _ (by omega), List.getElem?_eq_getElem hj]
    rfl
  · rw [List.getElem?_eq_none (l := c) (by omega)]
    rfl
theorem xorAt_len (c : List UInt8) (p : Nat) (xs : List UInt8) (h : p + xs.length ≤ c.length) : (xorAt c p xs).length = c.length := by
  unfold xorAt
  rw [Crc.xorL_length _ _ (by simp [Crc.zeros]; omega)]
theorem xorAt_nil (c : List UInt8) (p : Nat) (h : p ≤ c.length) : xorAt c p [] = c := by
  apply List.ext_getElem?
  intro j
  rw [xorAt_at _ _ _ (by simpa using h)]
  cases c[j]? <;> simp
theorem xorAt_zero (c : List UInt8) (p n : Nat) (h : p + n ≤ c.length) : xorAt c p (Crc.zeros n) = c := by
  apply List.ext_getElem?
  intro j
  rw [xorAt_at _ _ _ (by simpa [Crc.zeros] using h)]
  have : ∀ i, (Crc.zeros n).getD i 0 = 0 := fun i => by
    unfold Crc.zeros
    rw [List.getD_eq_getElem?_getD, List.getElem?_replicate]
    split <;> rfl
  rw [this]
  cases c[j]? <;> simp
theorem xorAt_next (c : List UInt8) (p k : Nat) (x : List UInt8) (h : p + x.length ≤ c.length) (u b : UInt8) (hu : x[k]? = some u) (hb : (xorAt c p (x.take k))[p + k]? = some b) :
    xorAt c p (x.take (k + 1)) = (xorAt c p (x.take k)).set (p + k) (b ^^^ u) := by
  have hk : k < x.length := (List.getElem?_eq_some_iff.1 hu).1
  have l1 : (x.take k).length = k := by simp; omega
  have l2 : (x.take (k + 1)).length = k + 1 := by simp; omega
  have hpk : p + k < c.length := by omega
  apply List.ext_getElem?
  intro j
  rw [List.getElem?_set]
  rw [xorAt_len _ _ _ (by omega)]
  by_cases hj : p + k = j
  · subst hj
    rw [if_pos rfl, if_pos hpk]
    rw [xorAt_at _ _ _ (by omega)] at hb ⊢
    rw [List.getElem?_eq_getElem hpk] at hb ⊢
    simp only [Option.map_some, Option.some.injEq] at hb ⊢
    rw [if_pos (by omega), Nat.add_sub_cancel_left] at hb ⊢
    have e1 : (x.take k).getD k 0 = 0 := by rw [List.getD_eq_getElem?_getD, List.getElem?_eq_none (by omega)]; rfl
    have e2 : (x.take (k + 1)).getD k 0 = u := by rw [List.getD_eq_getElem?_getD, List.getElem?_take, if_pos (by omega), hu]; rfl
    rw [e1] at hb
    rw [e2, ← hb]
    simp
  · rw [if_neg hj, xorAt_at _ _ _ (by omega), xorAt_at _ _ _ (by omega)]
    congr 1
    funext b
    congr 1
    split
    · rw [List.getD_eq_getElem?_getD, List.getD_eq_getElem?_getD, List.getElem?_take, List.getElem?_take]
      by_cases h2 : j - p < k
      · rw [if_pos (by omega), if_pos (by omega)]
      · rw [if_neg (by omega), if_neg (by omega)]
    · rfl
theorem bytes4 (x : List UInt8) (h : x.length = 4) : ∃ s, sumBytes s = x ∧ (x ≠ Crc.zeros 4 → s ≠ 0#32) := by
  refine ⟨BitVec.ofNat 32 (num x), ?_, ?_⟩
  · have hx := num_lt x
    rw [h] at hx
    rw [sumBytes_le, BitVec.toNat_ofNat, Nat.mod_eq_of_lt (by omega), ← h, le_num]
  · intro hne h0
    apply hne
    have hx := num_lt x
    rw [h] at hx
    have : num x = 0 := by
      have := congrArg BitVec.toNat h0
      rw [BitVec.toNat_ofNat, Nat.mod_eq_of_lt (by omega)] at this
      exact this
    have e := le_num x
    rw [h, this] at e
    rw [← e]
    rfl
theorem run_xorAt (c : List UInt8) (p : Nat) (s : BitVec 32) (h : p + 4 ≤ c.length) (r : BitVec 32) :
    Crc.run r (xorAt c p (sumBytes s)) = Crc.run r c ^^^ Crc.shN (8 * (c.length - p)) s := by
  unfold xorAt
  have e := Crc.run_xor c (Crc.zeros p ++ sumBytes s ++ Crc.zeros (c.length - p - (sumBytes s).length)) r 0#32 (by simp [Crc.zeros, sumBytes_len]; omega)
  rw [BitVec.xor_zero] at e
  rw [e]
  congr 1
  have h4 := run_sum 0#32 s 4 (by omega)
  rw [List.take_of_length_le (by rw [sumBytes_len]; omega)] at h4
  have e1 : s >>> (8 * 4) = 0#32 := by
    apply BitVec.eq_of_getLsbD_eq; intro i hi
    rw [BitVec.getLsbD_ushiftRight, BitVec.getLsbD_of_ge _ _ (by omega)]; simp
  rw [Crc.run_append, Crc.run_append, Crc.run_zeros p, Crc.shN_zero, h4, e1, Crc.run_zeros, sumBytes_len, BitVec.xor_zero, BitVec.zero_xor, ← Crc.shN_add]
  congr 1
  omega
/-- the change is detected -/
theorem four_bad (d x : List UInt8) (p : Nat) (hd : d.length = 1020) (hp : p ≤ 1020) (hx : x.length = 4) (hne : x ≠ Crc.zeros 4) :
    (xorAt (sealed d) p x).drop 1020 ≠ sumBytes (Crc.crc ((xorAt (sealed d) p x).take 1020)) := by
  obtain ⟨s, rfl, hs⟩ := bytes4 x hx
  have hl : (sealed d).length = 1024 := by rw [sealed_len, hd]
  exact burst_bad d _ 1020 _ s (hs hne) (by rw [xorAt_len _ _ _ (by rw [sumBytes_len, hl]; omega), hl]) (run_xorAt _ _ _ (by rw [hl]; omega) _)
end Go.Proofs.YtjaoipdmchofoaaDoor
