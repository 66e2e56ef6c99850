/- Plain facts on the checksum's register: a shift register over 32 bits, no program in sight. Conditions: none. -/
set_option linter.unusedSimpArgs false
set_option linter.unusedVariables false
namespace Go.Proofs.YtlokfndonjldpaaDoor.Crc

def poly : BitVec 32 := 0x82f63b78#32
def sh (r : BitVec 32) : BitVec 32 := if r.getLsbD 0 then (r >>> 1) ^^^ poly else r >>> 1
def shN : Nat → BitVec 32 → BitVec 32
  | 0, r => r
  | n + 1, r => shN n (sh r)
def wide (b : UInt8) : BitVec 32 := b.toBitVec.setWidth 32
def stepB (r : BitVec 32) (b : UInt8) : BitVec 32 := shN 8 (r ^^^ wide b)
def run (r : BitVec 32) (l : List UInt8) : BitVec 32 := l.foldl stepB r
def upd (s : BitVec 32) (l : List UInt8) : BitVec 32 := ~~~ run (~~~ s) l
def crc (l : List UInt8) : BitVec 32 := upd 0#32 l

theorem run_nil (r : BitVec 32) : run r [] = r := rfl
theorem run_cons (r : BitVec 32) (b : UInt8) (l : List UInt8) : run r (b :: l) = run (stepB r b) l := rfl
theorem run_append (r : BitVec 32) (l m : List UInt8) : run r (l ++ m) = run (run r l) m := by simp [run, List.foldl_append]
theorem run_snoc (r : BitVec 32) (l : List UInt8) (b : UInt8) : run r (l ++ [b]) = stepB (run r l) b := by simp [run]

theorem upd_append (s : BitVec 32) (l m : List UInt8) : upd s (l ++ m) = upd (upd s l) m := by
  simp [upd, run_append]
theorem upd_nil (s : BitVec 32) : upd s [] = s := by simp [upd, run_nil]
theorem crc_nil : crc [] = 0#32 := upd_nil _

/-! the shift is linear -/
theorem bit_xor (a b : BitVec 32) (i : Nat) : (a ^^^ b).getLsbD i = (a.getLsbD i != b.getLsbD i) := by simp
theorem sh_xor (a b : BitVec 32) : sh (a ^^^ b) = sh a ^^^ sh b := by
  unfold sh
  rw [bit_xor]
  rw [show (a ^^^ b) >>> 1 = (a >>> 1) ^^^ (b >>> 1) from by
    apply BitVec.eq_of_getLsbD_eq; intro i hi; simp]
  generalize a >>> 1 = x
  generalize b >>> 1 = y
  cases a.getLsbD 0 <;> cases b.getLsbD 0
  · simp
  · simp [BitVec.xor_assoc]
  · simp
    ac_rfl
  · simp only [bne_self_eq_false, Bool.false_eq_true, if_false, if_true]
    rw [show x ^^^ poly ^^^ (y ^^^ poly) = x ^^^ y ^^^ (poly ^^^ poly) from by ac_rfl]
    simp
theorem shN_xor (n : Nat) : ∀ a b : BitVec 32, shN n (a ^^^ b) = shN n a ^^^ shN n b := by
  induction n with
  | zero => intro a b; rfl
  | succ n ih => intro a b; simp only [shN]; rw [sh_xor, ih]
theorem shN_add (m n : Nat) : ∀ r, shN (m + n) r = shN n (shN m r) := by
  induction m with
  | zero => intro r; simp [shN]
  | succ m ih => intro r; rw [show m + 1 + n = (m + n) + 1 from by omega]; simp only [shN]; exact ih _
theorem shN_zero (n : Nat) : shN n 0#32 = 0#32 := by
  induction n with
  | zero => rfl
  | succ n ih => simp only [shN]; rw [show sh 0#32 = 0#32 from by decide]; exact ih

/-! four shifts by the table -/
def tab : List (BitVec 32) := [0x00000000#32, 0x105ec76f#32, 0x20bd8ede#32, 0x30e349b1#32, 0x417b1dbc#32, 0x5125dad3#32, 0x61c69362#32, 0x7198540d#32, 0x82f63b78#32, 0x92a8fc17#32, 0xa24bb5a6#32, 0xb21572c9#32, 0xc38d26c4#32, 0xd3d3e1ab#32, 0xe330a81a#32, 0xf36e6f75#32]
def tabAt (i : BitVec 32) : BitVec 32 := tab.getD i.toNat 0#32

theorem sh_even (r : BitVec 32) (h : r.getLsbD 0 = false) : sh r = r >>> 1 := by unfold sh; rw [h]; rfl
theorem four (r : BitVec 32) (h : ∀ i, i < 4 → r.getLsbD i = false) : shN 4 r = r >>> 4 := by
  have h0 := h 0 (by omega)
  have h1 := h 1 (by omega)
  have h2 := h 2 (by omega)
  have h3 := h 3 (by omega)
  simp only [shN]
  rw [sh_even r h0]
  rw [sh_even (r >>> 1) (by simpa using h1)]
  rw [sh_even (r >>> 1 >>> 1) (by simpa using h2)]
  rw [sh_even (r >>> 1 >>> 1 >>> 1) (by simpa using h3)]
  apply BitVec.eq_of_getLsbD_eq; intro i hi
  simp only [BitVec.getLsbD_ushiftRight]
  congr 1; omega
theorem low_tab : ∀ n : Fin 16, shN 4 (BitVec.ofNat 32 n.1) = tabAt (BitVec.ofNat 32 n.1) := by decide +kernel
theorem mask15 (i : Nat) : (15#32).getLsbD i = decide (i < 4) := by
  by_cases h : i < 32
  · have : ∀ j : Fin 32, (15#32).getLsbD j.1 = decide (j.1 < 4) := by decide
    exact this ⟨i, h⟩
  · rw [BitVec.getLsbD_of_ge _ _ (by omega)]; simp; omega
theorem nibble (r : BitVec 32) : (r >>> 4) ^^^ tabAt (r &&& 15#32) = shN 4 r := by
  have hs : r = (r &&& ~~~15#32) ^^^ (r &&& 15#32) := by
    apply BitVec.eq_of_getLsbD_eq; intro i hi
    simp only [BitVec.getLsbD_xor, BitVec.getLsbD_and, BitVec.getLsbD_not, hi, decide_true, Bool.true_and]
    cases r.getLsbD i <;> cases (15#32).getLsbD i <;> rfl
  have e : shN 4 r = shN 4 (r &&& ~~~15#32) ^^^ shN 4 (r &&& 15#32) := by
    have := shN_xor 4 (r &&& ~~~15#32) (r &&& 15#32); rw [← hs] at this; exact this
  rw [e, four]
  · have hlt : (r &&& 15#32).toNat < 16 := by
      rw [BitVec.toNat_and]
      exact Nat.lt_of_le_of_lt Nat.and_le_right (by decide)
    have := low_tab ⟨(r &&& 15#32).toNat, hlt⟩
    simp only [BitVec.ofNat_toNat, BitVec.setWidth_eq] at this
    rw [this]
    congr 1
    apply BitVec.eq_of_getLsbD_eq; intro i hi
    simp only [BitVec.getLsbD_ushiftRight, BitVec.getLsbD_and, BitVec.getLsbD_not, mask15]
    by_cases h : 4 + i < 32
    · simp [h]
    · rw [BitVec.getLsbD_of_ge r _ (by omega)]; simp
  · intro i hi
    simp only [BitVec.getLsbD_and, BitVec.getLsbD_not, mask15]
    simp [hi]
/-- one byte by two looks into the table -/
theorem byte_tab (r : BitVec 32) (b : UInt8) :
    let x := r ^^^ wide b
    let y := (x >>> 4) ^^^ tabAt (x &&& 15#32)
    (y >>> 4) ^^^ tabAt (y &&& 15#32) = stepB r b := by
  intro x y
  show (y >>> 4) ^^^ tabAt (y &&& 15#32) = shN 8 x
  rw [nibble, show y = shN 4 x from nibble x, ← shN_add]

/-! the register's linear part -/
def xorL : List UInt8 → List UInt8 → List UInt8 := List.zipWith (· ^^^ ·)
theorem wide_xor (a b : UInt8) : wide (a ^^^ b) = wide a ^^^ wide b := by
  simp [wide]
theorem stepB_xor (r s : BitVec 32) (a b : UInt8) : stepB (r ^^^ s) (a ^^^ b) = stepB r a ^^^ stepB s b := by
  unfold stepB
  rw [wide_xor, ← shN_xor]
  congr 1
  ac_rfl
theorem run_xor : ∀ (l m : List UInt8) (r s : BitVec 32), l.length = m.length → run (r ^^^ s) (xorL l m) = run r l ^^^ run s m
  | [], [], r, s, _ => rfl
  | a :: l, b :: m, r, s, h => by
    show run (stepB (r ^^^ s) (a ^^^ b)) (xorL l m) = _
    rw [stepB_xor, run_xor l m _ _ (by simpa using h)]
    rfl
theorem xorL_length (l m : List UInt8) (h : l.length = m.length) : (xorL l m).length = l.length := by simp [xorL, h]
def zeros (n : Nat) : List UInt8 := List.replicate n 0
theorem xorL_zeros : ∀ (l : List UInt8), xorL l (zeros l.length) = l
  | [] => rfl
  | a :: l => by
    show (a ^^^ 0) :: xorL l (zeros l.length) = a :: l
    rw [xorL_zeros l]; simp

theorem not_eq (x : BitVec 32) : ~~~ x = x ^^^ 0xffffffff#32 := by
  rw [show (0xffffffff#32 : BitVec 32) = BitVec.allOnes 32 from by decide, BitVec.xor_allOnes]
/-- three registers, three texts -/
theorem run_mix (a b c : List UInt8) (r s t : BitVec 32) (h1 : a.length = b.length) (h2 : a.length = c.length) :
    run (r ^^^ s ^^^ t) (xorL (xorL a b) c) = run r a ^^^ run s b ^^^ run t c := by
  rw [run_xor _ _ _ _ (by rw [xorL_length _ _ h1]; exact h2), run_xor _ _ _ _ h1]
theorem upd_mix (a b c : List UInt8) (r s t : BitVec 32) (h1 : a.length = b.length) (h2 : a.length = c.length) :
    upd (r ^^^ s ^^^ t) (xorL (xorL a b) c) = upd r a ^^^ upd s b ^^^ upd t c := by
  have three : ∀ x y z : BitVec 32, ~~~ (x ^^^ y ^^^ z) = ~~~ x ^^^ ~~~ y ^^^ ~~~ z := by
    intro x y z
    simp only [not_eq]
    generalize (0xffffffff#32 : BitVec 32) = f
    rw [show x ^^^ f ^^^ (y ^^^ f) ^^^ (z ^^^ f) = (x ^^^ y ^^^ z ^^^ f) ^^^ (f ^^^ f) from by ac_rfl]
    simp
  unfold upd
  rw [three, run_mix _ _ _ _ _ _ h1 h2, three]
theorem crc_mix (a b c : List UInt8) (h1 : a.length = b.length) (h2 : a.length = c.length) :
    crc (xorL (xorL a b) c) = crc a ^^^ crc b ^^^ crc c := by
  have := upd_mix a b c 0#32 0#32 0#32 h1 h2
  simpa [crc] using this
theorem xorL_self : ∀ (l : List UInt8), xorL (xorL l l) l = l
  | [] => rfl
  | a :: l => by
    show (a ^^^ a ^^^ a) :: xorL (xorL l l) l = a :: l
    rw [xorL_self l]; simp
theorem upd_affine (l : List UInt8) (r s t : BitVec 32) : upd (r ^^^ s ^^^ t) l = upd r l ^^^ upd s l ^^^ upd t l := by
  have := upd_mix l l l r s t rfl rfl
  rw [xorL_self] at this
  exact this

/-! changes of single bits -/
theorem eight (r : BitVec 32) (h : ∀ i, i < 8 → r.getLsbD i = false) : shN 8 r = r >>> 8 := by
  rw [show (8 : Nat) = 4 + 4 from rfl, shN_add, four r (fun i hi => h i (by omega)), four (r >>> 4) (fun i hi => by simpa using h (4 + i) (by omega))]
  apply BitVec.eq_of_getLsbD_eq; intro i hi
  simp only [BitVec.getLsbD_ushiftRight]
  congr 1; omega
theorem run_zeros (n : Nat) : ∀ r, run r (zeros n) = shN (8 * n) r := by
  induction n with
  | zero => intro r; rfl
  | succ n ih =>
    intro r
    show run (stepB r 0) (zeros n) = _
    rw [ih, show 8 * (n + 1) = 8 + 8 * n from by omega, shN_add]
    congr 1
    unfold stepB
    rw [show wide 0 = 0#32 from rfl]; simp
theorem run_xor_left (q : List UInt8) (x y : BitVec 32) : run (x ^^^ y) q = run x q ^^^ shN (8 * q.length) y := by
  have := run_xor q (zeros q.length) x y (by simp [zeros])
  rw [xorL_zeros, run_zeros] at this
  exact this
theorem sh_shift (x : BitVec 32) (h : x.getLsbD 31 = false) : sh (x <<< 1) = x := by
  rw [sh_even _ (by simp)]
  apply BitVec.eq_of_getLsbD_eq; intro i hi
  rw [BitVec.getLsbD_ushiftRight, BitVec.getLsbD_shiftLeft]
  by_cases h31 : i = 31
  · subst h31; simp; simpa using h
  · have : 1 + i < 32 := by omega
    have h0 : ¬ 1 + i < 1 := by omega
    simp [this]
theorem one_bit (t i : Nat) (ht : t < 32) : (1#32 <<< t).getLsbD i = decide (i = t) := by
  rw [BitVec.getLsbD_shiftLeft]
  by_cases hi : i < 32
  · by_cases hlt : i < t
    · simp [hlt]; omega
    · by_cases he : i = t
      · subst he; simp [hi]
      · have hj : ∀ j : Fin 32, 0 < j.1 → (1#32).getLsbD j.1 = false := by decide
        have hf : (1#32).getLsbD (i - t) = false := hj ⟨i - t, by omega⟩ (by show 0 < i - t; omega)
        rw [hf]; simp [he]
  · have : ¬ i = t := by omega
    simp [hi, this]
theorem shN_one (t : Nat) (ht : t < 32) : shN t (1#32 <<< t) = 1#32 := by
  induction t with
  | zero => rfl
  | succ t ih =>
    show shN t (sh (1#32 <<< (t + 1))) = 1#32
    rw [show (1#32 <<< (t + 1) : BitVec 32) = (1#32 <<< t) <<< 1 from by rw [BitVec.shiftLeft_add]]
    rw [sh_shift _ (by rw [one_bit _ _ (by omega)]; simp; omega)]
    exact ih (by omega)
theorem sh_zero (a : BitVec 32) (h : sh a = 0#32) : a = 0#32 := by
  unfold sh at h
  cases hb : a.getLsbD 0
  · rw [hb] at h
    have h' : a >>> 1 = 0#32 := h
    apply BitVec.eq_of_getLsbD_eq; intro i hi
    rcases Nat.eq_zero_or_pos i with rfl | hp
    · simpa using hb
    · have := congrArg (fun x : BitVec 32 => x.getLsbD (i - 1)) h'
      simp only [BitVec.getLsbD_ushiftRight] at this
      rw [show 1 + (i - 1) = i from by omega] at this
      simpa using this
  · rw [hb] at h
    have h' : a >>> 1 ^^^ poly = 0#32 := h
    have := congrArg (fun x : BitVec 32 => x.getLsbD 31) h'
    simp only [BitVec.getLsbD_xor, BitVec.getLsbD_ushiftRight] at this
    rw [BitVec.getLsbD_of_ge a _ (by omega)] at this
    exact absurd this (by decide)
theorem shN_zero_of (n : Nat) : ∀ a, shN n a = 0#32 → a = 0#32 := by
  induction n with
  | zero => intro a h; exact h
  | succ n ih => intro a h; exact sh_zero a (ih _ h)

/-- bit j of a text turned -/
def flip (c : List UInt8) (j : Nat) : List UInt8 := c.modify (j / 8) (· ^^^ (⟨1#8 <<< (j % 8)⟩ : UInt8))
theorem wide_bit (t : Nat) (ht : t < 8) : wide ⟨1#8 <<< t⟩ = 1#32 <<< t := by
  have h : ∀ j : Fin 8, wide ⟨1#8 <<< j.1⟩ = 1#32 <<< j.1 := by decide
  exact h ⟨t, ht⟩
theorem flip_set (c : List UInt8) (j : Nat) (h : j / 8 < c.length) : flip c j = c.set (j / 8) (c[j / 8] ^^^ (⟨1#8 <<< (j % 8)⟩ : UInt8)) := by
  unfold flip
  apply List.ext_getElem?
  intro i
  rw [List.getElem?_modify, List.getElem?_set]
  by_cases he : j / 8 = i
  · subst he; simp [h]
  · simp [he]
theorem flip_length (c : List UInt8) (j : Nat) : (flip c j).length = c.length := by simp [flip]
theorem run_flip (c : List UInt8) (j : Nat) (hj : j < 8 * c.length) (r : BitVec 32) : run r (flip c j) = run r c ^^^ shN (8 * c.length - j) 1#32 := by
  have hq : j / 8 < c.length := by omega
  have hc : c = c.take (j / 8) ++ c[j / 8] :: c.drop (j / 8 + 1) := by
    rw [← List.drop_eq_getElem_cons hq, List.take_append_drop]
  have hf : flip c j = c.take (j / 8) ++ (c[j / 8] ^^^ ⟨1#8 <<< (j % 8)⟩) :: c.drop (j / 8 + 1) := by
    unfold flip
    rw [List.modify_eq_take_cons_drop hq]
  have hl : (c.drop (j / 8 + 1)).length = c.length - (j / 8 + 1) := by simp
  generalize hg : c[j / 8] = b at *
  generalize hP : c.take (j / 8) = P at *
  generalize hQ : c.drop (j / 8 + 1) = Q at *
  rw [hf]
  conv => rhs; rw [hc]
  rw [run_append, run_append, run_cons, run_cons]
  have hs : stepB (run r P) (b ^^^ ⟨1#8 <<< (j % 8)⟩) = stepB (run r P) b ^^^ shN 8 (1#32 <<< (j % 8)) := by
    unfold stepB
    rw [← shN_xor, wide_xor, wide_bit _ (by omega)]
    congr 1; ac_rfl
  rw [hs, run_xor_left, ← shN_add]
  congr 1
  have e : 8 + 8 * Q.length = j % 8 + (8 * c.length - j) := by
    rw [hl]; omega
  rw [e, shN_add, shN_one _ (by omega)]
  rw [← hc]

/-- the low k bits -/
def lowBits (x : BitVec 32) (k : Nat) : BitVec 32 := BitVec.ofNat 32 (x.toNat % 2 ^ k)
theorem lowBits_at (x : BitVec 32) (k i : Nat) : (lowBits x k).getLsbD i = (decide (i < k) && x.getLsbD i) := by
  unfold lowBits
  rw [BitVec.getLsbD_ofNat, Nat.testBit_mod_two_pow]
  by_cases h : i < 32
  · simp [h, BitVec.getLsbD]
  · rw [BitVec.getLsbD_of_ge x i (by omega)]; simp [h]
theorem lowBits_zero (x : BitVec 32) : lowBits x 0 = 0#32 := by
  apply BitVec.eq_of_getLsbD_eq; intro i hi; rw [lowBits_at]; simp
theorem lowBits_all (x : BitVec 32) : lowBits x 32 = x := by
  apply BitVec.eq_of_getLsbD_eq; intro i hi; rw [lowBits_at]; simp [hi]
theorem lowBits_no (x : BitVec 32) (k : Nat) (h : x.getLsbD k = false) : lowBits x (k + 1) = lowBits x k := by
  apply BitVec.eq_of_getLsbD_eq; intro i hi; rw [lowBits_at, lowBits_at]
  by_cases he : i = k
  · subst he; simp [h]
  · have : (i < k + 1) = (i < k) := by apply propext; omega
    simp [this]
theorem lowBits_yes (x : BitVec 32) (k : Nat) (hk : k < 32) (h : x.getLsbD k = true) : lowBits x (k + 1) = lowBits x k ^^^ (1#32 <<< k) := by
  apply BitVec.eq_of_getLsbD_eq; intro i hi; rw [BitVec.getLsbD_xor, lowBits_at, lowBits_at, one_bit _ _ hk]
  by_cases he : i = k
  · subst he; simp [h]
  · have : (i < k + 1) = (i < k) := by apply propext; omega
    simp [this, he]

/-- one more bit of a burst -/
theorem run_burst (c : List UInt8) (r : BitVec 32) (x : BitVec 32) (from_ k : Nat) (hk : k < 32) (hf : from_ + 32 ≤ 8 * c.length) (h : x.getLsbD k = true) :
    run r (flip c (from_ + k)) = run r c ^^^ shN (8 * c.length - from_) (1#32 <<< k) := by
  rw [run_flip c _ (by omega)]
  congr 1
  have e : 8 * c.length - from_ = k + (8 * c.length - (from_ + k)) := by omega
  rw [e, shN_add, shN_one _ hk]
end Go.Proofs.YtlokfndonjldpaaDoor.Crc

namespace Go.Proofs.YtlokfndonjldpaaDoor
/-- byte k of a checksum -/
def byteAt (s : BitVec 32) (k : Nat) : UInt8 := ⟨(s >>> (8 * k)).setWidth 8⟩
def sumBytes (s : BitVec 32) : List UInt8 := [byteAt s 0, byteAt s 1, byteAt s 2, byteAt s 3]
/-- the bytes with their checksum -/
def sealed (l : List UInt8) : List UInt8 := l ++ sumBytes (Crc.crc l)
theorem sumBytes_at (s : BitVec 32) (k : Nat) (hk : k < 4) : (sumBytes s)[k]? = some (byteAt s k) := by
  match k, hk with
  | 0, _ => rfl
  | 1, _ => rfl
  | 2, _ => rfl
  | 3, _ => rfl
theorem sumBytes_len (s : BitVec 32) : (sumBytes s).length = 4 := rfl
theorem sealed_len (l : List UInt8) : (sealed l).length = l.length + 4 := by simp [sealed, sumBytes_len]


theorem wide_byteAt (s : BitVec 32) (k : Nat) : Crc.wide (byteAt s k) = (s >>> (8 * k)) &&& 255#32 := by
  apply BitVec.eq_of_getLsbD_eq; intro i hi
  have h255 : ∀ j : Fin 32, (255#32).getLsbD j.1 = decide (j.1 < 8) := by decide
  rw [BitVec.getLsbD_and, h255 ⟨i, hi⟩]
  unfold Crc.wide byteAt
  rw [BitVec.getLsbD_setWidth, BitVec.getLsbD_setWidth]
  by_cases h8 : i < 8 <;> simp [h8, hi]
theorem run_sum (R s : BitVec 32) (k : Nat) (hk : k ≤ 4) : Crc.run R ((sumBytes s).take k) = Crc.shN (8 * k) (R ^^^ s) ^^^ (s >>> (8 * k)) := by
  induction k with
  | zero =>
    show R = R ^^^ s ^^^ (s >>> 0)
    rw [show s >>> 0 = s from by simp, BitVec.xor_assoc]; simp
  | succ k ih =>
    rw [List.take_add_one, sumBytes_at s k (by omega)]
    show Crc.run R ((sumBytes s).take k ++ [byteAt s k]) = _
    rw [Crc.run_snoc, ih (by omega)]
    unfold Crc.stepB
    rw [wide_byteAt, BitVec.xor_assoc, Crc.shN_xor, ← Crc.shN_add, show 8 * k + 8 = 8 * (k + 1) from by omega]
    congr 1
    rw [Crc.eight]
    · apply BitVec.eq_of_getLsbD_eq; intro i hi
      have h255 : ∀ j : Fin 40, (255#32).getLsbD (8 + j.1) = false := by decide
      rw [BitVec.getLsbD_ushiftRight, BitVec.getLsbD_xor, BitVec.getLsbD_and, h255 ⟨i, by omega⟩]
      simp only [BitVec.getLsbD_ushiftRight, Bool.and_false, Bool.bne_false]
      congr 1; omega
    · intro i hi
      have h255 : ∀ j : Fin 8, (255#32).getLsbD j.1 = true := by decide
      rw [BitVec.getLsbD_xor, BitVec.getLsbD_and, h255 ⟨i, hi⟩]; simp
theorem run_sealed (l : List UInt8) : Crc.run 0xffffffff#32 (sealed l) = Crc.shN 32 0xffffffff#32 := by
  unfold sealed
  rw [Crc.run_append]
  have h := run_sum (Crc.run 0xffffffff#32 l) (Crc.crc l) 4 (by omega)
  rw [List.take_of_length_le (by rw [sumBytes_len]; omega)] at h
  rw [h]
  have e1 : Crc.crc l >>> (8 * 4) = 0#32 := by
    apply BitVec.eq_of_getLsbD_eq; intro i hi
    rw [BitVec.getLsbD_ushiftRight, BitVec.getLsbD_of_ge _ _ (by omega)]; simp
  have e2 : Crc.run 0xffffffff#32 l ^^^ Crc.crc l = 0xffffffff#32 := by
    show Crc.run 0xffffffff#32 l ^^^ ~~~ (Crc.run (~~~ 0#32) l) = _
    rw [show (~~~ 0#32 : BitVec 32) = 0xffffffff#32 from by decide]
    generalize Crc.run 0xffffffff#32 l = R
    rw [Crc.not_eq, ← BitVec.xor_assoc]; simp
  rw [e1, e2]; simp
/-- a text that differs from a sealed one by a burst is not sealed -/
theorem burst_bad (l c : List UInt8) (m M : Nat) (x : BitVec 32) (hx : x ≠ 0#32) (hc : c.length = m + 4) (hr : Crc.run 0xffffffff#32 c = Crc.run 0xffffffff#32 (sealed l) ^^^ Crc.shN M x) :
    c.drop m ≠ sumBytes (Crc.crc (c.take m)) := by
  intro h
  have e : c = sealed (c.take m) := by unfold sealed; rw [← h, List.take_append_drop]
  rw [run_sealed] at hr
  rw [e, run_sealed] at hr
  have h0 : Crc.shN M x = 0#32 := by
    have := congrArg (fun y => Crc.shN 32 0xffffffff#32 ^^^ y) hr
    simp only [← BitVec.xor_assoc, BitVec.xor_self, BitVec.zero_xor] at this
    exact this.symm
  exact hx (Crc.shN_zero_of M x h0)
end Go.Proofs.YtlokfndonjldpaaDoor
