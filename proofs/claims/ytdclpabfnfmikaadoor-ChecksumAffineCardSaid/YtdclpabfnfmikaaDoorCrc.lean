/- Plain facts on the checksum's register: a shift register over 32 bits, no program in sight. Conditions: none. -/
set_option linter.unusedSimpArgs false
set_option linter.unusedVariables false
namespace Go.Proofs.YtdclpabfnfmikaaDoor.Crc

def poly : BitVec 32 := 0x82f63b78#32
def sh (r : BitVec 32) : BitVec 32 := if r.getLsbD 0 then (r >>> 1) ^^^ poly else r >>> 1
def shN : Nat → BitVec 32 → BitVec 32
  | 0, r => r
  | n + 1, r => shN n (sh r)
def wide (b : UInt8) : BitVec 32 := b.toBitVec.setWidth 32
def stepB (r : BitVec 32) (b : UInt8) : BitVec 32 := shN 8 (r ^^^ wide b)
def run (r : BitVec 32) (l : List UInt8) : BitVec 32 := l.foldl stepB r
def upd (s : BitVec 32) (l : List UInt8) : BitVec 32 := ~~~ run (~~~ s) l
def crc (l : List UInt8) : BitVec 32 := upd 0#32 l

theorem run_nil (r : BitVec 32) : run r [] = r := rfl
theorem run_cons (r : BitVec 32) (b : UInt8) (l : List UInt8) : run r (b :: l) = run (stepB r b) l := rfl
theorem run_append (r : BitVec 32) (l m : List UInt8) : run r (l ++ m) = run (run r l) m := by simp [run, List.foldl_append]
theorem run_snoc (r : BitVec 32) (l : List UInt8) (b : UInt8) : run r (l ++ [b]) = stepB (run r l) b := by simp [run]

theorem upd_append (s : BitVec 32) (l m : List UInt8) : upd s (l ++ m) = upd (upd s l) m := by
  simp [upd, run_append]
theorem upd_nil (s : BitVec 32) : upd s [] = s := by simp [upd, run_nil]
theorem crc_nil : crc [] = 0#32 := upd_nil _

/-! the shift is linear -/
theorem bit_xor (a b : BitVec 32) (i : Nat) : (a ^^^ b).getLsbD i = (a.getLsbD i != b.getLsbD i) := by simp
theorem sh_xor (a b : BitVec 32) : sh (a ^^^ b) = sh a ^^^ sh b := by
  unfold sh
  rw [bit_xor]
  rw [show (a ^^^ b) >>> 1 = (a >>> 1) ^^^ (b >>> 1) from by
    apply BitVec.eq_of_getLsbD_eq; intro i hi; simp]
  generalize a >>> 1 = x
  generalize b >>> 1 = y
  cases a.getLsbD 0 <;> cases b.getLsbD 0
  · simp
  · simp [BitVec.xor_assoc]
  · simp
    ac_rfl
  · simp only [bne_self_eq_false, Bool.false_eq_true, if_false, if_true]
    rw [show x ^^^ poly ^^^ (y ^^^ poly) = x ^^^ y ^^^ (poly ^^^ poly) from by ac_rfl]
    simp
theorem shN_xor (n : Nat) : ∀ a b : BitVec 32, shN n (a ^^^ b) = shN n a ^^^ shN n b := by
  induction n with
  | zero => intro a b; rfl
  | succ n ih => intro a b; simp only [shN]; rw [sh_xor, ih]
theorem shN_add (m n : Nat) : ∀ r, shN (m + n) r = shN n (shN m r) := by
  induction m with
  | zero => intro r; simp [shN]
  | succ m ih => intro r; rw [show m + 1 + n = (m + n) + 1 from by omega]; simp only [shN]; exact ih _
theorem shN_zero (n : Nat) : shN n 0#32 = 0#32 := by
  induction n with
  | zero => rfl
  | succ n ih => simp only [shN]; rw [show sh 0#32 = 0#32 from by decide]; exact ih

/-! four shifts by the table -/
def tab : List (BitVec 32) := [0x00000000#32, 0x105ec76f#32, 0x20bd8ede#32, 0x30e349b1#32, 0x417b1dbc#32, 0x5125dad3#32, 0x61c69362#32, 0x7198540d#32, 0x82f63b78#32, 0x92a8fc17#32, 0xa24bb5a6#32, 0xb21572c9#32, 0xc38d26c4#32, 0xd3d3e1ab#32, 0xe330a81a#32, 0xf36e6f75#32]
def tabAt (i : BitVec 32) : BitVec 32 := tab.getD i.toNat 0#32

theorem sh_even (r : BitVec 32) (h : r.getLsbD 0 = false) : sh r = r >>> 1 := by unfold sh; rw [h]; rfl
theorem four (r : BitVec 32) (h : ∀ i, i < 4 → r.getLsbD i = false) : shN 4 r = r >>> 4 := by
  have h0 := h 0 (by omega)
  have h1 := h 1 (by omega)
  have h2 := h 2 (by omega)
  have h3 := h 3 (by omega)
  simp only [shN]
  rw [sh_even r h0]
  rw [sh_even (r >>> 1) (by simpa using h1)]
  rw [sh_even (r >>> 1 >>> 1) (by simpa using h2)]
  rw [sh_even (r >>> 1 >>> 1 >>> 1) (by simpa using h3)]
  apply BitVec.eq_of_getLsbD_eq; intro i hi
  simp only [BitVec.getLsbD_ushiftRight]
  congr 1; omega
theorem low_tab : ∀ n : Fin 16, shN 4 (BitVec.ofNat 32 n.1) = tabAt (BitVec.ofNat 32 n.1) := by decide +kernel
theorem mask15 (i : Nat) : (15#32).getLsbD i = decide (i < 4) := by
  by_cases h : i < 32
  · have : ∀ j : Fin 32, (15#32).getLsbD j.1 = decide (j.1 < 4) := by decide
    exact this ⟨i, h⟩
  · rw [BitVec.getLsbD_of_ge _ _ (by omega)]; simp; omega
theorem nibble (r : BitVec 32) : (r >>> 4) ^^^ tabAt (r &&& 15#32) = shN 4 r := by
  have hs : r = (r &&& ~~~15#32) ^^^ (r &&& 15#32) := by
    apply BitVec.eq_of_getLsbD_eq; intro i hi
    simp only [BitVec.getLsbD_xor, BitVec.getLsbD_and, BitVec.getLsbD_not, hi, decide_true, Bool.true_and]
    cases r.getLsbD i <;> cases (15#32).getLsbD i <;> rfl
  have e : shN 4 r = shN 4 (r &&& ~~~15#32) ^^^ shN 4 (r &&& 15#32) := by
    have := shN_xor 4 (r &&& ~~~15#32) (r &&& 15#32); rw [← hs] at this; exact this
  rw [e, four]
  · have hlt : (r &&& 15#32).toNat < 16 := by
      rw [BitVec.toNat_and]
      exact Nat.lt_of_le_of_lt Nat.and_le_right (by decide)
    have := low_tab ⟨(r &&& 15#32).toNat, hlt⟩
    simp only [BitVec.ofNat_toNat, BitVec.setWidth_eq] at this
    rw [this]
    congr 1
    apply BitVec.eq_of_getLsbD_eq; intro i hi
    simp only [BitVec.getLsbD_ushiftRight, BitVec.getLsbD_and, BitVec.getLsbD_not, mask15]
    by_cases h : 4 + i < 32
    · simp [h]
    · rw [BitVec.getLsbD_of_ge r _ (by omega)]; simp
  · intro i hi
    simp only [BitVec.getLsbD_and, BitVec.getLsbD_not, mask15]
    simp [hi]
/-- one byte by two looks into the table -/
theorem byte_tab (r : BitVec 32) (b : UInt8) :
    let x := r ^^^ wide b
    let y := (x >>> 4) ^^^ tabAt (x &&& 15#32)
    (y >>> 4) ^^^ tabAt (y &&& 15#32) = stepB r b := by
  intro x y
  show (y >>> 4) ^^^ tabAt (y &&& 15#32) = shN 8 x
  rw [nibble, show y = shN 4 x from nibble x, ← shN_add]

/-! the register's linear part -/
def xorL : List UInt8 → List UInt8 → List UInt8 := List.zipWith (· ^^^ ·)
theorem wide_xor (a b : UInt8) : wide (a ^^^ b) = wide a ^^^ wide b := by
  simp [wide]
theorem stepB_xor (r s : BitVec 32) (a b : UInt8) : stepB (r ^^^ s) (a ^^^ b) = stepB r a ^^^ stepB s b := by
  unfold stepB
  rw [wide_xor, ← shN_xor]
  congr 1
  ac_rfl
theorem run_xor : ∀ (l m : List UInt8) (r s : BitVec 32), l.length = m.length → run (r ^^^ s) (xorL l m) = run r l ^^^ run s m
  | [], [], r, s, _ => rfl
  | a :: l, b :: m, r, s, h => by
    show run (stepB (r ^^^ s) (a ^^^ b)) (xorL l m) = _
    rw [stepB_xor, run_xor l m _ _ (by simpa using h)]
    rfl
theorem xorL_length (l m : List UInt8) (h : l.length = m.length) : (xorL l m).length = l.length := by simp [xorL, h]
def zeros (n : Nat) : List UInt8 := List.replicate n 0
theorem xorL_zeros : ∀ (l : List UInt8), xorL l (zeros l.length) = l
  | [] => rfl
  | a :: l => by
    show (a ^^^ 0) :: xorL l (zeros l.length) = a :: l
    rw [xorL_zeros l]; simp

theorem not_eq (x : BitVec 32) : ~~~ x = x ^^^ 0xffffffff#32 := by
  rw [show (0xffffffff#32 : BitVec 32) = BitVec.allOnes 32 from by decide, BitVec.xor_allOnes]
/-- three registers, three texts -/
theorem run_mix (a b c : List UInt8) (r s t : BitVec 32) (h1 : a.length = b.length) (h2 : a.length = c.length) :
    run (r ^^^ s ^^^ t) (xorL (xorL a b) c) = run r a ^^^ run s b ^^^ run t c := by
  rw [run_xor _ _ _ _ (by rw [xorL_length _ _ h1]; exact h2), run_xor _ _ _ _ h1]
theorem upd_mix (a b c : List UInt8) (r s t : BitVec 32) (h1 : a.length = b.length) (h2 : a.length = c.length) :
    upd (r ^^^ s ^^^ t) (xorL (xorL a b) c) = upd r a ^^^ upd s b ^^^ upd t c := by
  have three : ∀ x y z : BitVec 32, ~~~ (x ^^^ y ^^^ z) = ~~~ x ^^^ ~~~ y ^^^ ~~~ z := by
    intro x y z
    simp only [not_eq]
    generalize (0xffffffff#32 : BitVec 32) = f
    rw [show x ^^^ f ^^^ (y ^^^ f) ^^^ (z ^^^ f) = (x ^^^ y ^^^ z ^^^ f) ^^^ (f ^^^ f) from by ac_rfl]
    simp
  unfold upd
  rw [three, run_mix _ _ _ _ _ _ h1 h2, three]
theorem crc_mix (a b c : List UInt8) (h1 : a.length = b.length) (h2 : a.length = c.length) :
    crc (xorL (xorL a b) c) = crc a ^^^ crc b ^^^ crc c := by
  have := upd_mix a b c 0#32 0#32 0#32 h1 h2
  simpa [crc] using this
theorem xorL_self : ∀ (l : List UInt8), xorL (xorL l l) l = l
  | [] => rfl
  | a :: l => by
    show (a ^^^ a ^^^ a) :: xorL (xorL l l) l = a :: l
    rw [xorL_self l]; simp
theorem upd_affine (l : List UInt8) (r s t : BitVec 32) : upd (r ^^^ s ^^^ t) l = upd r l ^^^ upd s l ^^^ upd t l := by
  have := upd_mix l l l r s t rfl rfl
  rw [xorL_self] at this
  exact this
end Go.Proofs.YtdclpabfnfmikaaDoor.Crc
