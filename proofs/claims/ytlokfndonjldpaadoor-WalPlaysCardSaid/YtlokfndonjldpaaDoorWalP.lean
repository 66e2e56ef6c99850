/- Records, headers and logs of layer 12 as plain lists of bytes. No program in sight. -/
import Derived.Test.YtlokfndonjldpaaDoorPageP
import Derived.Test.YtlokfndonjldpaaDoorBlk
set_option linter.unusedSimpArgs false
set_option linter.unusedVariables false
namespace Go.Proofs.YtlokfndonjldpaaDoor

theorem byte_ext {l r : List UInt8} (hl : l.length = r.length) (h : ∀ i, i < l.length → l[i]? = r[i]?) : l = r := by
  apply List.ext_getElem?
  intro i
  by_cases hi : i < l.length
  · exact h i hi
  · rw [List.getElem?_eq_none (by omega), List.getElem?_eq_none (by omega)]
/-- the number of sectors of a record -/
def cnt (n : Nat) : Nat := (n + 87) / 80
theorem cnt_pos (n : Nat) : 1 ≤ cnt n := by unfold cnt; omega
theorem cnt_room (n : Nat) : n + 8 ≤ 80 * cnt n := by unfold cnt; omega
def tagB (e g l : Nat) : List UInt8 := le 8 e ++ le 8 g ++ le 8 l
@[simp] theorem tagB_len (e g l : Nat) : (tagB e g l).length = 24 := by simp [tagB]
def tE (t : List UInt8) : Nat := num (t.take 8)
def tG (t : List UInt8) : Nat := num ((t.drop 8).take 8)
def tL (t : List UInt8) : Nat := num ((t.drop 16).take 8)
theorem tagB_of (t : List UInt8) (h : t.length = 24) : tagB (tE t) (tG t) (tL t) = t := by
  unfold tagB tE tG tL
  have h1 := le_num (t.take 8)
  have h2 := le_num ((t.drop 8).take 8)
  have h3 := le_num ((t.drop 16).take 8)
  rw [List.length_take, h, show min 8 24 = 8 from rfl] at h1
  rw [List.length_take, List.length_drop, h, show min 8 (24 - 8) = 8 from rfl] at h2
  rw [List.length_take, List.length_drop, h, show min 8 (24 - 16) = 8 from rfl] at h3
  rw [h1, h2, h3]
  have : (t.drop 16).take 8 = t.drop 16 := List.take_of_length_le (by simp [h])
  rw [this, show t.drop 16 = (t.drop 8).drop 8 by simp, List.append_assoc, List.take_append_drop, List.take_append_drop]
theorem tag_parts (e g l : Nat) (he : e < 18446744073709551616) (hg : g < 18446744073709551616) (hl : l < 18446744073709551616) : tE (tagB e g l) = e ∧ tG (tagB e g l) = g ∧ tL (tagB e g l) = l := by
  unfold tE tG tL tagB
  have e1 : ((le 8 e ++ le 8 g ++ le 8 l).take 8) = le 8 e := by rw [List.append_assoc, List.take_left' (le_len 8 e)]
  have e2 : (((le 8 e ++ le 8 g ++ le 8 l).drop 8).take 8) = le 8 g := by rw [List.append_assoc, List.drop_left' (le_len 8 e), List.take_left' (le_len 8 g)]
  have e3 : (((le 8 e ++ le 8 g ++ le 8 l).drop 16).take 8) = le 8 l := by rw [List.drop_left' (by simp), List.take_of_length_le (by simp)]
  rw [e1, e2, e3]
  exact ⟨num_le 8 _ he, num_le 8 _ hg, num_le 8 _ hl⟩
theorem tE_lt (t : List UInt8) : tE t < 18446744073709551616 := by
  unfold tE
  have := num_lt (t.take 8)
  have h2 : (256 : Nat) ^ (t.take 8).length ≤ 256 ^ 8 := Nat.pow_le_pow_right (by omega) (by simp; omega)
  omega
theorem tG_lt (t : List UInt8) : tG t < 18446744073709551616 := by
  unfold tG
  have := num_lt ((t.drop 8).take 8)
  have h2 : (256 : Nat) ^ ((t.drop 8).take 8).length ≤ 256 ^ 8 := Nat.pow_le_pow_right (by omega) (by simp; omega)
  omega
theorem tL_lt (t : List UInt8) : tL t < 18446744073709551616 := by
  unfold tL
  have := num_lt ((t.drop 16).take 8)
  have h2 : (256 : Nat) ^ ((t.drop 16).take 8).length ≤ 256 ^ 8 := Nat.pow_le_pow_right (by omega) (by simp; omega)
  omega
/-- the data of a record -/
def recData (p : List UInt8) : List UInt8 := sealed (le 4 p.length ++ p) ++ zeroB (80 * cnt p.length - (p.length + 8))
theorem sealed_data_len (p : List UInt8) : (sealed (le 4 p.length ++ p)).length = p.length + 8 := by
  rw [sealed_len]; simp; omega
@[simp] theorem recData_len (p : List UInt8) : (recData p).length = 80 * cnt p.length := by
  have := cnt_room p.length
  unfold recData
  rw [List.length_append, sealed_data_len, zeroB_len]
  omega
def halfR (t d : List UInt8) (j : Nat) : List UInt8 := t ++ (d.drop (40 * j)).take 40
def recSec (t d : List UInt8) (i : Nat) : List UInt8 := halfR t d (2 * i) ++ halfR t d (2 * i + 1)
def recSecs (t p : List UInt8) : List (List UInt8) := (List.range (cnt p.length)).map (recSec t (recData p))
theorem recSec_len {t d : List UInt8} {i : Nat} (ht : t.length = 24) (hd : 80 * (i + 1) ≤ d.length) : (recSec t d i).length = 128 := by
  unfold recSec halfR
  simp [ht]
  omega
theorem recSec_drop (t d : List UInt8) (i : Nat) : recSec t d (i + 1) = recSec t (d.drop 80) i := by
  unfold recSec halfR
  simp only [List.drop_drop]
  rw [show 40 * (2 * (i + 1)) = 80 + 40 * (2 * i) by omega, show 40 * (2 * (i + 1) + 1) = 80 + 40 * (2 * i + 1) by omega]
/-- the data in a sector -/
def part (s : List UInt8) : List UInt8 := (s.drop 24).take 40 ++ s.drop 88
def parts (fs : List (List UInt8)) : List UInt8 := fs.flatMap part
theorem part_len {s : List UInt8} (h : s.length = 128) : (part s).length = 80 := by simp [part, h]
theorem parts_len : ∀ {fs : List (List UInt8)}, (∀ s ∈ fs, s.length = 128) → (parts fs).length = 80 * fs.length
  | [], _ => rfl
  | s :: fs, h => by
    have h1 := parts_len (fs := fs) fun x hx => h x (List.mem_cons_of_mem _ hx)
    unfold parts at *
    rw [List.flatMap_cons, List.length_append, h1, part_len (h s (List.mem_cons_self ..)), List.length_cons]
    omega
theorem part_recSec {t d : List UInt8} {i : Nat} (ht : t.length = 24) (hd : 80 * (i + 1) ≤ d.length) : part (recSec t d i) = (d.drop (80 * i)).take 80 := by
  have h1 : ((d.drop (40 * (2 * i))).take 40).length = 40 := by simp; omega
  have h2 : ((d.drop (40 * (2 * i + 1))).take 40).length = 40 := by simp; omega
  have e1 : ((recSec t d i).drop 24).take 40 = (d.drop (40 * (2 * i))).take 40 := by
    unfold recSec halfR
    rw [List.append_assoc, List.drop_left' ht, List.take_left' h1]
  have e2 : (recSec t d i).drop 88 = (d.drop (40 * (2 * i + 1))).take 40 := by
    unfold recSec halfR
    rw [← List.append_assoc, List.drop_left' (by simp only [List.length_append, ht, h1])]
  unfold part
  rw [e1, e2, show 40 * (2 * i + 1) = 80 * i + 40 by omega, show 40 * (2 * i) = 80 * i by omega, ← List.drop_drop]
  have := List.take_append_drop 40 ((d.drop (80 * i)).take 80)
  rw [List.take_take, List.drop_take, show min 40 80 = 40 from rfl, show 80 - 40 = 40 from rfl] at this
  exact this
theorem parts_recSecs {t : List UInt8} (ht : t.length = 24) : ∀ (k : Nat) (d : List UInt8), d.length = 80 * k → parts ((List.range k).map (recSec t d)) = d
  | 0, d, h => by
    rw [Nat.mul_zero] at h
    rw [List.eq_nil_of_length_eq_zero h]
    rfl
  | k + 1, d, h => by
    rw [List.range_succ_eq_map, List.map_cons, List.map_map]
    have e : (recSec t d ∘ Nat.succ) = recSec t (d.drop 80) := by funext i; exact recSec_drop t d i
    rw [e]
    have h1 := parts_recSecs ht k (d.drop 80) (by simp [h]; omega)
    unfold parts at *
    rw [List.flatMap_cons, h1, part_recSec ht (by omega), Nat.mul_zero, List.drop_zero, List.take_append_drop]
theorem secs_of_parts {t : List UInt8} (ht : t.length = 24) : ∀ (fs : List (List UInt8)), (∀ s ∈ fs, s.length = 128 ∧ s.take 24 = t ∧ (s.drop 64).take 24 = t) → fs = (List.range fs.length).map (recSec t (parts fs))
  | [], _ => rfl
  | s :: fs, h => by
    have h1 := secs_of_parts ht fs fun x hx => h x (List.mem_cons_of_mem _ hx)
    obtain ⟨h2, h3, h4⟩ := h s (List.mem_cons_self ..)
    have hp : (part s).length = 80 := part_len h2
    rw [List.length_cons, List.range_succ_eq_map, List.map_cons, List.map_map]
    have e : (recSec t (parts (s :: fs)) ∘ Nat.succ) = recSec t (parts fs) := by
      funext i
      show recSec t _ (i + 1) = _
      rw [recSec_drop]
      congr 1
      unfold parts
      rw [List.flatMap_cons, List.drop_left' hp]
    rw [e, ← h1]
    congr 1
    unfold recSec halfR parts
    rw [List.flatMap_cons, show 40 * (2 * 0) = 0 from rfl, List.drop_zero, List.take_append_of_le_length (by omega), List.drop_append_of_le_length (by omega), List.take_append_of_le_length (by simp; omega)]
    unfold part
    have q1 : ((s.drop 24).take 40).length = 40 := by simp [h2]
    rw [List.take_left' q1, show 40 * (0 + 1) = 40 from rfl, List.drop_left' q1, List.take_of_length_le (show (s.drop 88).length ≤ 40 by simp [h2])]
    have a1 : t ++ (s.drop 24).take 40 = s.take 64 := by
      rw [← h3]
      have := List.take_append_drop 24 (s.take 64)
      rw [List.take_take, List.drop_take] at this
      exact this
    have a2 : t ++ s.drop 88 = s.drop 64 := by
      have := List.take_append_drop 24 (s.drop 64)
      rw [h4, List.drop_drop] at this
      exact this
    rw [a1, a2, List.take_append_drop]

def tag1 (fs : List (List UInt8)) : List UInt8 := (fs.headD []).take 24
def recLen (fs : List (List UInt8)) : Nat := num (((fs.headD []).drop 24).take 4)
def payl (fs : List (List UInt8)) : List UInt8 := ((parts (fs.take (cnt (recLen fs)))).drop 4).take (recLen fs)
/-- the record at the front -/
def intactP (fs : List (List UInt8)) : Option (List UInt8 × List UInt8 × Nat) :=
  if recLen fs ≤ 8192 ∧ cnt (recLen fs) ≤ fs.length ∧ fs.take (cnt (recLen fs)) = recSecs (tag1 fs) (payl fs) then some (tag1 fs, payl fs, cnt (recLen fs)) else none
theorem intactP_nil : intactP [] = none := by
  unfold intactP
  rw [if_neg]
  rintro ⟨_, h, _⟩
  have := cnt_pos (recLen [])
  simp at h
  omega
section
variable {fs : List (List UInt8)}
theorem data_of (h128 : ∀ s ∈ fs, s.length = 128) (hk : cnt (recLen fs) ≤ fs.length) : (parts (fs.take (cnt (recLen fs)))).length = 80 * cnt (recLen fs) := by
  rw [parts_len fun s hs => h128 s (List.mem_of_mem_take hs), List.length_take, Nat.min_eq_left hk]
theorem payl_len (h128 : ∀ s ∈ fs, s.length = 128) (hk : cnt (recLen fs) ≤ fs.length) : (payl fs).length = recLen fs := by
  unfold payl
  rw [List.length_take, List.length_drop, data_of h128 hk]
  have := cnt_room (recLen fs)
  omega
theorem tag1_len (h128 : ∀ s ∈ fs, s.length = 128) (hk : cnt (recLen fs) ≤ fs.length) : (tag1 fs).length = 24 := by
  have := cnt_pos (recLen fs)
  cases fs with
  | nil => simp at hk; omega
  | cons s r =>
    unfold tag1
    simp [h128 s (List.mem_cons_self ..)]
theorem four_of (h128 : ∀ s ∈ fs, s.length = 128) (hk : cnt (recLen fs) ≤ fs.length) : (parts (fs.take (cnt (recLen fs)))).take 4 = le 4 (recLen fs) := by
  have hp := cnt_pos (recLen fs)
  obtain ⟨k, hk2⟩ : ∃ k, cnt (recLen fs) = k + 1 := ⟨cnt (recLen fs) - 1, by omega⟩
  cases fs with
  | nil => simp at hk; omega
  | cons s r =>
    have h1 := h128 s (List.mem_cons_self ..)
    rw [hk2, List.take_succ_cons]
    unfold parts
    rw [List.flatMap_cons, List.take_append_of_le_length (by rw [part_len h1]; omega)]
    unfold part
    rw [List.take_append_of_le_length (by simp [h1]), List.take_take]
    show (s.drop 24).take 4 = le 4 (num ((s.drop 24).take 4))
    have := le_num ((s.drop 24).take 4)
    rw [show ((s.drop 24).take 4).length = 4 by simp [h1]] at this
    exact this.symm
/-- what the code looks at -/
theorem intact_iff (h128 : ∀ s ∈ fs, s.length = 128) (hk : cnt (recLen fs) ≤ fs.length) :
    fs.take (cnt (recLen fs)) = recSecs (tag1 fs) (payl fs) ↔
      (∀ s ∈ fs.take (cnt (recLen fs)), s.take 24 = tag1 fs ∧ (s.drop 64).take 24 = tag1 fs) ∧
      (parts (fs.take (cnt (recLen fs)))).take (recLen fs + 8) = sealed ((parts (fs.take (cnt (recLen fs)))).take (recLen fs + 4)) ∧
      (parts (fs.take (cnt (recLen fs)))).drop (recLen fs + 8) = zeroB (80 * cnt (recLen fs) - (recLen fs + 8)) := by
  have ht := tag1_len h128 hk
  have hpl := payl_len h128 hk
  have hd := data_of h128 hk
  have hr := cnt_room (recLen fs)
  have h4 := four_of h128 hk
  have hcut : (parts (fs.take (cnt (recLen fs)))).take (recLen fs + 4) = le 4 (recLen fs) ++ payl fs := by
    have := List.take_append_drop 4 ((parts (fs.take (cnt (recLen fs)))).take (recLen fs + 4))
    rw [List.take_take, Nat.min_eq_left (by omega), h4, List.drop_take, show recLen fs + 4 - 4 = recLen fs by omega] at this
    exact this.symm
  constructor
  · intro h
    have hpd : parts (fs.take (cnt (recLen fs))) = recData (payl fs) := by
      rw [h]
      exact parts_recSecs ht _ _ (by rw [recData_len])
    refine ⟨fun s hs => ?_, ?_, ?_⟩
    · rw [h] at hs
      unfold recSecs at hs
      rw [List.mem_map] at hs
      obtain ⟨i, hi, rfl⟩ := hs
      have hi := List.mem_range.1 hi
      rw [hpl] at hi
      constructor
      · unfold recSec halfR
        rw [List.append_assoc, List.take_left' ht]
      · have q : ((List.drop (40 * (2 * i)) (recData (payl fs))).take 40).length = 40 := by simp [hpl]; omega
        unfold recSec halfR
        rw [List.drop_left' (by simp only [List.length_append, ht, q]), List.take_left' ht]
    · rw [hcut, hpd]
      unfold recData
      rw [hpl, List.take_left' (by have := sealed_data_len (payl fs); rw [hpl] at this; exact this)]
    · rw [hpd]
      unfold recData
      rw [hpl, List.drop_left' (by have := sealed_data_len (payl fs); rw [hpl] at this; exact this)]
  · rintro ⟨h1, h2, h3⟩
    have hpd : parts (fs.take (cnt (recLen fs))) = recData (payl fs) := by
      unfold recData
      rw [← List.take_append_drop (recLen fs + 8) (parts (fs.take (cnt (recLen fs)))), h2, h3, hcut, hpl]
    have := secs_of_parts ht (fs.take (cnt (recLen fs))) fun s hs => ⟨h128 s (List.mem_of_mem_take hs), h1 s hs⟩
    rw [hpd, List.length_take, Nat.min_eq_left hk] at this
    unfold recSecs
    rw [hpl]
    exact this
end
/-- the records from the front on -/
def scan : Nat → Nat → Nat → Nat → List (List UInt8) → List (List UInt8) × Nat
  | 0, _, _, _, _ => ([], 0)
  | f + 1, e, nx, g, fs => match intactP fs with
    | some (t, p, k) => if tE t = e ∧ tL t = nx ∧ g ≤ tG t then (p :: (scan f e ((nx + 1) % 18446744073709551616) (tG t) (fs.drop k)).1, k + (scan f e ((nx + 1) % 18446744073709551616) (tG t) (fs.drop k)).2) else ([], 0)
    | none => ([], 0)
theorem scan_nil (f e nx g : Nat) : scan f e nx g [] = ([], 0) := by
  cases f with
  | zero => rfl
  | succ f => rw [scan, intactP_nil]
/-- the header of a log -/
def hdr (e f : Nat) : List UInt8 := sealed ([79, 87, 65, 76] ++ le 8 e ++ le 8 f) ++ zeroB 104
theorem hdr_len (e f : Nat) : (hdr e f).length = 128 := by
  unfold hdr
  rw [List.length_append, sealed_len, zeroB_len]
  simp
def hdrE (s : List UInt8) : Nat := num ((s.drop 4).take 8)
def hdrF (s : List UInt8) : Nat := num ((s.drop 12).take 8)
def hdrOk (s : List UInt8) : Prop := hdrE s ≠ 0 ∧ hdrF s ≠ 0 ∧ s = hdr (hdrE s) (hdrF s)
instance (s : List UInt8) : Decidable (hdrOk s) := by unfold hdrOk; infer_instance
theorem hdr_parts (e f : Nat) (he : e < 18446744073709551616) (hf : f < 18446744073709551616) : hdrE (hdr e f) = e ∧ hdrF (hdr e f) = f := by
  unfold hdrE hdrF hdr sealed
  have e1 : ((([79, 87, 65, 76] ++ le 8 e ++ le 8 f ++ sumBytes (Crc.crc ([79, 87, 65, 76] ++ le 8 e ++ le 8 f)) ++ zeroB 104).drop 4).take 8) = le 8 e := by
    simp only [List.append_assoc]
    rw [List.drop_left' (show ([79, 87, 65, 76] : List UInt8).length = 4 from rfl), List.take_left' (le_len 8 e)]
  have e2 : ((([79, 87, 65, 76] ++ le 8 e ++ le 8 f ++ sumBytes (Crc.crc ([79, 87, 65, 76] ++ le 8 e ++ le 8 f)) ++ zeroB 104).drop 12).take 8) = le 8 f := by
    rw [List.append_assoc, List.append_assoc, List.drop_left' (by simp), List.take_left' (le_len 8 f)]
  rw [e1, e2]
  exact ⟨num_le 8 _ he, num_le 8 _ hf⟩
theorem hdrOk_hdr (e f : Nat) (he : e < 18446744073709551616) (hf : f < 18446744073709551616) (h1 : e ≠ 0) (h2 : f ≠ 0) : hdrOk (hdr e f) := by
  unfold hdrOk
  obtain ⟨a, b⟩ := hdr_parts e f he hf
  rw [a, b]
  exact ⟨h1, h2, rfl⟩
/-- the largest generation of an epoch -/
def later (e m : Nat) (h : List UInt8) : Nat := if tE h = e then max m (tG h) else m
def latest (e : Nat) (fs : List (List UInt8)) : Nat := fs.foldl (fun m s => later e (later e m s) (s.drop 64)) 0
/-- a log -/
structure Lg where
  (from_ size e g nx at_ : Nat)
def regn (f : Nat → List UInt8) (from_ n : Nat) : List (List UInt8) := (List.range (n - 1)).map fun i => f (from_ + 1 + i)
def wopen (f : Nat → List UInt8) (from_ n : Nat) : Option (Lg × List (List UInt8)) :=
  if hdrOk (f from_) then
    some (⟨from_, n, hdrE (f from_), (latest (hdrE (f from_)) (regn f from_ n) + 1) % 18446744073709551616, (hdrF (f from_) + (scan (n - 1) (hdrE (f from_)) (hdrF (f from_)) 1 (regn f from_ n)).1.length) % 18446744073709551616,
      from_ + 1 + (scan (n - 1) (hdrE (f from_)) (hdrF (f from_)) 1 (regn f from_ n)).2⟩, (scan (n - 1) (hdrE (f from_)) (hdrF (f from_)) 1 (regn f from_ n)).1)
  else none
end Go.Proofs.YtlokfndonjldpaaDoor
