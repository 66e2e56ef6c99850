/- What a disk holds after a page has been written, and after a crash. No program in sight. -/
import Derived.Test.YtanglofabkbllaaDoorPgR
set_option linter.unusedSimpArgs false
set_option linter.unusedVariables false
namespace Go.Proofs.YtanglofabkbllaaDoor

def chunk (B : List UInt8) (i : Nat) : List UInt8 := (B.drop (i * 128)).take 128
theorem put_cur (D : Dk) (s : Nat) (B : List UInt8) : ∀ k j, (put D s B k).cur j = if s ≤ j ∧ j < s + k then chunk B (j - s) else D.cur j
  | 0, j => by rw [if_neg (by omega)]; rfl
  | k + 1, j => by
    show upd (put D s B k).cur (s + k) _ j = _
    unfold upd
    by_cases h : j = s + k
    · rw [if_pos h, if_pos (by omega), h, Nat.add_sub_cancel_left]; rfl
    · rw [if_neg h, put_cur D s B k j]
      by_cases h2 : s ≤ j ∧ j < s + k
      · rw [if_pos h2, if_pos (by omega)]
      · rw [if_neg h2, if_neg (by omega)]
theorem put_S (D : Dk) (s : Nat) (B : List UInt8) : ∀ k, (put D s B k).S = D.S
  | 0 => rfl
  | k + 1 => put_S D s B k
theorem secs_ext {f g : Secs} {s : Nat} : ∀ k, (∀ i, i < k → f (s + i) = g (s + i)) → secs f s k = secs g s k
  | 0, _ => rfl
  | k + 1, h => by rw [secs_next, secs_next, secs_ext k (fun i hi => h i (by omega)), h k (by omega)]
theorem secs_chunks (B : List UInt8) (f : Secs) (s : Nat) : ∀ k, (∀ i, i < k → f (s + i) = chunk B i) → secs f s k = B.take (k * 128)
  | 0, _ => by simp [secs]
  | k + 1, h => by
    rw [secs_next, secs_chunks B f s k (fun i hi => h i (by omega)), h k (by omega)]
    unfold chunk
    rw [show (k + 1) * 128 = k * 128 + 128 by omega, List.take_add]
theorem secs_put (D : Dk) (s : Nat) (B : List UInt8) (hB : B.length = 1024) : secs (put D s B 8).cur s 8 = B := by
  rw [secs_chunks B _ s 8, List.take_of_length_le (by omega)]
  intro i hi
  rw [put_cur, if_pos (by omega), Nat.add_sub_cancel_left]
theorem secs_other (D : Dk) (s t : Nat) (B : List UInt8) (h : t + 8 ≤ s ∨ s + 8 ≤ t) : secs (put D s B 8).cur t 8 = secs D.cur t 8 := by
  apply secs_ext
  intro i hi
  rw [put_cur, if_neg (by omega)]
theorem put_rev (D : Dk) (s : Nat) (B : List UInt8) : ∀ k, (put D s B k).W.reverse = D.W.reverse ++ (List.range k).map (fun i => (s + i, chunk B i))
  | 0 => by simp [put]
  | k + 1 => by
    show ((s + k, _) :: (put D s B k).W).reverse = _
    rw [List.reverse_cons, put_rev D s B k, List.range_succ, List.map_append, List.append_assoc]
    rfl
theorem crash_none (D : Dk) (s : Nat) (B : List UInt8) (h : D.W = []) : ((put D s B 8).crash 0).cur = D.S := by
  show crun 0 0 (put D s B 8).S (put D s B 8).W.reverse = _
  rw [put_S, put_rev, h, List.reverse_nil, List.nil_append]
  have : ∀ k, crun 0 0 D.S ((List.range k).map (fun i => (s + i, chunk B i))) = D.S := by
    intro k
    induction k with
    | zero => rfl
    | succ k ih =>
      rw [List.range_succ, List.map_append, List.map_cons, List.map_nil, crun_snoc, ih]
      have : digit 0 ((0 + ((List.range k).map (fun i => (s + i, chunk B i))).length) % 40) = 0 := by unfold digit; simp
      rw [this]
      rfl
  exact this 8
theorem crash_all (D : Dk) (s : Nat) (B : List UInt8) (h : D.W = []) : ((put D s B 8).crash 3280).cur = (put D s B 8).cur := by
  show crun 3280 0 (put D s B 8).S (put D s B 8).W.reverse = _
  rw [put_S, put_rev, h, List.reverse_nil, List.nil_append]
  have hd : ∀ k : Fin 8, digit 3280 (k.1 % 40) = 1 := by decide
  have : ∀ k, k ≤ 8 → crun 3280 0 D.S ((List.range k).map (fun i => (s + i, chunk B i))) = (put D s B k).cur := by
    intro k
    induction k with
    | zero =>
      intro _
      show D.S = D.cur
      unfold Dk.cur
      rw [h]; rfl
    | succ k ih =>
      intro hk
      rw [List.range_succ, List.map_append, List.map_cons, List.map_nil, crun_snoc, ih (by omega)]
      have : digit 3280 ((0 + ((List.range k).map (fun i => (s + i, chunk B i))).length) % 40) = 1 := by
        rw [List.length_map, List.length_range, Nat.zero_add]
        exact hd ⟨k, by omega⟩
      rw [this]
      rfl
  exact this 8 (by omega)
theorem enc_len (id stamp kind : Nat) (l : List UInt8) (h : l.length ≤ 1000) : (encoded id stamp kind l).length = 1024 := by
  unfold encoded
  rw [sealed_len, plainPage_len h]
end Go.Proofs.YtanglofabkbllaaDoor
