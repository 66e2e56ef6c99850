/- The two Open's agree: plain facts for WalOpens. No program in sight. -/
import Derived.Test.YtlokfndonjldpaaDoorOpen
import Derived.Test.YtlokfndonjldpaaDoorRefOpen
import Derived.Test.YtlokfndonjldpaaDoorLawS
import Derived.Test.YtlokfndonjldpaaDoorLawR
set_option linter.unusedSimpArgs false
set_option linter.unusedVariables false
namespace Go.Proofs.YtlokfndonjldpaaDoor

theorem scan_in : ∀ (f e nx g : Nat) (fs : List (List UInt8)), (scan f e nx g fs).2 ≤ fs.length ∧ (scan f e nx g fs).1.length ≤ (scan f e nx g fs).2
  | 0, _, _, _, _ => ⟨Nat.zero_le _, Nat.le_refl _⟩
  | f + 1, e, nx, g, fs => by
    rw [scan]
    split
    · rename_i t p k hk
      split
      · have h1 := intactP_pos hk
        have h2 := scan_in f e ((nx + 1) % 18446744073709551616) (tG t) (fs.drop k)
        rw [List.length_drop] at h2
        refine ⟨?_, ?_⟩
        · show k + _ ≤ _
          omega
        · show (_ :: _).length ≤ k + _
          rw [List.length_cons]
          omega
      · exact ⟨Nat.zero_le _, Nat.le_refl _⟩
    · exact ⟨Nat.zero_le _, Nat.le_refl _⟩
/-- what both find -/
structure Both (k : Nat) (l : Lg) (s : Stt) (ps : List (List UInt8)) : Prop where
  ok : l.ok
  e : l.e = s.e
  g : l.g = s.g
  nx : l.nx = s.nx
  a : l.at_ = s.sec
  f : l.from_ = 0
  z : l.size = k
  s1 : 1 ≤ s.sec
  sk : s.sec ≤ k
  n : ps.length ≤ k
  left : l.left = k - s.sec
theorem open_same (f : Secs) (k : Nat) (hk : 1 ≤ k) (hk2 : k ≤ 16384) (h128 : (f 0).length = 128) : (wopen f 0 k = none ∧ ropen (seg f 0 k) = none) ∨ ∃ l s ps, wopen f 0 k = some (l, ps) ∧ ropen (seg f 0 k) = some (s, ps) ∧ Both k l s ps := by
  have hs : seg f 0 k = f 0 :: regn f 0 k := by
    obtain ⟨q, rfl⟩ : ∃ q, k = q + 1 := ⟨k - 1, by omega⟩
    rw [seg_succ]
    rfl
  have hl : (regn f 0 k).length = k - 1 := by simp [regn]
  rw [hs]
  unfold wopen ropen
  simp only [List.headD_cons, List.drop_succ_cons, List.drop_zero, List.length_cons, hl]
  by_cases h : hdrOk (f 0)
  · right
    rw [if_pos h, if_pos h]
    have hi := scan_in (k - 1) (hdrE (f 0)) (hdrF (f 0)) 1 (regn f 0 k)
    rw [hl] at hi
    have e1 : k - 1 + 1 - 1 = k - 1 := by omega
    rw [e1]
    refine ⟨_, _, _, rfl, rfl, ⟨⟨by show (0 : Nat) ≤ _; omega, by show k ≤ _; omega, by show 0 + 1 + _ ≤ 0 + k; omega, ?_, Nat.mod_lt _ (by omega), Nat.mod_lt _ (by omega)⟩, rfl, rfl, rfl, by show 0 + 1 + _ = 1 + _; omega, rfl, rfl, by show 1 ≤ 1 + _; omega, by show 1 + _ ≤ k; omega, by omega, by unfold Lg.left; dsimp only; omega⟩⟩
    show hdrE (f 0) < 18446744073709551616
    unfold hdrE
    have := num_lt (((f 0).drop 4).take 8)
    rw [show (((f 0).drop 4).take 8).length = 8 by simp [h128]] at this
    exact this
  · left
    rw [if_neg h, if_neg h]
    exact ⟨rfl, rfl⟩
/-- one sector is written over the region's bytes -/
theorem seg_put1 (f : Secs) (k c : Nat) (s : List UInt8) (h128 : ∀ j, j < k → (f j).length = 128) (hs : s.length = 128) (hc : c < k) :
    (seg (upd f c s) 0 k).flatten = (seg f 0 k).flatten.take (128 * c) ++ s ++ (seg f 0 k).flatten.drop (128 * c + 128) := by
  have e1 := seg_split (upd f c s) c 0 k (by omega)
  have e2 := seg_split f c 0 k (by omega)
  have l1 : (seg f 0 c).flatten.length = 128 * c := seg_flat_len f 0 c (fun i _ hi => h128 i (by omega))
  obtain ⟨q, hq⟩ : ∃ q, k - c = q + 1 := ⟨k - c - 1, by omega⟩
  rw [hq, seg_succ, Nat.zero_add] at e1 e2
  have u1 : seg (upd f c s) 0 c = seg f 0 c := seg_congr fun i _ hi => by unfold upd; rw [if_neg (by omega)]
  have u2 : seg (upd f c s) (c + 1) q = seg f (c + 1) q := seg_congr fun i hi _ => by unfold upd; rw [if_neg (by omega)]
  have u3 : upd f c s c = s := by unfold upd; rw [if_pos rfl]
  rw [e1, e2, u1, u2, u3, List.flatten_append, List.flatten_append, List.flatten_cons, List.flatten_cons]
  rw [List.take_left' l1, ← List.drop_drop, List.drop_left' l1, List.drop_left' (h128 c hc), List.append_assoc]
theorem recSecs_nil (t : List UInt8) (ht : t.length = 24) : ∃ s, recSecs t [] = [s] ∧ s.length = 128 := by
  have h := recSecs_len t []
  have h2 := recSecs_128 ht []
  generalize recSecs t [] = L at *
  match L, h with
  | [s], _ => exact ⟨s, rfl, h2 s (List.mem_singleton.2 rfl)⟩
end Go.Proofs.YtlokfndonjldpaaDoor
