/- Decode and the reference's Decode at whatever bytes; the walk of PageBytes. Conditions: the table of remainders is laid; the bytes read. -/
import Derived.Test.YtanglofabkbllaaDoorRefDec
set_option linter.unusedSimpArgs false
set_option linter.unusedVariables false
namespace Go.Proofs.YtanglofabkbllaaDoor
open Go.RowKit

theorem decode_any (A : Option Addr) (n c : Nat) (l : List UInt8) (w : World) (hT : Tab w) (hb : RB w A n l) (hc : n ≤ c) (hm : c ≤ 9223372036854775807) :
    Calls Tryd.prog 66 #[.slice A n c] w fun e w' => ∃ p : Pg, e = .returned (.tuple #[p.v, .int .i64 (decoded l).err]) ∧ Reads w' p (decoded l) ∧ Below w.heap.size w w' := by
  have hl := hb.len
  by_cases hn : n = 1024
  · subst hn
    by_cases hs : l.drop 1020 = sumBytes (Crc.crc (l.take 1020))
    · have hd : l = sealed (l.take 1020) := by
        unfold sealed
        rw [← hs, List.take_append_drop]
      have e : decoded l = pageOf (l.take 1020) := by
        unfold decoded
        rw [if_neg (by rw [hl]; simp), if_pos hs]
      rw [e]
      rw [hd] at hb
      exact decode_form A c (l.take 1020) w hT hb (by simp [hl]) hc hm
    · have e : decoded l = ⟨0, 0, 0, [], 29⟩ := by
        unfold decoded
        rw [if_neg (by rw [hl]; simp), if_neg hs]
      rw [e]
      exact (decode_sum A c l w hT hb hc hm hs).mono fun e w' ⟨h1, h2⟩ => ⟨noPg, h1, noReads _ _, h2⟩
  · have e : decoded l = ⟨0, 0, 0, [], 15⟩ := by
      unfold decoded
      rw [if_pos (by rw [hl]; exact hn)]
    rw [e]
    exact (decode_short A n c w hn).mono fun e w' ⟨h1, h2⟩ => ⟨noPg, h1, noReads _ _, h2⟩
theorem refDec_any (A : Option Addr) (n c : Nat) (l : List UInt8) (w : World) (hb : RB w A n l) (hc : n ≤ c) (hm : c ≤ 9223372036854775807) :
    Calls Tryd.prog 55 #[.slice A n c] w fun e w' => ∃ p : Pg, e = .returned (.tuple #[p.v, .int .i64 (decoded l).err]) ∧ Reads w' p (decoded l) ∧ Below w.heap.size w w' := by
  have hl := hb.len
  by_cases hn : n = 1024
  · subst hn
    exact refDec_long A c l w hb hc hm
  · have e : decoded l = ⟨0, 0, 0, [], 15⟩ := by
      unfold decoded
      rw [if_pos (by rw [hl]; exact hn)]
    rw [e]
    exact (refDec_short A n c w hn).mono fun e w' ⟨h1, h2⟩ => ⟨noPg, h1, noReads _ _, h2⟩
theorem Reads.below {w w' : World} {p : Pg} {d : Dec} (h : Reads w p d) (hb : Below w.heap.size w w') : Reads w' p d := ⟨h.ok.below hb, h.id, h.stamp, h.kind, h.body⟩
theorem err_lim (l : List UInt8) : 0 ≤ (decoded l).err ∧ (decoded l).err ≤ 29 := by
  have h : ∀ d, 0 ≤ (pageOf d).err ∧ (pageOf d).err ≤ 29 := fun d => by
    unfold pageOf
    dsimp only
    split
    · exact ⟨Int.le_refl _, (by decide : (0 : Int) ≤ 29)⟩
    · exact ⟨by decide, by decide⟩
  unfold decoded
  split
  · exact ⟨by decide, by decide⟩
  · split
    · exact h _
    · exact ⟨by decide, by decide⟩

end Go.Proofs.YtanglofabkbllaaDoor
