/- The empty string, as the language's comparison sees it. -/
import Derived.Test.YtoandabafkdgjaaKit
namespace Go.Proofs.Ytoandabafkdgjaa.My
theorem str_l (s : ByteArray) : ∀ (k i : Nat) (r : List UInt8), s.size - i = k → (ByteArray.toList.loop s i r).length = k + r.length := by
  intro k
  induction k with
  | zero => intro i r h; unfold ByteArray.toList.loop; rw [if_neg (by omega)]; simp
  | succ k ih => intro i r h; unfold ByteArray.toList.loop; rw [if_pos (by omega), ih (i + 1) _ (by omega)]; simp; omega
theorem str_e (s : ByteArray) : s.toList.isEmpty = decide (s.size = 0) := by
  have h := str_l s s.size 0 [] rfl
  change s.toList.length = _ at h
  cases hl : s.toList with
  | nil => rw [hl] at h; simp at h; simp [← h]
  | cons a l => rw [hl] at h; simp at h; exact (decide_eq_false (by omega)).symm
theorem str_nil (s : ByteArray) : s.toList = [] ↔ s.size = 0 := by
  have h := str_e s
  cases hl : s.toList with
  | nil => rw [hl] at h; simp at h; simp [h]
  | cons a l => rw [hl] at h; simp at h; simp [h]
theorem str_ne (s : ByteArray) : (!s.toList.isEmpty) = decide (s.size ≠ 0) := by rw [str_e]; simp
end Go.Proofs.Ytoandabafkdgjaa.My
