/- A row of bytes that is filled with one byte. -/
import Derived.Test.YtoandabafkdgjaaKit
namespace Go.Proofs.Ytoandabafkdgjaa.My
open Go.RowKit Go.Proofs.YtoandabafkdgjaaW.PrintWords Go.Proofs.YtoandabafkdgjaaW.PrintLast
def fillI (c : Int) (k i : Nat) : List Int := List.replicate i c ++ List.replicate (k - i) 0
theorem fillI_len (c : Int) {k i : Nat} (h : i ≤ k) : (fillI c k i).length = k := by simp [fillI]; omega
theorem fillI_set (c : Int) {k i : Nat} (h : i < k) : (fillI c k i).set i c = fillI c k (i + 1) := by
  unfold fillI
  rw [List.set_append_right _ _ (by simp)]
  simp only [List.length_replicate, Nat.sub_self]
  rw [show k - i = (k - (i + 1)) + 1 by omega, List.replicate_succ, List.set_cons_zero, List.replicate_succ', List.append_assoc]
  rfl
end Go.Proofs.Ytoandabafkdgjaa.My
