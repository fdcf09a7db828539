/- prim.Fixed: the bytes of a number, low or high first. -/
import Derived.Test.YtemhmgpihkemjaaKit
import Derived.Test.YtemhmgpihkemjaaPm
namespace Go.Proofs.Ytemhmgpihkemjaa.My
open Go.RowKit Go.Proofs.YtemhmgpihkemjaaW.PrintWords Go.Proofs.YtemhmgpihkemjaaW.PrintLast

/-- What stands in the slice behind i rounds. -/
def fixedTo (a0 : Int) (size : Nat) (big : Bool) : Nat → List Int
  | 0 => List.replicate size 0
  | i + 1 => (fixedTo a0 size big i).set (if big then size - 1 - i else i) (a0 / 2 ^ (8 * i) % 256)
theorem fixedTo_length (a0 : Int) (size : Nat) (big : Bool) (i : Nat) : (fixedTo a0 size big i).length = size := by
  induction i with
  | zero => simp [fixedTo]
  | succ i ih => simp [fixedTo, ih]
def fixedS (a0 a1 : Int) (big : Bool) : ByteArray := if a1 < 1 ∨ 8 < a1 then ⟨#[]⟩ else strOfNums (fixedTo a0 a1.toNat big a1.toNat)

theorem shr_nat (a0 : Int) (i : Nat) (h : i < 8) : a0 / 2 ^ (min (8 * (i : Int)).toNat 64) = a0 / 2 ^ (8 * i) := by
  rw [show (8 * (i : Int)).toNat = 8 * i from by omega, Nat.min_eq_left (by omega)]

end Go.Proofs.Ytemhmgpihkemjaa.My
