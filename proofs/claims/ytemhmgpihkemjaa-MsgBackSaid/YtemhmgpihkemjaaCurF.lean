/- prim.Cursor: Fixed. -/
import Derived.Test.YtemhmgpihkemjaaCurU
namespace Go.Proofs.Ytemhmgpihkemjaa.My
open Go.RowKit Go.Proofs.YtemhmgpihkemjaaW.PrintWords Go.Proofs.YtemhmgpihkemjaaW.PrintLast Go.Proofs.Ytemhmgpihkemjaa.Pm

theorem valBE_snoc (l : List UInt8) (b : UInt8) : valBE (l ++ [b]) = valBE l * 256 + b.toNat := by simp [valBE]
theorem foldBE_lt (l : List UInt8) : ∀ a : Nat, l.foldl (fun n b => n * 256 + b.toNat) a < (a + 1) * 256 ^ l.length := by
  induction l with
  | nil => intro a; simp
  | cons b l ih =>
    intro a
    rw [List.foldl_cons, List.length_cons, Nat.pow_succ]
    have h1 := ih (a * 256 + b.toNat)
    have h2 := b.toNat_lt
    have h3 : (a * 256 + b.toNat + 1) * 256 ^ l.length ≤ (a + 1) * 256 * 256 ^ l.length := Nat.mul_le_mul_right _ (by omega)
    have h4 : (a + 1) * 256 * 256 ^ l.length = (a + 1) * (256 ^ l.length * 256) := by rw [Nat.mul_assoc, Nat.mul_comm 256]
    omega
theorem valBE_lt (l : List UInt8) : valBE l < 256 ^ l.length := by have := foldBE_lt l 0; unfold valBE; simpa using this
def ordered (s : ByteArray) (big : Bool) : List UInt8 := if big then s.data.toList else s.data.toList.reverse
theorem ordered_length (s : ByteArray) (big : Bool) : (ordered s big).length = s.size := by unfold ordered; split <;> simp
theorem or_byte (n : Nat) (b : UInt8) (hn : n * 256 < 18446744073709551616) : Go.bits .or .u64 ((n : Int) * 256) (b.toNat : Int) = ((n * 256 + b.toNat : Nat) : Int) := by
  have hb := b.toNat_lt
  have h := u64_or_nat (n * 256) b.toNat hn (by omega)
  have := Nat.shiftLeft_add_eq_or_of_lt (show b.toNat < 2 ^ 8 from hb) n
  rw [Nat.shiftLeft_eq] at this
  rw [← this] at h
  rw [← h]
  simp
/-- Fixed: the number, what is left, is it bad? -/
def curFixed (s : ByteArray) (bad : Bool) (size : Int) (big : Bool) : Nat × ByteArray × Bool :=
  if size < 1 ∨ 8 < size then (0, s, true) else (valBE (ordered (curBytes s bad size).1 big), (curBytes s bad size).2.1, (curBytes s bad size).2.2)
theorem curBytes_size (s : ByteArray) (bad : Bool) (n : Int) : (curBytes s bad n).1.size ≤ n.toNat := by
  unfold curBytes
  split
  · exact Nat.zero_le _
  · simp; omega

end Go.Proofs.Ytemhmgpihkemjaa.My
