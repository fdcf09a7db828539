/- prim: Uint, Zig, Zag, Text. -/
import Derived.Test.YtoandabafkdgjaaKit
import Derived.Test.YtoandabafkdgjaaPm
namespace Go.Proofs.Ytoandabafkdgjaa.My
open Go.RowKit Go.Proofs.YtoandabafkdgjaaW.PrintWords Go.Proofs.YtoandabafkdgjaaW.PrintLast Go.Proofs.Ytoandabafkdgjaa.Pm

/-- A number's bytes as a string. -/
def uvS (n : Nat) : ByteArray := strOfNums (uv n)
theorem uv_len (n : Nat) (d : Nat) : n < 128 ^ (d + 1) → (uv n).length ≤ d + 1 := by
  induction d generalizing n with
  | zero => intro h; rw [uv_small (by simpa using h)]; simp
  | succ d ih =>
    intro h
    by_cases hs : n < 128
    · rw [uv_small hs]; simp
    · rw [uv_big hs, List.length_cons]
      have := ih (n / 128) (by rw [Nat.pow_succ] at h; omega)
      omega
theorem uv_len10 {n : Nat} (h : n < 18446744073709551616) : (uv n).length ≤ 10 := uv_len n 9 (Nat.lt_of_lt_of_le h (by decide))
theorem uvS_size (n : Nat) : (uvS n).size = (uv n).length := by simp [uvS, strOfNums, ByteArray.size]

theorem ret_num {acc : List Int} {m n : Nat} (h : acc ++ uv m = uv n) (hm : m < 128) : Ending.returned (.string (strOfNums (acc ++ [(m : Int)]))) = Ending.returned (.string (uvS n)) := by
  rw [uv_small hm] at h
  rw [uvS, ← h]
/-- A text behind its length. -/
def textS (s : ByteArray) : ByteArray := uvS s.size ++ s
/-- zigzag, both ways -/
def zigI (n : Int) : Int := if 0 ≤ n then 2 * n else -2 * n - 1
def zagI (n : Int) : Int := if n % 2 = 0 then n / 2 else -(n / 2) - 1
theorem xor_ones (w x : Nat) (h : x < 2 ^ w) : x ^^^ (2 ^ w - 1) = 2 ^ w - 1 - x := by
  have := congrArg BitVec.toNat (BitVec.xor_allOnes (x := BitVec.ofNat w x))
  rw [BitVec.toNat_xor, BitVec.toNat_not, BitVec.toNat_ofNat, BitVec.toNat_allOnes, Nat.mod_eq_of_lt h] at this
  exact this
theorem xor0_u64 (x : Nat) (h : x < 18446744073709551616) : Go.bits .xor .u64 (x : Int) 0 = (x : Int) := by
  have := u64_xor_nat x 0 h (by omega)
  simpa using this
theorem xor1_u64 (x : Nat) (h : x < 18446744073709551616) : Go.bits .xor .u64 (x : Int) 18446744073709551615 = ((18446744073709551615 - x : Nat) : Int) := by
  have := u64_xor_nat x 18446744073709551615 h (by omega)
  rw [show x ^^^ 18446744073709551615 = 18446744073709551615 - x from xor_ones 64 x h] at this
  exact this
theorem zig_val (n : Int) (h0 : -9223372036854775808 ≤ n) (h1 : n ≤ 9223372036854775807) :
    Go.bits .xor .u64 (IntKind.u64.wrap ((IntKind.u64.wrap n) * 2)) (IntKind.u64.wrap (n / 9223372036854775808)) = zigI n := by
  unfold zigI
  simp only [IntKind.wrap_u64]
  by_cases h : 0 ≤ n
  · rw [if_pos h, show n % 18446744073709551616 * 2 % 18446744073709551616 = ((2 * n).toNat : Int) from by omega, show n / 9223372036854775808 % 18446744073709551616 = 0 from by omega, xor0_u64 _ (by omega)]
    omega
  · rw [if_neg h, show n % 18446744073709551616 * 2 % 18446744073709551616 = ((2 * n + 18446744073709551616).toNat : Int) from by omega, show n / 9223372036854775808 % 18446744073709551616 = 18446744073709551615 from by omega, xor1_u64 _ (by omega)]
    omega
theorem xor_i64 (x y : Int) : Go.bits .xor .i64 x y = IntKind.i64.wrap (((BitVec.ofInt 64 x) ^^^ (BitVec.ofInt 64 y)).toNat : Int) := rfl
theorem xor0_i64 (x : Int) (h0 : 0 ≤ x) (h1 : x ≤ 9223372036854775807) : Go.bits .xor .i64 x 0 = x := by
  rw [xor_i64, show BitVec.ofInt 64 0 = 0#64 from rfl, BitVec.xor_zero, BitVec.toNat_ofInt, IntKind.wrap_i64]
  omega
theorem xor1_i64 (x : Int) (h0 : 0 ≤ x) (h1 : x ≤ 9223372036854775807) : Go.bits .xor .i64 x (-1) = -x - 1 := by
  rw [xor_i64, show BitVec.ofInt 64 (-1) = BitVec.allOnes 64 from rfl, BitVec.xor_allOnes, BitVec.toNat_not, BitVec.toNat_ofInt, IntKind.wrap_i64]
  omega
theorem and1_u64 (n : Nat) (h : n < 18446744073709551616) : Go.bits .and .u64 (n : Int) 1 = ((n % 2 : Nat) : Int) := by
  have := u64_and_nat n 1 h (by omega)
  rw [Nat.and_one_is_mod] at this
  exact this
theorem zag_val (n : Nat) (h : n < 18446744073709551616) :
    Go.bits .xor .i64 (wrap64 ((n : Int) / 2)) (wrap64 (-(wrap64 (Go.bits .and .u64 (n : Int) 1)))) = zagI n := by
  rw [and1_u64 n h, wrap64_id (x := ((n % 2 : Nat) : Int)) (by omega) (by omega), wrap64_id (by omega) (by omega), wrap64_id (by omega) (by omega)]
  unfold zagI
  by_cases e : n % 2 = 0
  · rw [if_pos (by omega), show -((n % 2 : Nat) : Int) = 0 from by omega, xor0_i64 _ (by omega) (by omega)]
  · rw [if_neg (by omega), show -((n % 2 : Nat) : Int) = -1 from by omega, xor1_i64 _ (by omega) (by omega)]
end Go.Proofs.Ytoandabafkdgjaa.My
