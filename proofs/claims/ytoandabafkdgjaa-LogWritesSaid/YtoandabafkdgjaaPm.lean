/- Plain lemmas on numbers, bytes and bits that the proofs of this seat share. -/
import Derived.Laws.BitsAllLaws
import Derived.Laws.Bits64
import Derived.Laws.BytesArg
import Derived.PlainAid
import Derived.IntWalk
import Derived.Test.YtoandabafkdgjaaWWords
import Derived.Test.YtoandabafkdgjaaWLast
namespace Go.Proofs.Ytoandabafkdgjaa.Pm
open Go.RowKit Go.Proofs.YtoandabafkdgjaaW.PrintWords Go.Proofs.YtoandabafkdgjaaW.PrintLast

theorem wf_u64 {x : Int} (h : (Lit.int .u64 x).wf = true) : 0 ≤ x ∧ x < 18446744073709551616 := by
  simp [Lit.wf, IntKind.min, IntKind.max, IntKind.bits, IntKind.signed] at h
  omega

theorem wf_u8 {x : Int} (h : (Lit.int .u8 x).wf = true) : 0 ≤ x ∧ x < 256 := by
  simp [Lit.wf, IntKind.min, IntKind.max, IntKind.bits, IntKind.signed] at h
  omega
theorem wf_u16 {x : Int} (h : (Lit.int .u16 x).wf = true) : 0 ≤ x ∧ x < 65536 := by
  simp [Lit.wf, IntKind.min, IntKind.max, IntKind.bits, IntKind.signed] at h
  omega
theorem wf_u32 {x : Int} (h : (Lit.int .u32 x).wf = true) : 0 ≤ x ∧ x < 4294967296 := by
  simp [Lit.wf, IntKind.min, IntKind.max, IntKind.bits, IntKind.signed] at h
  omega
theorem wf_i64 {x : Int} (h : (Lit.int .i64 x).wf = true) : -9223372036854775808 ≤ x ∧ x ≤ 9223372036854775807 := by
  simp [Lit.wf, IntKind.min, IntKind.max, IntKind.bits, IntKind.signed] at h
  omega

theorem wrap64_id {x : Int} (h0 : -9223372036854775808 ≤ x) (h1 : x ≤ 9223372036854775807) : wrap64 x = x := IntWalk.wrap64_in x ⟨h0, h1⟩

/-- The bytes of a number, seven bits each. -/
def uv (n : Nat) : List Int := if h : n < 128 then [(n : Int)] else ((n % 128 + 128 : Nat) : Int) :: uv (n / 128)
decreasing_by omega
theorem uv_small {n : Nat} (h : n < 128) : uv n = [(n : Int)] := by rw [uv]; exact dif_pos h
theorem uv_big {n : Nat} (h : ¬ n < 128) : uv n = ((n % 128 + 128 : Nat) : Int) :: uv (n / 128) := by rw [uv]; exact dif_neg h

theorem or128_nat : ∀ n : Nat, n < 256 → n ||| 128 = n % 128 + 128 := by decide +kernel
theorem or128 (x : Nat) : Go.bits .or .u8 ((x : Int) % 256) 128 = ((x % 128 + 128 : Nat) : Int) := by
  have h := u8_or_nat (x % 256) 128 (by omega) (by omega)
  rw [or128_nat (x % 256) (by omega)] at h
  rw [show ((x : Int) % 256) = ((x % 256 : Nat) : Int) from by omega]
  rw [show x % 256 % 128 = x % 128 from by omega] at h
  exact h

theorem wrap_u64_nat {x : Nat} (h : x < 18446744073709551616) : IntKind.u64.wrap (x : Int) = (x : Int) := IntWalk.u64_in _ (by omega)
theorem and127_nat : ∀ n : Nat, n < 256 → n &&& 127 = n % 128 := by decide +kernel
theorem and127 (b : UInt8) : Go.bits .and .u8 (b.toNat : Int) 127 = ((b.toNat % 128 : Nat) : Int) := by
  have h := u8_and_nat b.toNat 127 b.toNat_lt (by omega)
  rw [and127_nat b.toNat b.toNat_lt] at h
  exact h
theorem and128_nat : ∀ n : Nat, n < 256 → n &&& 128 = (if n < 128 then 0 else 128) := by decide +kernel
theorem and128 (b : UInt8) : Go.bits .and .u8 (b.toNat : Int) 128 = ((if b.toNat < 128 then 0 else 128 : Nat) : Int) := by
  have h := u8_and_nat b.toNat 128 b.toNat_lt (by omega)
  rw [and128_nat b.toNat b.toNat_lt] at h
  exact h
/-- An 'or' of what lies below 2^k with what lies above. -/
theorem or_add {n k l : Nat} (hn : n < 2 ^ k) (hb : l * 2 ^ k < 18446744073709551616) (hn' : n < 18446744073709551616) : Go.bits .or .u64 (n : Int) ((l * 2 ^ k : Nat) : Int) = ((n + l * 2 ^ k : Nat) : Int) := by
  rw [u64_or_nat n (l * 2 ^ k) hn' hb]
  have := Nat.shiftLeft_add_eq_or_of_lt hn l
  rw [Nat.shiftLeft_eq] at this
  rw [Nat.or_comm, ← this, Nat.add_comm]
/-- What a number's bytes tell: the number, and how many bytes it has. -/
def takeU : Nat → Nat → List UInt8 → Option (Nat × Nat)
  | _, _, [] => none
  | i, n, b :: r => if (i = 9 ∧ 1 < b.toNat % 128) ∨ 9 < i ∨ (0 < i ∧ b = 0) then none else if b.toNat < 128 then some (n + b.toNat % 128 * 2 ^ (7 * i), i + 1) else takeU (i + 1) (n + b.toNat % 128 * 2 ^ (7 * i)) r
/-- Uint: the number, what is left, is it bad? -/
def curUint (s : ByteArray) (bad : Bool) : Nat × ByteArray × Bool := if bad then (0, s, true) else match takeU 0 0 s.data.toList with
  | some (n, k) => (n, s.extract k s.size, false)
  | none => (0, s, true)
end Go.Proofs.Ytoandabafkdgjaa.Pm
