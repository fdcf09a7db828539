/- prim.Cursor: Uint, Fixed, Text. -/
import Derived.Test.YtoandabafkdgjaaCur
namespace Go.Proofs.Ytoandabafkdgjaa.My
open Go.RowKit Go.Proofs.YtoandabafkdgjaaW.PrintWords Go.Proofs.YtoandabafkdgjaaW.PrintLast Go.Proofs.Ytoandabafkdgjaa.Pm

theorem byte_one (b : UInt8) (h : 0 < (⟨#[b]⟩ : ByteArray).size) : (((⟨#[b]⟩ : ByteArray)[0]'h).toNat : Int) = (b.toNat : Int) := rfl
theorem extract_first (s : ByteArray) (i : Nat) (h : i < s.size) : (s.extract i s.size).extract 0 (1 : Int).toNat = ⟨#[s[i]]⟩ := by
  apply ByteArray.ext
  have h' : i < s.data.size := h
  rw [ByteArray.data_extract, ByteArray.data_extract]
  apply Array.ext'
  rw [show (1 : Int).toNat = 1 from rfl, Array.extract_extract, Array.toList_extract]
  rw [List.extract_eq_take_drop, show min (i + 1) s.size - (i + 0) = 1 from by omega, Nat.add_zero, List.drop_eq_getElem_cons (by simpa using h')]
  simp
  rfl
theorem extract_rest (s : ByteArray) (i : Nat) (h : i < s.size) : (s.extract i s.size).extract (1 : Int).toNat (s.extract i s.size).size = s.extract (i + 1) s.size := by
  apply ByteArray.ext
  have h' : i < s.data.size := h
  have h2 : s.size = s.data.size := rfl
  rw [ByteArray.data_extract, ByteArray.data_extract, ByteArray.data_extract, ByteArray.size_extract]
  rw [show (1 : Int).toNat = 1 from rfl, Array.extract_extract, show min (i + (min s.size s.size - i)) s.size = s.size from by omega]
theorem curBytes_one (s : ByteArray) (i : Nat) (h : i < s.size) : curBytes (s.extract i s.size) false 1 = (⟨#[s[i]]⟩, s.extract (i + 1) s.size, false) := by
  unfold curBytes
  rw [if_neg (by simp; omega), extract_first s i h, extract_rest s i h]
theorem curBytes_none (s : ByteArray) (i : Nat) (h : s.size ≤ i) : curBytes (s.extract i s.size) false 1 = (⟨#[]⟩, s.extract i s.size, true) := by
  unfold curBytes
  rw [if_pos (by simp; omega)]
theorem drop_byte (s : ByteArray) (i : Nat) (h : i < s.size) : s.data.toList.drop i = s[i] :: s.data.toList.drop (i + 1) := List.drop_eq_getElem_cons (by simpa using h)

theorem uint_go {i n : Nat} {b : UInt8} (r : List UInt8) (h : ¬ ((i = 9 ∧ 1 < b.toNat % 128) ∨ 9 < i ∨ (0 < i ∧ b = 0))) :
    takeU i n (b :: r) = if b.toNat < 128 then some (n + b.toNat % 128 * 2 ^ (7 * i), i + 1) else takeU (i + 1) (n + b.toNat % 128 * 2 ^ (7 * i)) r := by
  rw [takeU, if_neg h]
theorem uint_go' {i n low m : Nat} {b : UInt8} (r : List UInt8) (hl : b.toNat % 128 = low) (hm : n + low * 2 ^ (7 * i) = m) (h : ¬ ((i = 9 ∧ 1 < low) ∨ 9 < i ∨ (0 < i ∧ b = 0))) :
    takeU i n (b :: r) = if b.toNat < 128 then some (m, i + 1) else takeU (i + 1) m r := by
  subst hl hm
  exact uint_go r h
theorem uint_lt {n low i : Nat} (hn : n < 2 ^ (7 * i)) (hl : low < 128) : n + low * 2 ^ (7 * i) < 2 ^ (7 * (i + 1)) := by
  rw [show 7 * (i + 1) = 7 * i + 7 from by omega, Nat.pow_add]
  have : low * 2 ^ (7 * i) ≤ 127 * 2 ^ (7 * i) := Nat.mul_le_mul_right _ (by omega)
  omega
theorem uint_fits {n low i : Nat} (hn : n < 2 ^ (7 * i)) (hl : low < 128) (hi : i ≤ 9) (h9 : ¬ (i = 9 ∧ 1 < low)) : n + low * 2 ^ (7 * i) < 18446744073709551616 := by
  by_cases e : i = 9
  · subst e
    have : low * 2 ^ (7 * 9) ≤ 1 * 2 ^ (7 * 9) := Nat.mul_le_mul_right _ (by omega)
    omega
  · have h1 := uint_lt hn hl
    have h2 : 2 ^ (7 * (i + 1)) ≤ 2 ^ 63 := Nat.pow_le_pow_right (by omega) (by omega)
    omega
theorem shl_low (low i : Nat) (h : low * 2 ^ (7 * i) < 18446744073709551616) : IntKind.u64.wrap ((low : Int) * 2 ^ (7 * i)) = ((low * 2 ^ (7 * i) : Nat) : Int) := by
  have e : (low : Int) * 2 ^ (7 * i) = ((low * 2 ^ (7 * i) : Nat) : Int) := by simp
  rw [e, wrap_u64_nat h]
theorem curUint_size (s : ByteArray) (bad : Bool) : (curUint s bad).2.1.size ≤ s.size := by
  unfold curUint
  split
  · simp
  · split
    · rw [ByteArray.size_extract]; simp
    · simp

/-- Text: the text, what is left, is it bad? -/
def curText (s : ByteArray) (bad : Bool) : ByteArray × ByteArray × Bool :=
  if (curUint s bad).2.1.size < (curUint s bad).1 then (⟨#[]⟩, s, true) else if (curUint s bad).2.2 then (⟨#[]⟩, (curUint s bad).2.1, true) else curBytes (curUint s bad).2.1 false (curUint s bad).1

end Go.Proofs.Ytoandabafkdgjaa.My
