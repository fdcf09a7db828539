/- Plain laws: what prim makes is taken as it was: numbers, texts, fixed numbers. -/
import Derived.Test.YtoandabafkdgjaaCurF
import Derived.Test.YtoandabafkdgjaaRef01
namespace Go.Proofs.Ytoandabafkdgjaa.My
open Go.RowKit Go.Proofs.YtoandabafkdgjaaW.PrintWords Go.Proofs.YtoandabafkdgjaaW.PrintLast Go.Proofs.Ytoandabafkdgjaa.Pm

/-- A string's bytes. -/
abbrev bl (s : ByteArray) : List UInt8 := s.data.toList
theorem bl_ext {s t : ByteArray} (h : bl s = bl t) : s = t := by
  cases s; cases t
  simp only [bl] at h
  congr 1
  exact Array.ext' h
theorem bl_append (s t : ByteArray) : bl (s ++ t) = bl s ++ bl t := by simp [bl, ByteArray.data_append]
theorem bl_length (s : ByteArray) : (bl s).length = s.size := Array.length_toList
theorem bl_extract (s : ByteArray) (a b : Nat) : bl (s.extract a b) = ((bl s).take b).drop a := by
  simp [bl, ByteArray.data_extract, List.drop_take, Array.toList_extract, List.extract_eq_take_drop]
theorem bl_empty : bl ⟨#[]⟩ = [] := rfl
theorem bl_nums (l : List Int) : bl (strOfNums l) = l.map (fun n => UInt8.ofNat n.toNat) := by simp [bl, strOfNums]
theorem drop_app (s t : ByteArray) (n : Nat) (h : n = s.size) : (s ++ t).extract n (s ++ t).size = t := by
  subst h
  apply bl_ext
  rw [bl_extract, bl_append, List.take_of_length_le (by rw [← bl_append, bl_length]; exact Nat.le_refl _), ← bl_length s, List.drop_left]
theorem take_app (s t : ByteArray) (n : Nat) (h : n = s.size) : (s ++ t).extract 0 n = s := by
  subst h
  apply bl_ext
  rw [bl_extract, bl_append, ← bl_length s, List.take_left]
  rfl

/-- A number's bytes, as bytes. -/
def ub (n : Nat) : List UInt8 := (uv n).map (fun n => UInt8.ofNat n.toNat)
theorem bl_uvS (n : Nat) : bl (uvS n) = ub n := bl_nums _
theorem ub_small {n : Nat} (h : n < 128) : ub n = [UInt8.ofNat n] := by unfold ub; rw [uv_small h]; rfl
theorem ub_big {n : Nat} (h : ¬ n < 128) : ub n = UInt8.ofNat (n % 128 + 128) :: ub (n / 128) := by unfold ub; rw [uv_big h]; rfl
theorem ub_length (n : Nat) : (ub n).length = (uv n).length := by simp [ub]
theorem toNat_ofNat8 {n : Nat} (h : n < 256) : (UInt8.ofNat n).toNat = n := by simp; omega

theorem take_ub (n : Nat) : ∀ (i acc : Nat) (r : List UInt8), i ≤ 9 → n * 2 ^ (7 * i) < 18446744073709551616 → (0 < i → 0 < n) →
    takeU i acc (ub n ++ r) = some (acc + n * 2 ^ (7 * i), i + (ub n).length) := by
  induction n using Nat.strongRecOn with
  | ind n ih =>
    intro i acc r hi hb hz
    have h9 : i = 9 → n < 2 := by
      rintro rfl
      omega
    by_cases h : n < 128
    · rw [ub_small h]
      have e := toNat_ofNat8 (show n < 256 by omega)
      have hb0 : ¬ (0 < i ∧ UInt8.ofNat n = 0) := by
        rintro ⟨h1, h2⟩
        rw [h2] at e
        have := hz h1
        simp at e
        omega
      show takeU i acc (UInt8.ofNat n :: r) = _
      rw [takeU, e, if_neg (by
        rintro (h | h | h)
        · have := h9 h.1; omega
        · omega
        · exact hb0 h), if_pos h, Nat.mod_eq_of_lt h]
      rfl
    · rw [ub_big h]
      have e := toNat_ofNat8 (show n % 128 + 128 < 256 by omega)
      have hb0 : ¬ (0 < i ∧ UInt8.ofNat (n % 128 + 128) = 0) := by
        rintro ⟨h1, h2⟩
        rw [h2] at e
        simp at e
      show takeU i acc (UInt8.ofNat (n % 128 + 128) :: (ub (n / 128) ++ r)) = _
      have hi9 : i ≠ 9 := fun hi => by have := h9 hi; omega
      rw [takeU, e, if_neg (by
        rintro (h | h | h)
        · exact hi9 h.1
        · omega
        · exact hb0 h), if_neg (by omega), show (n % 128 + 128) % 128 = n % 128 from by omega]
      have hp : 2 ^ (7 * (i + 1)) = 128 * 2 ^ (7 * i) := by rw [show 7 * (i + 1) = 7 * i + 7 from by omega, Nat.pow_add, Nat.mul_comm]
      have hm : n % 128 * 2 ^ (7 * i) + n / 128 * (128 * 2 ^ (7 * i)) = n * 2 ^ (7 * i) := by
        rw [← Nat.mul_assoc, ← Nat.add_mul, show n % 128 + n / 128 * 128 = n from by omega]
      rw [ih (n / 128) (by omega) (i + 1) _ r (by omega) (by rw [hp]; omega) (by omega), hp, List.length_cons]
      simp only [Option.some.injEq, Prod.mk.injEq]
      omega
theorem curUint_ub (n : Nat) (s : ByteArray) (h : n < 18446744073709551616) : curUint (uvS n ++ s) false = (n, s, false) := by
  unfold curUint
  have e : (uvS n ++ s).data.toList = ub n ++ bl s := by rw [← bl_uvS]; exact bl_append _ _
  rw [e, take_ub n 0 0 (bl s) (by omega) (by omega) (by omega), if_neg (by simp)]
  simp only [Nat.zero_add, Nat.mul_zero, Nat.pow_zero, Nat.mul_one]
  rw [drop_app _ _ _ (by rw [ub_length, uvS_size])]
theorem curBytes_app (s t : ByteArray) (n : Int) (h : n = s.size) : curBytes (s ++ t) false n = (s, t, false) := by
  subst h
  unfold curBytes
  rw [if_neg (by rw [ByteArray.size_append]; simp; omega), Int.toNat_natCast, drop_app _ _ _ rfl, take_app _ _ _ rfl]
theorem curText_app (s t : ByteArray) (h : s.size < 18446744073709551616) : curText (textS s ++ t) false = (s, t, false) := by
  unfold curText textS
  rw [ByteArray.append_assoc, curUint_ub _ _ h]
  simp only
  rw [if_neg (by rw [ByteArray.size_append]; omega), if_neg (by simp), curBytes_app s t _ rfl]

theorem fixedTo_little (a : Int) (size i : Nat) (h : i ≤ size) : fixedTo a size false i = (List.range i).map (fun j => a / 2 ^ (8 * j) % 256) ++ List.replicate (size - i) 0 := by
  induction i with
  | zero => simp [fixedTo]
  | succ i ih =>
    rw [fixedTo, ih (by omega), List.range_succ, List.map_append]
    simp only [Bool.false_eq_true, if_false]
    rw [List.set_append_right _ _ (by simp)]
    simp only [List.length_map, List.length_range, Nat.sub_self, List.append_assoc, List.map_cons, List.map_nil, List.singleton_append]
    congr 1
    rw [show size - i = (size - (i + 1)) + 1 from by omega, List.replicate_succ, List.set_cons_zero]
theorem fixedTo_big (a : Int) (size i : Nat) (h : i ≤ size) : fixedTo a size true i = List.replicate (size - i) 0 ++ ((List.range i).map (fun j => a / 2 ^ (8 * j) % 256)).reverse := by
  induction i with
  | zero => simp [fixedTo]
  | succ i ih =>
    rw [fixedTo, ih (by omega), List.range_succ, List.map_append, List.reverse_append]
    simp only [if_true, List.map_cons, List.map_nil, List.reverse_cons, List.reverse_nil, List.nil_append, List.singleton_append]
    rw [List.set_append_left _ _ (by simp; omega), show size - i = (size - (i + 1)) + 1 from by omega, List.replicate_succ']
    rw [List.set_append_right _ _ (by simp; omega)]
    simp only [List.length_replicate, List.append_assoc]
    rw [show size - 1 - i - (size - (i + 1)) = 0 from by omega, List.set_cons_zero]
    rfl
/-- The lowest bytes, the highest of them first. -/
def be (n : Nat) : Nat → List UInt8
  | 0 => []
  | k + 1 => UInt8.ofNat (n / 256 ^ k % 256) :: be n k
theorem be_length (n k : Nat) : (be n k).length = k := by induction k with | zero => rfl | succ k ih => simp [be, ih]
theorem be_map (n k : Nat) : (((List.range k).map (fun j => (n : Int) / 2 ^ (8 * j) % 256)).reverse).map (fun n => UInt8.ofNat n.toNat) = be n k := by
  induction k with
  | zero => rfl
  | succ k ih =>
    rw [List.range_succ, List.map_append, List.reverse_append, List.map_append, ih]
    have e : (n : Int) / 2 ^ (8 * k) = ((n / 256 ^ k : Nat) : Int) := by
      rw [show (2 : Int) ^ (8 * k) = ((256 ^ k : Nat) : Int) from by rw [Int.pow_mul]; simp]
      exact (Int.natCast_ediv _ _).symm
    simp only [List.map_cons, List.map_nil, List.reverse_cons, List.reverse_nil, List.nil_append, e, be, List.singleton_append]
    congr 2
theorem foldBE_cons (l : List UInt8) : ∀ a : Nat, l.foldl (fun n b => n * 256 + b.toNat) a = a * 256 ^ l.length + valBE l := by
  induction l with
  | nil => intro a; simp [valBE]
  | cons b l ih =>
    intro a
    have h : valBE (b :: l) = b.toNat * 256 ^ l.length + valBE l := by
      show List.foldl (fun n b => n * 256 + b.toNat) 0 (b :: l) = _
      rw [List.foldl_cons, Nat.zero_mul, Nat.zero_add, ih]
    rw [List.foldl_cons, ih, h, List.length_cons, Nat.pow_succ]
    rw [Nat.add_mul, Nat.mul_assoc, Nat.mul_comm 256, Nat.add_assoc]
theorem valBE_be (n k : Nat) : valBE (be n k) = n % 256 ^ k := by
  induction k with
  | zero => simp [be, valBE, Nat.mod_one]
  | succ k ih =>
    rw [be, valBE, List.foldl_cons, foldBE_cons, ih, be_length, Nat.zero_mul, Nat.zero_add, toNat_ofNat8 (Nat.mod_lt _ (by omega)), Nat.mod_pow_succ, Nat.mul_comm, Nat.add_comm]
theorem bl_fixed (n size : Nat) (big : Bool) (h1 : 1 ≤ size) (h8 : size ≤ 8) : bl (fixedS n size big) = if big then be n size else (be n size).reverse := by
  unfold fixedS
  rw [if_neg (by omega), bl_nums, Int.toNat_natCast, ← be_map]
  cases big
  · rw [fixedTo_little _ _ _ (Nat.le_refl _)]
    simp
  · rw [fixedTo_big _ _ _ (Nat.le_refl _)]
    simp
theorem ordered_fixed (n size : Nat) (big : Bool) (h1 : 1 ≤ size) (h8 : size ≤ 8) : ordered (fixedS n size big) big = be n size := by
  have h := bl_fixed n size big h1 h8
  unfold ordered
  cases big
  · simp only [Bool.false_eq_true, if_false] at h ⊢
    rw [show (fixedS n size false).data.toList = (be n size).reverse from h, List.reverse_reverse]
  · simp only [if_true] at h ⊢
    exact h
theorem fixedS_size (n size : Nat) (big : Bool) (h1 : 1 ≤ size) (h8 : size ≤ 8) : (fixedS n size big).size = size := by
  rw [← bl_length, bl_fixed n size big h1 h8]
  cases big <;> simp [be_length]
theorem curFixed_app (n size : Nat) (big : Bool) (t : ByteArray) (h1 : 1 ≤ size) (h8 : size ≤ 8) : curFixed (fixedS n size big ++ t) false size big = (n % 256 ^ size, t, false) := by
  unfold curFixed
  rw [if_neg (by omega), curBytes_app _ _ _ (by rw [fixedS_size n size big h1 h8])]
  simp only
  rw [ordered_fixed n size big h1 h8, valBE_be]
end Go.Proofs.Ytoandabafkdgjaa.My
