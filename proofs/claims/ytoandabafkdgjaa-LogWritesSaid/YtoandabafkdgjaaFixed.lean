/- prim.Fixed: the bytes of a number, low or high first. -/
import Derived.Test.YtoandabafkdgjaaKit
import Derived.Test.YtoandabafkdgjaaPm
namespace Go.Proofs.Ytoandabafkdgjaa.My
open Go.RowKit Go.Proofs.YtoandabafkdgjaaW.PrintWords Go.Proofs.YtoandabafkdgjaaW.PrintLast

/-- What stands in the slice behind i rounds. -/
def fixedTo (a0 : Int) (size : Nat) (big : Bool) : Nat → List Int
  | 0 => List.replicate size 0
  | i + 1 => (fixedTo a0 size big i).set (if big then size - 1 - i else i) (a0 / 2 ^ (8 * i) % 256)
theorem fixedTo_length (a0 : Int) (size : Nat) (big : Bool) (i : Nat) : (fixedTo a0 size big i).length = size := by
  induction i with
  | zero => simp [fixedTo]
  | succ i ih => simp [fixedTo, ih]
def fixedS (a0 a1 : Int) (big : Bool) : ByteArray := if a1 < 1 ∨ 8 < a1 then ⟨#[]⟩ else strOfNums (fixedTo a0 a1.toNat big a1.toNat)

theorem fixed_bad (a0 a1 : Int) (a2 : Bool) (w : World) (h : a1 < 1 ∨ 8 < a1) :
    Calls Try.prog 47 #[.int .u64 a0, .int .i64 a1, .bool a2] w fun e w' => e = .returned (.string ⟨#[]⟩) ∧ Below w.heap.size w w' := by
  by_cases h1 : a1 < 1
  · have h1b : decide (a1 < 1) = true := by simp [h1]
    clear h
    go_enter Try.func47, Try.ntmps47
    go_wp2
    go_ret
    exact ⟨rfl, Below.refl _ _⟩
  · have h2 : 8 < a1 := by omega
    clear h
    go_enter Try.func47, Try.ntmps47
    go_wp2
    go_ret
    exact ⟨rfl, Below.refl _ _⟩
theorem shr_nat (a0 : Int) (i : Nat) (h : i < 8) : a0 / 2 ^ (min (8 * (i : Int)).toNat 64) = a0 / 2 ^ (8 * i) := by
  rw [show (8 * (i : Int)).toNat = 8 * i from by omega, Nat.min_eq_left (by omega)]

set_option maxHeartbeats 1000000 in
theorem fixed_good (a0 : Int) (size : Nat) (big : Bool) (w : World) (h0 : 1 ≤ size) (h8 : size ≤ 8) :
    Calls Try.prog 47 #[.int .u64 a0, .int .i64 size, .bool big] w fun e w' => e = .returned (.string (strOfNums (fixedTo a0 size big size))) ∧ Below w.heap.size w w' := by
  have b1 : decide ((size : Int) < 1) = false := by simp; omega
  have b8 : decide (8 < (size : Int)) = false := by simp; omega
  go_enter Try.func47, Try.ntmps47
  go_wp2_with ((with_reducible refine gate_dst (N := 17) rfl ?_); refine Kd.R_make (Kd.int .u8) _ 5 rfl (N := 17) rfl 30 _ _ rfl size rfl rfl Try.underlying30 (.int .u8 0) 1 info_u8 rfl (by decide) (by omega) 0 (ok := fun _ => True) (okp := fun _ => True) rfl (fun _ hk => hk) trivial (by omega) (by omega) (Below.refl _ _) (Nat.le_refl _) ?_; intro v1 w1 hR hB hG hN; clear hG hN; obtain ⟨g, cap, HR, hg⟩ := make_form hR h0; have HB := Lib.hid hB; clear hR hB; obtain ⟨rfl, HR⟩ := HR)
  go_loopw [20] (fun v20 wr => ∃ i : Nat, i ≤ size ∧ v20 = .int .i64 i ∧ Kd.R (Kd.int .u8) 5 wr w.heap.size (fun _ => True) (.slice (some ⟨g, 0, none⟩) size cap) (fixedTo a0 size big i) ∧ Below w.heap.size w wr) (fun v20 _ => size - (intOf v20).toNat)
  case atStart => exact ⟨0, Nat.zero_le _, rfl, HR.out, HB.out⟩
  case round =>
    obtain ⟨i, hi, rfl, hR, hB⟩ := hrel
    have HR := Lib.hid hR; clear hR
    have HB := Lib.hid hB; clear hB
    by_cases hlt : i < size
    · cases big with
      | true =>
        obtain ⟨hx, hf⟩ := Kd.R_celln 0 HR.out ((size - 1 - i : Nat) : Int) (by omega) (by omega)
        rw [Int.toNat_natCast] at hx hf
        go_wp2
        go_roundw
        case rel => exact ⟨i + 1, by omega, by go_num, (Kd.R_putg HR.out ((size - 1 - i : Nat) : Int) _).1, HB.out.setCell hg _⟩
        case measure => simp [intOf]; omega
      | false =>
        obtain ⟨hx, hf⟩ := Kd.R_celln 0 HR.out (i : Int) (by omega) (by omega)
        rw [Int.toNat_natCast] at hx hf
        go_wp2
        go_roundw
        case rel => exact ⟨i + 1, by omega, by go_num, (Kd.R_putg HR.out (i : Int) _).1, HB.out.setCell hg _⟩
        case measure => simp [intOf]; omega
    · have hl := fixedTo_length a0 size big i
      obtain rfl : i = size := by omega
      have hcv := own_string (P := Try.prog) Try.underlying30 Try.underlying5 Try.underlying9 (Kd.own_of_R HR.out)
      clear hl
      go_wp2
      go_ret
      exact ⟨rfl, HB.out⟩

theorem fixed_any (a0 a1 : Int) (a2 : Bool) (w : World) :
    Calls Try.prog 47 #[.int .u64 a0, .int .i64 a1, .bool a2] w fun e w' => e = .returned (.string (fixedS a0 a1 a2)) ∧ Below w.heap.size w w' := by
  unfold fixedS
  by_cases h : a1 < 1 ∨ 8 < a1
  · rw [if_pos h]; exact fixed_bad a0 a1 a2 w h
  · rw [if_neg h]
    obtain ⟨n, rfl⟩ := Int.eq_ofNat_of_zero_le (show 0 ≤ a1 by omega)
    exact fixed_good a0 n a2 w (by omega) (by omega)
end Go.Proofs.Ytoandabafkdgjaa.My
