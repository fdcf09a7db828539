/- isoglossref02: steps and sums bit by bit; they are crc's. -/
import Derived.Test.YtoandabafkdgjaaCrcM
namespace Go.Proofs.Ytoandabafkdgjaa.My
open Go.RowKit Go.Proofs.YtoandabafkdgjaaW.PrintWords Go.Proofs.YtoandabafkdgjaaW.PrintLast Go.Proofs.Ytoandabafkdgjaa.Pm

theorem rstep_odd (c : Nat) (h : c < 18446744073709551616) (ho : c % 2 = 1) : Go.bits .xor .u64 ((c : Int) / 2) 2197175160 = (step c : Int) := by
  have := u64_xor_nat (c / 2) 2197175160 (by omega) (by omega)
  rw [show ((c : Int) / 2) = ((c / 2 : Nat) : Int) from by omega]
  unfold step
  rw [if_pos ho]
  exact this
theorem rstep_even (c : Nat) (ho : ¬ c % 2 = 1) : step c = c / 2 := by unfold step; rw [if_neg ho, Nat.xor_zero]
set_option maxHeartbeats 1000000 in
theorem rsteps_any (c : Nat) (w : World) (h : c < 4294967296) :
    Calls Try.prog 49 #[.int .u64 c, .int .i64 8] w fun e w' => e = .returned (.int .u64 (steps 8 c)) ∧ w = w' := by
  go_enter Try.func49, Try.ntmps49
  go_wp2
  go_loop [0, 5] (fun v0 v5 => ∃ k : Nat, v5 = .int .i64 k ∧ k ≤ 8 ∧ v0 = .int .u64 (steps k c)) (fun _ v5 => 8 - (intOf v5).toNat)
  case atStart => exact ⟨0, rfl, by omega, rfl⟩
  case round =>
    obtain ⟨k, rfl, hk, rfl⟩ := hrel
    by_cases hk8 : k < 8
    · have hs := steps_lt k h
      have hss := steps_succ k c
      have HS := Lib.hid hss; clear hss
      generalize steps k c = m at *
      by_cases ho : m % 2 = 1
      · have q := rstep_odd m (by omega) ho
        have b : ((m : Int) % 2 == 1) = true := by simp; omega
        clear ho
        generalize hst : step m = m' at *
        have HT := Lib.hid hst; clear hst
        go_wp2
        go_round
        case rel => exact ⟨k + 1, by go_num, by omega, by rw [HS.out]⟩
        case measure => simp [intOf]; omega
      · have q := rstep_even m ho
        have b : ((m : Int) % 2 == 1) = false := by simp; omega
        clear ho
        have HQ := Lib.hid q; clear q
        go_wp2
        go_round
        case rel => exact ⟨k + 1, by go_num, by omega, by rw [HS.out, HQ.out]; go_num⟩
        case measure => simp [intOf]; omega
    · obtain rfl : k = 8 := by omega
      go_wp2
      go_ret
      exact ⟨rfl, rfl⟩

theorem step_xor (a b : Nat) : step (a ^^^ b) = step a ^^^ step b := by
  unfold step
  rw [Nat.xor_div_two]
  have h : (a ^^^ b) % 2 = 1 ↔ ¬ (a % 2 = 1 ↔ b % 2 = 1) := Nat.xor_mod_two_eq_one
  by_cases ha : a % 2 = 1
  · by_cases hb : b % 2 = 1
    · rw [if_neg (by rw [h]; simp [ha, hb]), if_pos ha, if_pos hb, Nat.xor_zero]
      rw [Nat.xor_assoc (a / 2), Nat.xor_comm 2197175160, Nat.xor_assoc (b / 2), Nat.xor_self, Nat.xor_zero]
    · rw [if_pos (by rw [h]; simp [ha, hb]), if_pos ha, if_neg hb, Nat.xor_zero, Nat.xor_assoc, Nat.xor_comm (b / 2), ← Nat.xor_assoc]
  · by_cases hb : b % 2 = 1
    · rw [if_pos (by rw [h]; simp [ha, hb]), if_neg ha, if_pos hb, Nat.xor_zero, Nat.xor_assoc]
    · rw [if_neg (by rw [h]; simp [ha, hb]), if_neg ha, if_neg hb, Nat.xor_zero, Nat.xor_zero, Nat.xor_zero]
theorem steps_xor (k a b : Nat) : steps k (a ^^^ b) = steps k a ^^^ steps k b := by
  induction k generalizing a b with
  | zero => rfl
  | succ k ih => rw [steps, step_xor, ih]; rfl
theorem step_even (m : Nat) : step (m * 2) = m := by
  unfold step
  rw [if_neg (by omega), Nat.xor_zero]
  omega
theorem steps_high (q : Nat) : steps 8 (q * 256) = q := by
  rw [show q * 256 = q * 128 * 2 from by omega, steps, step_even, show q * 128 = q * 64 * 2 from by omega, steps, step_even, show q * 64 = q * 32 * 2 from by omega, steps, step_even,
    show q * 32 = q * 16 * 2 from by omega, steps, step_even, show q * 16 = q * 8 * 2 from by omega, steps, step_even, show q * 8 = q * 4 * 2 from by omega, steps, step_even,
    show q * 4 = q * 2 * 2 from by omega, steps, step_even, steps, step_even]
  rfl
theorem split_low (s : Nat) : (s % 256) ^^^ (s / 256 * 256) = s := by
  apply Nat.eq_of_testBit_eq
  intro i
  rw [Nat.testBit_xor, show (256 : Nat) = 2 ^ 8 from rfl, Nat.testBit_mod_two_pow, Nat.testBit_mul_two_pow, Nat.testBit_div_two_pow]
  by_cases h : i < 8
  · simp [h, show ¬ 8 ≤ i from by omega]
  · simp [h, show 8 ≤ i from by omega, show i - 8 + 8 = i from by omega]
theorem tabStep_steps (s : Nat) (b : UInt8) : tabStep s b = steps 8 (s ^^^ b.toNat) := by
  unfold tabStep
  have e : s ^^^ b.toNat = ((s % 256) ^^^ b.toNat) ^^^ (s / 256 * 256) := by
    rw [Nat.xor_assoc, Nat.xor_comm b.toNat, ← Nat.xor_assoc, split_low]
  rw [e, steps_xor _ (s % 256 ^^^ b.toNat), steps_high]

set_option maxHeartbeats 1000000 in
theorem rsum_any (b : ByteArray) (w : World) (hb : b.size ≤ 140737488355328) :
    Calls Try.prog 41 #[.string b] w fun e w' => e = .returned (.int .u32 (sumL b.data.toList)) ∧ w = w' := by
  go_enter Try.func41, Try.ntmps41
  go_wp2
  go_loop [3, 4] (fun v3 v4 => ∃ k : Nat, v4 = .int .i64 k ∧ k ≤ b.size ∧ v3 = .int .u64 (more 4294967295 (b.data.toList.take k))) (fun _ v4 => b.size - (intOf v4).toNat)
  case atStart => exact ⟨0, rfl, by omega, rfl⟩
  case round =>
    obtain ⟨k, rfl, hk, rfl⟩ := hrel
    have hml := more_lt (b.data.toList.take k) (show 4294967295 < 4294967296 by omega)
    by_cases hlt : k < b.size
    · have hsn : more 4294967295 (b.data.toList.take (k + 1)) = tabStep (more 4294967295 (b.data.toList.take k)) (b[k]) := by
        rw [List.take_succ_eq_append_getElem (by simpa using hlt), more_snoc]
        rfl
      generalize more 4294967295 (b.data.toList.take k) = m at *
      generalize hc : b[k] = c at *
      have hcc : ∀ h : k < b.size, b[k]'h = c := fun _ => hc
      clear hc
      have hw : IntKind.u64.wrap (c.toNat : Int) = (c.toNat : Int) := wrap_u64_nat (by have := c.toNat_lt; omega)
      have q := u64_xor_nat m c.toNat (by omega) (by have := c.toNat_lt; omega)
      have hx : m ^^^ c.toNat < 4294967296 := Nat.xor_lt_two_pow (n := 32) hml (by have := c.toNat_lt; omega)
      rw [tabStep_steps] at hsn
      generalize m ^^^ c.toNat = x at *
      have HS := Lib.hid hsn; clear hsn
      go_wp2_with fail
      refine (rsteps_any x _ hx).mono ?_
      rintro e wq1 ⟨rfl, rfl⟩
      go_wp2
      go_round
      case rel => exact ⟨k + 1, by go_num, by omega, by rw [HS.out]⟩
      case measure => simp [intOf]; omega
    · obtain rfl : k = b.size := by omega
      rw [List.take_of_length_le (by simp)] at hml ⊢
      have hs : 4294967295 - (more 4294967295 b.data.toList : Int) = (sumL b.data.toList : Int) := by unfold sumL ends; omega
      generalize more 4294967295 b.data.toList = m at *
      have hsl : sumL b.data.toList < 4294967296 := by omega
      generalize hq : sumL b.data.toList = q at *
      have HQ := Lib.hid hq; clear hq
      go_wp2
      go_ret
      rw [HQ.out]
      exact ⟨rfl, rfl⟩
end Go.Proofs.Ytoandabafkdgjaa.My
