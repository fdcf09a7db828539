/- isoglossref01: Uint, Fixed, Zig: the same bytes as prim's. -/
import Derived.Test.YtoandabafkdgjaaPrim
import Derived.Test.YtoandabafkdgjaaFixed
namespace Go.Proofs.Ytoandabafkdgjaa.My
open Go.RowKit Go.Proofs.YtoandabafkdgjaaW.PrintWords Go.Proofs.YtoandabafkdgjaaW.PrintLast Go.Proofs.Ytoandabafkdgjaa.Pm

theorem next_num {acc : List Int} {m n : Nat} (h : acc ++ uv m = uv n) (hm : ¬ m < 128) : acc ++ [(m : Int) % 128 + 128] ++ uv (m / 128) = uv n := by
  rw [← h, uv_big hm, List.append_assoc, show (m : Int) % 128 + 128 = ((m % 128 + 128 : Nat) : Int) from by omega]
  rfl
theorem rfixed_step {n size i : Nat} {big : Bool} : fixedTo n size big (i + 1) = (fixedTo n size big i).set (if big then size - 1 - i else i) ((n / 256 ^ i : Nat) % 256 : Int) := by
  have e : (n : Int) / 2 ^ (8 * i) = ((n / 256 ^ i : Nat) : Int) := by
    rw [show (2 : Int) ^ (8 * i) = ((256 ^ i : Nat) : Int) from by rw [Int.pow_mul]; simp]
    exact (Int.natCast_ediv _ _).symm
  rw [fixedTo, e]
set_option maxHeartbeats 1000000 in
theorem rfixed_any (n size : Nat) (big : Bool) (w : World) (hn : n < 18446744073709551616) (h0 : 1 ≤ size) (h8 : size ≤ 8) :
    Calls Try.prog 40 #[.int .u64 n, .int .i64 size, .bool big] w fun e w' => e = .returned (.string (strOfNums (fixedTo n size big size))) ∧ Below w.heap.size w w' := by
  go_enter Try.func40, Try.ntmps40
  go_wp2_with ((with_reducible refine gate_dst (N := 10) rfl ?_); refine Kd.R_make (Kd.int .u8) _ 5 rfl (N := 10) rfl 30 _ _ rfl size rfl rfl Try.underlying30 (.int .u8 0) 1 info_u8 rfl (by decide) (by omega) 0 (ok := fun _ => True) (okp := fun _ => True) rfl (fun _ hk => hk) trivial (by omega) (by omega) (Below.refl _ _) (Nat.le_refl _) ?_; intro v1 w1 hR hB hG hN; clear hG hN; obtain ⟨g, cap, HR, hg⟩ := make_form hR h0; have HB := Lib.hid hB; clear hR hB; obtain ⟨rfl, HR⟩ := HR)
  go_loopw [0, 8] (fun v0 v8 wr => ∃ i m : Nat, i ≤ size ∧ v0 = .int .u64 m ∧ n / 256 ^ i = m ∧ m < 18446744073709551616 ∧ v8 = .int .i64 i ∧ Kd.R (Kd.int .u8) 5 wr w.heap.size (fun _ => True) (.slice (some ⟨g, 0, none⟩) size cap) (fixedTo n size big i) ∧ Below w.heap.size w wr) (fun _ v8 _ => size - (intOf v8).toNat)
  case atStart => exact ⟨0, n, Nat.zero_le _, rfl, by simp, hn, rfl, HR.out, HB.out⟩
  case round =>
    obtain ⟨i, m, hi, rfl, hm, hmn, rfl, hR, hB⟩ := hrel
    have HM := Lib.hid hm; clear hm
    have HR := Lib.hid hR; clear hR
    have HB := Lib.hid hB; clear hB
    by_cases hlt : i < size
    · cases big with
      | true =>
        obtain ⟨hx, hf⟩ := Kd.R_celln 0 HR.out ((size - 1 - i : Nat) : Int) (by omega) (by omega)
        rw [Int.toNat_natCast] at hx hf
        go_wp2
        go_roundw
        case rel => exact ⟨i + 1, m / 256, by omega, by go_num, by rw [← HM.out, Nat.pow_succ, Nat.div_div_eq_div_mul], by omega, by go_num, by rw [rfixed_step, HM.out]; exact (Kd.R_putg HR.out ((size - 1 - i : Nat) : Int) _).1, HB.out.setCell hg _⟩
        case measure => simp [intOf]; omega
      | false =>
        obtain ⟨hx, hf⟩ := Kd.R_celln 0 HR.out (i : Int) (by omega) (by omega)
        rw [Int.toNat_natCast] at hx hf
        go_wp2
        go_roundw
        case rel => exact ⟨i + 1, m / 256, by omega, by go_num, by rw [← HM.out, Nat.pow_succ, Nat.div_div_eq_div_mul], by omega, by go_num, by rw [rfixed_step, HM.out]; exact (Kd.R_putg HR.out (i : Int) _).1, HB.out.setCell hg _⟩
        case measure => simp [intOf]; omega
    · have hl := fixedTo_length n size big i
      obtain rfl : i = size := by omega
      have hcv := own_string (P := Try.prog) Try.underlying30 Try.underlying5 Try.underlying9 (Kd.own_of_R HR.out)
      clear hl
      go_wp2
      go_ret
      exact ⟨rfl, HB.out⟩
end Go.Proofs.Ytoandabafkdgjaa.My
