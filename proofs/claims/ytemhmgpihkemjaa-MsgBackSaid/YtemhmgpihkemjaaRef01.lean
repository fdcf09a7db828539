/- isoglossref01: Uint, Fixed, Zig: the same bytes as prim's. -/
import Derived.Test.YtemhmgpihkemjaaPrim
import Derived.Test.YtemhmgpihkemjaaFixed
namespace Go.Proofs.Ytemhmgpihkemjaa.My
open Go.RowKit Go.Proofs.YtemhmgpihkemjaaW.PrintWords Go.Proofs.YtemhmgpihkemjaaW.PrintLast Go.Proofs.Ytemhmgpihkemjaa.Pm

theorem next_num {acc : List Int} {m n : Nat} (h : acc ++ uv m = uv n) (hm : ¬ m < 128) : acc ++ [(m : Int) % 128 + 128] ++ uv (m / 128) = uv n := by
  rw [← h, uv_big hm, List.append_assoc, show (m : Int) % 128 + 128 = ((m % 128 + 128 : Nat) : Int) from by omega]
  rfl
set_option maxHeartbeats 1000000 in
theorem ruint_any (n : Nat) (w : World) (hn : n < 18446744073709551616) :
    Calls Try.prog 23 #[.int .u64 n] w fun e w' => e = .returned (.string (uvS n)) ∧ Below w.heap.size w w' := by
  have hl0 := uv_len10 hn
  go_enter Try.func23, Try.ntmps23
  go_wp2
  go_loopw [0, 3] (fun v0 v3 wr => ∃ (m : Nat) (acc : List Int), v0 = .int .u64 m ∧ m < 18446744073709551616 ∧ acc ++ uv m = uv n ∧ Kd.R (Kd.int .u8) 5 wr w.heap.size (fun _ => True) v3 acc ∧ Below w.heap.size w wr) (fun v0 _ _ => (intOf v0).toNat)
  case atStart => exact ⟨n, [], rfl, hn, rfl, Kd.R_nil _ _ _ _ _, Below.refl _ _⟩
  case round =>
    obtain ⟨m, acc, rfl, hm, he, hr, hb⟩ := hrel
    have HE := Lib.hid he; clear he
    have HR := Lib.hid hr; clear hr
    have HB := Lib.hid hb; clear hb
    have hal : acc.length + 1 ≤ 140737488355328 := by
      have := congrArg List.length HE.out; rw [List.length_append] at this; omega
    by_cases hlt : m < 128
    · have c : decide (128 ≤ (m : Int)) = false := by simp; omega
      go_wp2_with (at_builtin; refine app_u8 (w0 := w) w.heap.size rfl (.tmp 15) (.tmp 18) _ acc _ rfl rfl rfl HR.out HB.out HB.out.size hal ?_; intro v1 w1 HR1 HB1; have hcv := own_string (P := Try.prog) Try.underlying53 Try.underlying5 Try.underlying9 (Kd.own_of_R HR1.out))
      go_ret
      exact ⟨ret_num HE.out hlt, HB1⟩
    · have c : decide (128 ≤ (m : Int)) = true := by simp; omega
      go_wp2_with (at_builtin; refine app_u8 (w0 := w) w.heap.size rfl (.tmp 6) (.tmp 11) _ acc _ rfl rfl rfl HR.out HB.out HB.out.size hal ?_; intro v1 w1 HR1 HB1)
      go_roundw
      case rel => exact ⟨m / 128, _, by go_num, by omega, next_num HE.out hlt, HR1, HB1⟩
      case measure => simp [intOf]; omega

theorem rfixed_step {n size i : Nat} {big : Bool} : fixedTo n size big (i + 1) = (fixedTo n size big i).set (if big then size - 1 - i else i) ((n / 256 ^ i : Nat) % 256 : Int) := by
  have e : (n : Int) / 2 ^ (8 * i) = ((n / 256 ^ i : Nat) : Int) := by
    rw [show (2 : Int) ^ (8 * i) = ((256 ^ i : Nat) : Int) from by rw [Int.pow_mul]; simp]
    exact (Int.natCast_ediv _ _).symm
  rw [fixedTo, e]
end Go.Proofs.Ytemhmgpihkemjaa.My
