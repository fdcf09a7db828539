/- prim: Uint, Zig, Zag, Text. -/
import Derived.Test.YtemhmgpihkemjaaKit
import Derived.Test.YtemhmgpihkemjaaPm
namespace Go.Proofs.Ytemhmgpihkemjaa.My
open Go.RowKit Go.Proofs.YtemhmgpihkemjaaW.PrintWords Go.Proofs.YtemhmgpihkemjaaW.PrintLast Go.Proofs.Ytemhmgpihkemjaa.Pm

/-- A number's bytes as a string. -/
def uvS (n : Nat) : ByteArray := strOfNums (uv n)
theorem uv_len (n : Nat) (d : Nat) : n < 128 ^ (d + 1) → (uv n).length ≤ d + 1 := by
  induction d generalizing n with
  | zero => intro h; rw [uv_small (by simpa using h)]; simp
  | succ d ih =>
    intro h
    by_cases hs : n < 128
    · rw [uv_small hs]; simp
    · rw [uv_big hs, List.length_cons]
      have := ih (n / 128) (by rw [Nat.pow_succ] at h; omega)
      omega
theorem uv_len10 {n : Nat} (h : n < 18446744073709551616) : (uv n).length ≤ 10 := uv_len n 9 (Nat.lt_of_lt_of_le h (by decide))
theorem uvS_size (n : Nat) : (uvS n).size = (uv n).length := by simp [uvS, strOfNums, ByteArray.size]

theorem ret_num {acc : List Int} {m n : Nat} (h : acc ++ uv m = uv n) (hm : m < 128) : Ending.returned (.string (strOfNums (acc ++ [(m : Int)]))) = Ending.returned (.string (uvS n)) := by
  rw [uv_small hm] at h
  rw [uvS, ← h]
set_option maxHeartbeats 1000000 in
theorem uint_any (n : Nat) (w : World) (hn : n < 18446744073709551616) :
    Calls Try.prog 34 #[.int .u64 n] w fun e w' => e = .returned (.string (uvS n)) ∧ Below w.heap.size w w' := by
  have hl0 := uv_len10 hn
  go_enter Try.func34, Try.ntmps34
  go_wp2
  go_loopw [0, 3] (fun v0 v3 wr => ∃ (m : Nat) (acc : List Int), v0 = .int .u64 m ∧ m < 18446744073709551616 ∧ acc ++ uv m = uv n ∧ Kd.R (Kd.int .u8) 5 wr w.heap.size (fun _ => True) v3 acc ∧ Below w.heap.size w wr) (fun v0 _ _ => (intOf v0).toNat)
  case atStart => exact ⟨n, [], rfl, hn, rfl, Kd.R_nil _ _ _ _ _, Below.refl _ _⟩
  case round =>
    obtain ⟨m, acc, rfl, hm, he, hr, hb⟩ := hrel
    have HE := Lib.hid he; clear he
    have HR := Lib.hid hr; clear hr
    have HB := Lib.hid hb; clear hb
    have hal : acc.length + 1 ≤ 140737488355328 := by
      have := congrArg List.length HE.out; rw [List.length_append] at this; omega
    by_cases hlt : m < 128
    · have c : decide (127 < (m : Int)) = false := by simp; omega
      go_wp2_with (at_builtin; refine app_u8 (w0 := w) w.heap.size rfl (.tmp 14) (.tmp 17) _ acc _ rfl rfl rfl HR.out HB.out HB.out.size hal ?_; intro v1 w1 HR1 HB1; have hcv := own_string (P := Try.prog) Try.underlying53 Try.underlying5 Try.underlying9 (Kd.own_of_R HR1.out))
      go_ret
      exact ⟨ret_num HE.out hlt, HB1⟩
    · have c : decide (127 < (m : Int)) = true := by simp; omega
      have hor := or128 m
      obtain ⟨q, hq⟩ : ∃ q, m % 128 + 128 = q := ⟨_, rfl⟩
      rw [hq] at hor
      have HQ := Lib.hid hq; clear hq
      go_wp2_with (at_builtin; refine app_u8 (w0 := w) w.heap.size rfl (.tmp 6) (.tmp 10) _ acc _ rfl rfl rfl HR.out HB.out HB.out.size hal ?_; intro v1 w1 HR1 HB1)
      go_roundw
      case rel => exact ⟨m / 128, acc ++ [(q : Int)], by go_num, by omega, by rw [← HE.out, uv_big hlt, HQ.out, List.append_assoc]; rfl, HR1, HB1⟩
      case measure => simp [intOf]; omega

/-- A text behind its length. -/
def textS (s : ByteArray) : ByteArray := uvS s.size ++ s
theorem text_any (s : ByteArray) (w : World) (hs : s.size ≤ 140737488355328) :
    Calls Try.prog 37 #[.string s] w fun e w' => e = .returned (.string (textS s)) ∧ Below w.heap.size w w' := by
  have hw : IntKind.u64.wrap (s.size : Int) = (s.size : Int) := wrap_u64_nat (by omega)
  have hl := uvS_size s.size
  have hl' := uv_len10 (show s.size < 18446744073709551616 by omega)
  have HU := Lib.hid (fun w => uint_any s.size w (by omega))
  unfold textS
  generalize uvS s.size = u at *
  have hu : u.size + s.size ≤ 9223372036854775807 := by omega
  clear hl hl'
  go_enter Try.func37, Try.ntmps37
  go_wp2_with fail
  refine (HU.out _).mono ?_
  rintro e w1 ⟨rfl, hb⟩
  have HB := Lib.hid hb; clear hb
  go_wp2
  go_ret
  exact ⟨rfl, HB.out⟩

/-- zigzag, both ways -/
def zigI (n : Int) : Int := if 0 ≤ n then 2 * n else -2 * n - 1
def zagI (n : Int) : Int := if n % 2 = 0 then n / 2 else -(n / 2) - 1
theorem xor_ones (w x : Nat) (h : x < 2 ^ w) : x ^^^ (2 ^ w - 1) = 2 ^ w - 1 - x := by
  have := congrArg BitVec.toNat (BitVec.xor_allOnes (x := BitVec.ofNat w x))
  rw [BitVec.toNat_xor, BitVec.toNat_not, BitVec.toNat_ofNat, BitVec.toNat_allOnes, Nat.mod_eq_of_lt h] at this
  exact this
theorem xor0_u64 (x : Nat) (h : x < 18446744073709551616) : Go.bits .xor .u64 (x : Int) 0 = (x : Int) := by
  have := u64_xor_nat x 0 h (by omega)
  simpa using this
theorem xor1_u64 (x : Nat) (h : x < 18446744073709551616) : Go.bits .xor .u64 (x : Int) 18446744073709551615 = ((18446744073709551615 - x : Nat) : Int) := by
  have := u64_xor_nat x 18446744073709551615 h (by omega)
  rw [show x ^^^ 18446744073709551615 = 18446744073709551615 - x from xor_ones 64 x h] at this
  exact this
theorem zig_val (n : Int) (h0 : -9223372036854775808 ≤ n) (h1 : n ≤ 9223372036854775807) :
    Go.bits .xor .u64 (IntKind.u64.wrap ((IntKind.u64.wrap n) * 2)) (IntKind.u64.wrap (n / 9223372036854775808)) = zigI n := by
  unfold zigI
  simp only [IntKind.wrap_u64]
  by_cases h : 0 ≤ n
  · rw [if_pos h, show n % 18446744073709551616 * 2 % 18446744073709551616 = ((2 * n).toNat : Int) from by omega, show n / 9223372036854775808 % 18446744073709551616 = 0 from by omega, xor0_u64 _ (by omega)]
    omega
  · rw [if_neg h, show n % 18446744073709551616 * 2 % 18446744073709551616 = ((2 * n + 18446744073709551616).toNat : Int) from by omega, show n / 9223372036854775808 % 18446744073709551616 = 18446744073709551615 from by omega, xor1_u64 _ (by omega)]
    omega
theorem xor_i64 (x y : Int) : Go.bits .xor .i64 x y = IntKind.i64.wrap (((BitVec.ofInt 64 x) ^^^ (BitVec.ofInt 64 y)).toNat : Int) := rfl
theorem xor0_i64 (x : Int) (h0 : 0 ≤ x) (h1 : x ≤ 9223372036854775807) : Go.bits .xor .i64 x 0 = x := by
  rw [xor_i64, show BitVec.ofInt 64 0 = 0#64 from rfl, BitVec.xor_zero, BitVec.toNat_ofInt, IntKind.wrap_i64]
  omega
theorem xor1_i64 (x : Int) (h0 : 0 ≤ x) (h1 : x ≤ 9223372036854775807) : Go.bits .xor .i64 x (-1) = -x - 1 := by
  rw [xor_i64, show BitVec.ofInt 64 (-1) = BitVec.allOnes 64 from rfl, BitVec.xor_allOnes, BitVec.toNat_not, BitVec.toNat_ofInt, IntKind.wrap_i64]
  omega
theorem and1_u64 (n : Nat) (h : n < 18446744073709551616) : Go.bits .and .u64 (n : Int) 1 = ((n % 2 : Nat) : Int) := by
  have := u64_and_nat n 1 h (by omega)
  rw [Nat.and_one_is_mod] at this
  exact this
theorem zag_val (n : Nat) (h : n < 18446744073709551616) :
    Go.bits .xor .i64 (wrap64 ((n : Int) / 2)) (wrap64 (-(wrap64 (Go.bits .and .u64 (n : Int) 1)))) = zagI n := by
  rw [and1_u64 n h, wrap64_id (x := ((n % 2 : Nat) : Int)) (by omega) (by omega), wrap64_id (by omega) (by omega), wrap64_id (by omega) (by omega)]
  unfold zagI
  by_cases e : n % 2 = 0
  · rw [if_pos (by omega), show -((n % 2 : Nat) : Int) = 0 from by omega, xor0_i64 _ (by omega) (by omega)]
  · rw [if_neg (by omega), show -((n % 2 : Nat) : Int) = -1 from by omega, xor1_i64 _ (by omega) (by omega)]
end Go.Proofs.Ytemhmgpihkemjaa.My
