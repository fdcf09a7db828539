/- prim.Cursor: Fixed. -/
import Derived.Test.YtoandabafkdgjaaCurU
namespace Go.Proofs.Ytoandabafkdgjaa.My
open Go.RowKit Go.Proofs.YtoandabafkdgjaaW.PrintWords Go.Proofs.YtoandabafkdgjaaW.PrintLast Go.Proofs.Ytoandabafkdgjaa.Pm

theorem valBE_snoc (l : List UInt8) (b : UInt8) : valBE (l ++ [b]) = valBE l * 256 + b.toNat := by simp [valBE]
theorem foldBE_lt (l : List UInt8) : ∀ a : Nat, l.foldl (fun n b => n * 256 + b.toNat) a < (a + 1) * 256 ^ l.length := by
  induction l with
  | nil => intro a; simp
  | cons b l ih =>
    intro a
    rw [List.foldl_cons, List.length_cons, Nat.pow_succ]
    have h1 := ih (a * 256 + b.toNat)
    have h2 := b.toNat_lt
    have h3 : (a * 256 + b.toNat + 1) * 256 ^ l.length ≤ (a + 1) * 256 * 256 ^ l.length := Nat.mul_le_mul_right _ (by omega)
    have h4 : (a + 1) * 256 * 256 ^ l.length = (a + 1) * (256 ^ l.length * 256) := by rw [Nat.mul_assoc, Nat.mul_comm 256]
    omega
theorem valBE_lt (l : List UInt8) : valBE l < 256 ^ l.length := by have := foldBE_lt l 0; unfold valBE; simpa using this
def ordered (s : ByteArray) (big : Bool) : List UInt8 := if big then s.data.toList else s.data.toList.reverse
theorem ordered_length (s : ByteArray) (big : Bool) : (ordered s big).length = s.size := by unfold ordered; split <;> simp
theorem or_byte (n : Nat) (b : UInt8) (hn : n * 256 < 18446744073709551616) : Go.bits .or .u64 ((n : Int) * 256) (b.toNat : Int) = ((n * 256 + b.toNat : Nat) : Int) := by
  have hb := b.toNat_lt
  have h := u64_or_nat (n * 256) b.toNat hn (by omega)
  have := Nat.shiftLeft_add_eq_or_of_lt (show b.toNat < 2 ^ 8 from hb) n
  rw [Nat.shiftLeft_eq] at this
  rw [← this] at h
  rw [← h]
  simp
/-- Fixed: the number, what is left, is it bad? -/
def curFixed (s : ByteArray) (bad : Bool) (size : Int) (big : Bool) : Nat × ByteArray × Bool :=
  if size < 1 ∨ 8 < size then (0, s, true) else (valBE (ordered (curBytes s bad size).1 big), (curBytes s bad size).2.1, (curBytes s bad size).2.2)
theorem curBytes_size (s : ByteArray) (bad : Bool) (n : Int) : (curBytes s bad n).1.size ≤ n.toNat := by
  unfold curBytes
  split
  · exact Nat.zero_le _
  · simp; omega

set_option maxHeartbeats 2000000 in
theorem cur_fixed (s : ByteArray) (bad : Bool) (size : Int) (big : Bool) (g : Nat) (w : World) (hc : IsCur w g s bad) :
    Calls Try.prog 51 #[.pointer (some ⟨g, 0, none⟩), .int .i64 size, .bool big] w fun e w' => e = .returned (.int .u64 (curFixed s bad size big).1) ∧ IsCur w' g (curFixed s bad size big).2.1 (curFixed s bad size big).2.2 ∧ Keeps (Only g) w w' := by
  have h0 := hc.c0
  have h1 := hc.c1
  have f1 := hc.f 1
  have HC := Lib.hid hc; clear hc
  unfold curFixed
  by_cases hsz : size < 1
  · rw [if_pos (.inl hsz)]
    have hb : decide (size < 1) = true := by simp [hsz]
    go_enter Try.func51, Try.ntmps51
    go_wp2
    go_ret
    exact ⟨rfl, HC.out.set1 _, (Keeps.refl _ _).own _ _⟩
  have hb1 : decide (size < 1) = false := by simp; omega
  by_cases hs8 : 8 < size
  · rw [if_pos (.inr hs8)]
    have hb : decide (8 < size) = true := by simp [hs8]
    go_enter Try.func51, Try.ntmps51
    go_wp2
    go_ret
    exact ⟨rfl, HC.out.set1 _, (Keeps.refl _ _).own _ _⟩
  have hb8 : decide (8 < size) = false := by simp; omega
  rw [if_neg (by omega)]
  have hz := curBytes_size s bad size
  have HU := Lib.hid (cur_bytes s bad size g w HC.out)
  generalize curBytes s bad size = u at *
  obtain ⟨b, t, b2⟩ := u
  simp only at hz
  have hl := ordered_length b big
  have HL := Lib.hid hl; clear hl
  go_enter Try.func51, Try.ntmps51
  go_wp2_with fail
  refine (HU.out).mono ?_
  rintro e w1 ⟨rfl, hc, hk⟩
  have HC := Lib.hid hc; clear hc
  have HK := Lib.hid hk; clear hk
  clear h0 h1 f1
  go_wp2
  go_loop [8, 25] (fun v8 v25 => ∃ i : Nat, v25 = .int .i64 i ∧ i ≤ b.size ∧ v8 = .int .u64 (valBE ((ordered b big).take i))) (fun _ v25 => b.size - (intOf v25).toNat)
  case atStart => exact ⟨0, rfl, by omega, rfl⟩
  case round =>
    obtain ⟨i, rfl, hi, rfl⟩ := hrel
    by_cases hlt : i < b.size
    · have hlt' := valBE_lt ((ordered b big).take i)
      have hpow : 256 ^ ((ordered b big).take i).length ≤ 256 ^ 7 := Nat.pow_le_pow_right (by omega) (by rw [List.length_take, HL.out]; omega)
      obtain ⟨x, hx⟩ : ∃ x, (ordered b big)[i]'(by rw [HL.out]; exact hlt) = x := ⟨_, rfl⟩
      have hsn : valBE ((ordered b big).take (i + 1)) = valBE ((ordered b big).take i) * 256 + x.toNat := by
        rw [List.take_succ_eq_append_getElem (by rw [HL.out]; exact hlt), valBE_snoc, hx]
      generalize valBE ((ordered b big).take i) = n at *
      have hn : n < 256 ^ 7 := Nat.lt_of_lt_of_le hlt' hpow
      clear hlt' hpow
      have hor := or_byte n x (by omega)
      have hxw : IntKind.u64.wrap (x.toNat : Int) = (x.toNat : Int) := wrap_u64_nat (by have := x.toNat_lt; omega)
      obtain ⟨m, hm⟩ : ∃ m, n * 256 + x.toNat = m := ⟨_, rfl⟩
      rw [hm] at hor hsn
      have HS := Lib.hid hsn; clear hsn hm
      have hn' : n < 72057594037927936 := by omega
      clear hn
      cases big with
      | true =>
        have hxx : ∀ h : i < b.size, b[i]'h = x := fun h => hx
        clear hx
        go_wp2
        go_round
        case rel => exact ⟨i + 1, by go_num, by omega, by rw [HS.out]⟩
        case measure => simp [intOf]; omega
      | false =>
        have hxx : ∀ h : b.size - 1 - i < b.size, b[b.size - 1 - i]'h = x := fun h => by
          have hx' : b.data.toList.reverse[i]'(by simpa using hlt) = x := hx
          rw [List.getElem_reverse] at hx'
          rw [← hx']
          simp
          rfl
        clear hx
        go_wp2
        go_round
        case rel => exact ⟨i + 1, by go_num, by omega, by rw [HS.out]⟩
        case measure => simp [intOf]; omega
    · go_wp2
      go_ret
      rw [List.take_of_length_le (by rw [HL.out]; omega)]
      exact ⟨rfl, HC.out, HK.out⟩
end Go.Proofs.Ytoandabafkdgjaa.My
