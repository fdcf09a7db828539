/- The laws of layer 1: awake, PrimMakes, PrimBack walked. -/
import Derived.Test.YtdiocapnoinmlaaRef01
import Derived.Test.YtdiocapnoinmlaaCurF
namespace Go.Proofs.Ytdiocapnoinmlaa.My
open Go.RowKit Go.Proofs.YtdiocapnoinmlaaW.PrintWords Go.Proofs.YtdiocapnoinmlaaW.PrintLast Go.Proofs.Ytdiocapnoinmlaa.Pm

theorem uv300 : uv 300 = [172, 2] := by
  rw [uv_big (by omega), uv_small (by omega)]; rfl
theorem awake01 (w : World) : Calls Try.prog 27 #[] w fun e w' => e = .returned (.bool true) ∧ Below w.heap.size w w' := by
  have h1 : uvS 300 = ⟨#[172, 2]⟩ := by unfold uvS; rw [uv300]; rfl
  have H1 := Lib.hid h1; clear h1
  go_enter Try.func27, Try.ntmps27
  go_wp2_with fail
  refine (uint_any 300 _ (by omega)).mono ?_
  rintro e w1 ⟨rfl, hb⟩
  rw [H1.out]
  have HB := Lib.hid hb; clear hb
  go_wp2_with fail
  refine (zig_any (-1) _ (by omega) (by omega)).mono ?_
  rintro e w2 ⟨rfl, rfl⟩
  rw [show zigI (-1) = 1 from rfl]
  go_wp2
  go_ret
  exact ⟨rfl, HB.out⟩

theorem zig_zag (n : Nat) (h : n < 18446744073709551616) : zigI (zagI n) = (n : Int) := by
  unfold zigI zagI
  split <;> split <;> omega
theorem zagI_range (n : Nat) (h : n < 18446744073709551616) : -9223372036854775808 ≤ zagI n ∧ zagI n ≤ 9223372036854775807 := by
  unfold zagI
  split <;> omega

set_option maxHeartbeats 2000000 in
theorem prim_makes (n : Nat) (size : Int) (big : Bool) (w : World) (hn : n < 18446744073709551616) :
    Calls Try.prog 8 #[.int .u64 n, .int .i64 size, .bool big] w fun e w' => e = .returned (.bool true) ∧ Below w.heap.size w w' := by
  obtain ⟨z, hz⟩ : ∃ z, zagI n = z := ⟨_, rfl⟩
  have hzr := zagI_range n hn
  have hzz := zig_zag n hn
  rw [hz] at hzr hzz
  have HZ := Lib.hid hz; clear hz
  have HZZ := Lib.hid hzz; clear hzz
  obtain ⟨m, hm⟩ : ∃ m, wrap64 (n : Int) = m := ⟨_, rfl⟩
  have hmr : -9223372036854775808 ≤ m ∧ m ≤ 9223372036854775807 := by rw [← hm]; unfold wrap64; omega
  have HB := Lib.hid (Below.refl w.heap.size w)
  by_cases h : size < 1 ∨ 8 < size
  · have hb : (decide (1 ≤ size) && decide (size ≤ 8)) = false := by simp; omega
    have HH := Lib.hid h
    by_cases h1 : 1 ≤ size
    · have b1 : decide (1 ≤ size) = true := by simp; omega
      have b8 : decide (size ≤ 8) = false := by simp; omega
      clear hb h
      go_enter Try.func8, Try.ntmps8
      go_wp2_with fail
      refine (zag_any n _ hn).mono ?_
      rintro e wq1 ⟨rfl, rfl⟩
      rw [HZ.out]
      go_wp2_with fail
      refine (awake01 _).mono ?_
      rintro e wq2 ⟨rfl, hb⟩
      have HB := Lib.hid (HB.out.trans (hb.mono HB.out.size)); clear hb
      go_wp2_with fail
      refine (uint_any n _ hn).mono ?_
      rintro e wq3 ⟨rfl, hb⟩
      have HB := Lib.hid (HB.out.trans (hb.mono HB.out.size)); clear hb
      go_wp2_with fail
      refine (ruint_any n _ hn).mono ?_
      rintro e wq4 ⟨rfl, hb⟩
      have HB := Lib.hid (HB.out.trans (hb.mono HB.out.size)); clear hb
      go_wp2_with fail
      refine (fixed_bad n size big _ HH.out).mono ?_
      rintro e wq5 ⟨rfl, hb⟩
      have HB := Lib.hid (HB.out.trans (hb.mono HB.out.size)); clear hb
      go_wp2_with fail
      refine (zig_any m _ (by omega) (by omega)).mono ?_
      rintro e wq6 ⟨rfl, rfl⟩
      go_wp2_with fail
      refine (rzig_any m _ (by omega) (by omega)).mono ?_
      rintro e wq7 ⟨rfl, rfl⟩
      go_wp2_with fail
      refine (rzig_any z _ (by omega) (by omega)).mono ?_
      rintro e wq8 ⟨rfl, rfl⟩
      rw [HZZ.out]
      go_wp2
      go_ret
      exact ⟨rfl, HB.out⟩
    · have b1 : decide (1 ≤ size) = false := by simp; omega
      clear hb h
      go_enter Try.func8, Try.ntmps8
      go_wp2_with fail
      refine (zag_any n _ hn).mono ?_
      rintro e wq9 ⟨rfl, rfl⟩
      rw [HZ.out]
      go_wp2_with fail
      refine (awake01 _).mono ?_
      rintro e wq10 ⟨rfl, hb⟩
      have HB := Lib.hid (HB.out.trans (hb.mono HB.out.size)); clear hb
      go_wp2_with fail
      refine (uint_any n _ hn).mono ?_
      rintro e wq11 ⟨rfl, hb⟩
      have HB := Lib.hid (HB.out.trans (hb.mono HB.out.size)); clear hb
      go_wp2_with fail
      refine (ruint_any n _ hn).mono ?_
      rintro e wq12 ⟨rfl, hb⟩
      have HB := Lib.hid (HB.out.trans (hb.mono HB.out.size)); clear hb
      go_wp2_with fail
      refine (fixed_bad n size big _ HH.out).mono ?_
      rintro e wq13 ⟨rfl, hb⟩
      have HB := Lib.hid (HB.out.trans (hb.mono HB.out.size)); clear hb
      go_wp2_with fail
      refine (zig_any m _ (by omega) (by omega)).mono ?_
      rintro e wq14 ⟨rfl, rfl⟩
      go_wp2_with fail
      refine (rzig_any m _ (by omega) (by omega)).mono ?_
      rintro e wq15 ⟨rfl, rfl⟩
      go_wp2_with fail
      refine (rzig_any z _ (by omega) (by omega)).mono ?_
      rintro e wq16 ⟨rfl, rfl⟩
      rw [HZZ.out]
      go_wp2
      go_ret
      exact ⟨rfl, HB.out⟩
  · obtain ⟨s, rfl⟩ := Int.eq_ofNat_of_zero_le (show 0 ≤ size by omega)
    have h1 : 1 ≤ s := by omega
    have h8 : s ≤ 8 := by omega
    clear h
    have b1 : decide (1 ≤ (s : Int)) = true := by simp; omega
    have b8 : decide ((s : Int) ≤ 8) = true := by simp; omega
    go_enter Try.func8, Try.ntmps8
    go_wp2_with fail
    refine (rfixed_any n s big _ hn h1 h8).mono ?_
    rintro e wq17 ⟨rfl, hb⟩
    have HB := Lib.hid (HB.out.trans (hb.mono HB.out.size)); clear hb
    go_wp2_with fail
    refine (zag_any n _ hn).mono ?_
    rintro e wq18 ⟨rfl, rfl⟩
    rw [HZ.out]
    go_wp2_with fail
    refine (awake01 _).mono ?_
    rintro e wq19 ⟨rfl, hb⟩
    have HB := Lib.hid (HB.out.trans (hb.mono HB.out.size)); clear hb
    go_wp2_with fail
    refine (uint_any n _ hn).mono ?_
    rintro e wq20 ⟨rfl, hb⟩
    have HB := Lib.hid (HB.out.trans (hb.mono HB.out.size)); clear hb
    go_wp2_with fail
    refine (ruint_any n _ hn).mono ?_
    rintro e wq21 ⟨rfl, hb⟩
    have HB := Lib.hid (HB.out.trans (hb.mono HB.out.size)); clear hb
    go_wp2_with fail
    refine (fixed_good n s big _ h1 h8).mono ?_
    rintro e wq22 ⟨rfl, hb⟩
    have HB := Lib.hid (HB.out.trans (hb.mono HB.out.size)); clear hb
    go_wp2_with fail
    refine (zig_any m _ (by omega) (by omega)).mono ?_
    rintro e wq23 ⟨rfl, rfl⟩
    go_wp2_with fail
    refine (rzig_any m _ (by omega) (by omega)).mono ?_
    rintro e wq24 ⟨rfl, rfl⟩
    go_wp2_with fail
    refine (rzig_any z _ (by omega) (by omega)).mono ?_
    rintro e wq25 ⟨rfl, rfl⟩
    rw [HZZ.out]
    go_wp2
    go_ret
    exact ⟨rfl, HB.out⟩
theorem prim_makes_walk (a0 a1 : Int) (a2 : Bool) (W : World) (h0 : (Lit.int .u64 a0).wf = true) (_h1 : (Lit.int .i64 a1).wf = true) :
    Calls Try.prog 8 #[.int .u64 a0, .int .i64 a1, .bool a2] W fun e w' => e = .returned (.bool true) ∧ Below W.heap.size W w' := by
  have h := wf_u64 h0
  obtain ⟨n, rfl⟩ := Int.eq_ofNat_of_zero_le h.1
  exact prim_makes n a1 a2 W (by omega)
end Go.Proofs.Ytdiocapnoinmlaa.My
