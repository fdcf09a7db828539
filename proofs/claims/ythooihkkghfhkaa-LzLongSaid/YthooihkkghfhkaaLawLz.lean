/- The laws LzUnpacks: walked; awake. -/
import Derived.Test.YthooihkkghfhkaaLzUnpack
import Derived.Test.YthooihkkghfhkaaLzRef
namespace Go.Proofs.Ythooihkkghfhkaa.My
set_option linter.unusedSimpArgs false
set_option linter.unusedVariables false
open Go.RowKit Go.Proofs.YthooihkkghfhkaaW.PrintWords Go.Proofs.YthooihkkghfhkaaW.PrintLast Go.Proofs.Ythooihkkghfhkaa.Pm

theorem lz_abc : (lzUn ⟨#[3, 0, 97, 98, 99]⟩).1 = ⟨#[97, 98, 99]⟩ ∧ (lzUn ⟨#[3, 0, 97, 98, 99]⟩).2 = 0 := by
  decide +kernel
theorem awake04 (w : World) : Calls Try.prog 18 #[] w fun e w' => e = .returned (.bool true) ∧ Below w.heap.size w w' := by
  have V := Lib.hid (fun w => lz_unpack ⟨#[3, 0, 97, 98, 99]⟩ w (by decide))
  rw [lz_abc.1, lz_abc.2] at V
  have HB := Lib.hid (Below.refl w.heap.size w)
  go_enter Try.func18, Try.ntmps18
  go_wp2_with fail
  refine (V.out _).mono ?_
  rintro e wq1 ⟨rfl, hb⟩
  have HB := Lib.hid (HB.out.trans (hb.mono HB.out.size)); clear hb
  go_wp2
  go_ret
  exact ⟨rfl, HB.out⟩

theorem lz_unpacks_walk (a0 : ByteArray) (W : World) (h0 : a0.size ≤ 140737488351232) :
    Calls Try.prog 5 #[.string a0] W fun e w' => e = .returned (.bool true) ∧ Below W.heap.size W w' := by
  have HB := Lib.hid (Below.refl W.heap.size W)
  by_cases h : 1000 < a0.size
  · have b1 : decide (1000 < (a0.size : Int)) = true := by simp; omega
    go_enter Try.func5, Try.ntmps5
    go_wp2_with fail
    refine (awake04 _).mono ?_
    rintro e wq2 ⟨rfl, hb⟩
    have HB := Lib.hid (HB.out.trans (hb.mono HB.out.size)); clear hb
    go_wp2_with fail
    refine (awake04 _).mono ?_
    rintro e wq3 ⟨rfl, hb⟩
    have HB := Lib.hid (HB.out.trans (hb.mono HB.out.size)); clear hb
    go_wp2
    go_ret
    exact ⟨rfl, HB.out⟩
  · have b1 : decide (1000 < (a0.size : Int)) = false := by simp; omega
    have U := Lib.hid (fun w => lz_unpack a0 w (by omega))
    have R := Lib.hid (fun w => rlz_unpack a0 w (by omega))
    generalize lzUn a0 = Z at *
    obtain ⟨z, n⟩ := Z
    go_enter Try.func5, Try.ntmps5
    go_wp2_with fail
    refine (awake04 _).mono ?_
    rintro e wq4 ⟨rfl, hb⟩
    have HB := Lib.hid (HB.out.trans (hb.mono HB.out.size)); clear hb
    go_wp2_with fail
    refine (U.out _).mono ?_
    rintro e wq5 ⟨rfl, hb⟩
    have HB := Lib.hid (HB.out.trans (hb.mono HB.out.size)); clear hb
    go_wp2_with fail
    refine (R.out _).mono ?_
    rintro e wq6 ⟨rfl, hb⟩
    have HB := Lib.hid (HB.out.trans (hb.mono HB.out.size)); clear hb
    go_wp2
    go_ret
    exact ⟨rfl, HB.out⟩
end Go.Proofs.Ythooihkkghfhkaa.My
