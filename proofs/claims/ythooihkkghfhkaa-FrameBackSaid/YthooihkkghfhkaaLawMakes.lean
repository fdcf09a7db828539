/- The law FrameMakes walked. -/
import Derived.Test.YthooihkkghfhkaaFrame
namespace Go.Proofs.Ythooihkkghfhkaa.My
set_option linter.unusedSimpArgs false
set_option linter.unusedVariables false
open Go.RowKit Go.Proofs.YthooihkkghfhkaaW.PrintWords Go.Proofs.YthooihkkghfhkaaW.PrintLast Go.Proofs.Ythooihkkghfhkaa.Pm

def oneA : ByteArray := ⟨#[97]⟩
theorem get_app3 (a b c : ByteArray) (i : Nat) (hi : i < a.size) (h : i < (a ++ b ++ c).size) : (a ++ b ++ c)[i]'h = a[i] := by
  rw [ByteArray.getElem_append_left (by rw [ByteArray.size_append]; omega), ByteArray.getElem_append_left hi]
theorem frame_a : ∃ f, frameS oneA = f ∧ f.size = 9 ∧ ∀ h, f[3]'h = 1 := by
  refine ⟨_, rfl, ?_, ?_⟩
  · unfold frameS
    rw [ByteArray.size_append, ByteArray.size_append, fix4_size, fix4_size]
    rfl
  · intro h
    have e : fix4 oneA.size = ⟨#[0, 0, 0, 1]⟩ := by decide +kernel
    have h' := h
    unfold frameS at h' ⊢
    rw [e] at h'
    simp only [e]
    exact (get_app3 _ _ _ 3 (by decide) h').trans rfl

theorem awake06 (w : World) : Calls Try.prog 9 #[] w fun e w' => e = .returned (.bool true) ∧ Below w.heap.size w w' := by
  obtain ⟨f, hf, hs, h3⟩ := frame_a
  have M := Lib.hid crc_make
  have V := Lib.hid (fun w => frame_good oneA w (by decide) (by decide))
  rw [hf] at V
  generalize tab = T at *
  clear hf
  have b1 : ((f.size : Int) == 9) = true := by rw [hs]; rfl
  have HB := Lib.hid (Below.refl w.heap.size w)
  go_enter Try.func9, Try.ntmps9
  go_wp2_with fail
  refine (M.out _).mono ?_
  rintro e wq1 ⟨rfl, hb⟩
  have HB := Lib.hid (HB.out.trans (hb.mono HB.out.size)); clear hb
  go_wp2_with fail
  refine (V.out _).mono ?_
  rintro e wq2 ⟨rfl, hb⟩
  have HB := Lib.hid (HB.out.trans (hb.mono HB.out.size)); clear hb
  go_wp2
  go_ret
  exact ⟨rfl, HB.out⟩

theorem frame_makes_big (p : ByteArray) (w : World) (h : 5000 < p.size) (hs : p.size ≤ 140737488351232) :
    Calls Try.prog 3 #[.string p] w fun e w' => e = .returned (.bool true) ∧ Below w.heap.size w w' := by
  have b1 : decide (5000 < (p.size : Int)) = true := by simp; omega
  have HB := Lib.hid (Below.refl w.heap.size w)
  go_enter Try.func3, Try.ntmps3
  go_wp2_with fail
  refine (awake06 _).mono ?_
  rintro e wq3 ⟨rfl, hb⟩
  have HB := Lib.hid (HB.out.trans (hb.mono HB.out.size)); clear hb
  go_wp2_with fail
  refine (awake06 _).mono ?_
  rintro e wq4 ⟨rfl, hb⟩
  have HB := Lib.hid (HB.out.trans (hb.mono HB.out.size)); clear hb
  go_wp2
  go_ret
  exact ⟨rfl, HB.out⟩
theorem frame_makes (p : ByteArray) (w : World) (h : p.size ≤ 5000) :
    Calls Try.prog 3 #[.string p] w fun e w' => e = .returned (.bool true) ∧ Below w.heap.size w w' := by
  have b1 : decide (5000 < (p.size : Int)) = false := by simp; omega
  have HB := Lib.hid (Below.refl w.heap.size w)
  have M := Lib.hid crc_make
  by_cases hb : p.size < 1 ∨ 4000 < p.size
  · have V := Lib.hid (fun T w => frame_bad T p w (by omega) hb)
    generalize tab = T at *
    by_cases h1 : p.size < 1
    · have c1 : decide ((p.size : Int) < 1) = true := by simp; omega
      clear hb
      go_enter Try.func3, Try.ntmps3
      go_wp2_with fail
      refine (awake06 _).mono ?_
      rintro e wq5 ⟨rfl, hb⟩
      have HB := Lib.hid (HB.out.trans (hb.mono HB.out.size)); clear hb
      go_wp2_with fail
      refine (M.out _).mono ?_
      rintro e wq6 ⟨rfl, hb⟩
      have HB := Lib.hid (HB.out.trans (hb.mono HB.out.size)); clear hb
      go_wp2_with fail
      refine (V.out _ _).mono ?_
      rintro e wq7 ⟨rfl, hb⟩
      have HB := Lib.hid (HB.out.trans (hb.mono HB.out.size)); clear hb
      go_wp2
      go_ret
      exact ⟨rfl, HB.out⟩
    · have c1 : decide ((p.size : Int) < 1) = false := by simp; omega
      have c2 : decide (4000 < (p.size : Int)) = true := by simp; omega
      clear hb
      go_enter Try.func3, Try.ntmps3
      go_wp2_with fail
      refine (awake06 _).mono ?_
      rintro e wq8 ⟨rfl, hb⟩
      have HB := Lib.hid (HB.out.trans (hb.mono HB.out.size)); clear hb
      go_wp2_with fail
      refine (M.out _).mono ?_
      rintro e wq9 ⟨rfl, hb⟩
      have HB := Lib.hid (HB.out.trans (hb.mono HB.out.size)); clear hb
      go_wp2_with fail
      refine (V.out _ _).mono ?_
      rintro e wq10 ⟨rfl, hb⟩
      have HB := Lib.hid (HB.out.trans (hb.mono HB.out.size)); clear hb
      go_wp2
      go_ret
      exact ⟨rfl, HB.out⟩
  · have V := Lib.hid (fun w => frame_good p w (by omega) (by omega))
    have R := Lib.hid (fun w => rframe_any p w (by omega))
    generalize frameS p = f at *
    generalize tab = T at *
    have c1 : decide ((p.size : Int) < 1) = false := by simp; omega
    have c2 : decide (4000 < (p.size : Int)) = false := by simp; omega
    clear hb
    go_enter Try.func3, Try.ntmps3
    go_wp2_with fail
    refine (awake06 _).mono ?_
    rintro e wq11 ⟨rfl, hb⟩
    have HB := Lib.hid (HB.out.trans (hb.mono HB.out.size)); clear hb
    go_wp2_with fail
    refine (M.out _).mono ?_
    rintro e wq12 ⟨rfl, hb⟩
    have HB := Lib.hid (HB.out.trans (hb.mono HB.out.size)); clear hb
    go_wp2_with fail
    refine (V.out _).mono ?_
    rintro e wq13 ⟨rfl, hb⟩
    have HB := Lib.hid (HB.out.trans (hb.mono HB.out.size)); clear hb
    go_wp2_with fail
    refine (R.out _).mono ?_
    rintro e wq14 ⟨rfl, hb⟩
    have HB := Lib.hid (HB.out.trans (hb.mono HB.out.size)); clear hb
    go_wp2
    go_ret
    exact ⟨rfl, HB.out⟩
theorem frame_makes_walk (a0 : ByteArray) (W : World) (h0 : a0.size ≤ 140737488351232) :
    Calls Try.prog 3 #[.string a0] W fun e w' => e = .returned (.bool true) ∧ Below W.heap.size W w' := by
  by_cases h : 5000 < a0.size
  · exact frame_makes_big a0 W h h0
  · exact frame_makes a0 W (by omega)
end Go.Proofs.Ythooihkkghfhkaa.My
