/- strings.Builder: text after text written. -/
import Derived.Test.YtoandabafkdgjaaBuild
namespace Go.Proofs.Ytoandabafkdgjaa.My
set_option linter.unusedSimpArgs false
set_option linter.unusedVariables false
open Go.RowKit Go.Proofs.YtoandabafkdgjaaW.PrintWords Go.Proofs.YtoandabafkdgjaaW.PrintLast Go.Proofs.Ytoandabafkdgjaa.Pm

/-- A builder that has l: not yet written, or with its own address. -/
def Bdr (w : World) (b base : Nat) (v : Value) (l : List UInt8) : Prop := (∃ p, IsBd w b p v ∧ ((p = none ∧ v = .slice none 0 0) ∨ p = some ⟨b, 0, none⟩)) ∧ Byt w base v l ∧ base ≤ b
theorem Bdr.below {w w1 : World} {b base : Nat} {v : Value} {l : List UInt8} (h : Bdr w b base v l) (hb : Below w.heap.size w w1) : Bdr w1 b base v l := by
  obtain ⟨⟨p, k, hp⟩, ho, hbb⟩ := h
  exact ⟨⟨p, blk_below k hb, hp⟩, ho.below hb, hbb⟩
set_option maxRecDepth 100000 in
set_option maxHeartbeats 4000000 in
theorem bd_check2 (w : World) (b : Nat) (v : Value) (k : IsBd w b (some ⟨b, 0, none⟩) v) :
    Calls Try.prog 56 #[.pointer (some ⟨b, 0, none⟩)] w fun e w' => e = .returned (.tuple #[]) ∧ w' = w := by
  have c0 := k.c0
  obtain ⟨j, hj⟩ := Option.isSome_iff_exists.1 (show (Try.prog.info? 90).isSome = true by kernel_rfl)
  have q3 := Lib.run_neq_ptr_same (P := Try.prog) w ⟨b, 0, none⟩ Try.underlying88 hj
  clear hj
  go_enter Try.func56, Try.ntmps56
  go_wp2
  go_end0
  exact ⟨rfl, rfl⟩
set_option maxRecDepth 100000 in
set_option maxHeartbeats 4000000 in
theorem bdr_write (w : World) (b base : Nat) (v : Value) (l : List UInt8) (s : ByteArray) (k : Bdr w b base v l) (hbw : base ≤ w.heap.size) (hs : l.length + s.size ≤ 140737488355328) :
    Calls Try.prog 45 #[.pointer (some ⟨b, 0, none⟩), .string s] w fun e w' => (∃ v, e = .returned v) ∧ ∃ v, Bdr w' b base v (l ++ bl s) ∧ Below base w w' := by
  obtain ⟨⟨p, k, hp⟩, ho, hb⟩ := k
  rcases hp with ⟨rfl, rfl⟩ | rfl
  · have hl : l = [] := by
      obtain ⟨A, c, e⟩ := ho.slice
      injection e with _ e _
      exact List.eq_nil_of_length_eq_zero e.symm
    subst hl
    exact (bd_write w b base s k hb hbw (by simpa using hs)).mono fun e w' ⟨h1, v, h2, h3, h4⟩ => ⟨h1, v, ⟨⟨_, h2, .inr rfl⟩, by simpa using h3, hb⟩, h4⟩
  · have HK := Lib.hid k; clear k
    have HO := Lib.hid ho; clear ho
    have HB := Lib.hid (Below.refl base w)
    have c1 := HK.out.c1
    obtain ⟨A0, m0, c0', rfl⟩ := HO.out.slice_
    go_enter Try.func45, Try.ntmps45
    go_wp2_with fail
    refine (bd_check2 w b _ HK.out).mono ?_
    rintro e w1 ⟨rfl, rfl⟩
    go_wp2_with (at_builtin; refine app_str (w0 := w1) base rfl (.tmp 12) (.tmp 13) _ l s rfl rfl rfl HO.out HB.out hbw hs ?_; intro v1 w3 HO1 HB1 HG1; have hx : IsBd w3 b (some ⟨b, 0, none⟩) (.slice A0 m0 c0') := blk_grown HK.out HG1.out (HO.out.ne HK.out (by decide)); have kc1 := hx.c1; have kf1 := hx.f 1; have HX := Lib.hid hx; clear hx; obtain ⟨A1, m1, c1, rfl⟩ := HO1.out.slice_)
    go_ret2
    exact ⟨⟨_, rfl⟩, _, ⟨⟨_, HX.out.set1 _, .inr rfl⟩, HO1.out.set HX.out (by decide) 1 _, hb⟩, below_setc (p := ⟨b, 1, none⟩) HB1.out hb _⟩
end Go.Proofs.Ytoandabafkdgjaa.My
