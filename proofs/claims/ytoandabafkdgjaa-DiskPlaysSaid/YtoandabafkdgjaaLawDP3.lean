/- The law DiskPlays, whatever comes in. -/
import Derived.Test.YtoandabafkdgjaaLawDP2
namespace Go.Proofs.Ytoandabafkdgjaa.My
set_option linter.unusedSimpArgs false
set_option linter.unusedVariables false
open Go.RowKit Go.Proofs.YtoandabafkdgjaaW.PrintWords Go.Proofs.YtoandabafkdgjaaW.PrintLast Go.Proofs.Ytoandabafkdgjaa.Pm
section
variable {H : Type} {enc : TypeId × Value → H} {P : Program} {w : World} {base : Nat} {spare : Nat → Bool} {held : Bool}
theorem opens_struct5 {α0 α1 α2 α3 α4 : Type} {t : TypeId} {f0 f1 f2 f3 f4 : Field} {R0 : α0 → List Value → Prop} {R1 : α1 → List Value → Prop} {R2 : α2 → List Value → Prop} {R3 : α3 → List Value → Prop} {R4 : α4 → List Value → Prop} (ht : P.underlying t = some (.struct #[f0, f1, f2, f3, f4]))
    (h0 : Opens enc P w base spare held f0.type R0) (h1 : Opens enc P w base spare held f1.type R1) (h2 : Opens enc P w base spare held f2.type R2) (h3 : Opens enc P w base spare held f3.type R3) (h4 : Opens enc P w base spare held f4.type R4) :
    Opens enc P w base spare held t fun (p : α0 × α1 × α2 × α3 × α4) cs => cs.length = P.cellsOf t ∧ R0 p.1 ((cs.drop f0.offset).take (P.cellsOf f0.type)) ∧ R1 p.2.1 ((cs.drop f1.offset).take (P.cellsOf f1.type)) ∧ R2 p.2.2.1 ((cs.drop f2.offset).take (P.cellsOf f2.type)) ∧ R3 p.2.2.2.1 ((cs.drop f3.offset).take (P.cellsOf f3.type)) ∧ R4 p.2.2.2.2 ((cs.drop f4.offset).take (P.cellsOf f4.type)) := fun fuel cs x hx hf => by
  obtain ⟨hl, hh⟩ := fits_struct ht hx hf
  obtain ⟨n0, y0, a0, b0⟩ := hh 0 f0 rfl
  obtain ⟨n1, y1, a1, b1⟩ := hh 1 f1 rfl
  obtain ⟨n2, y2, a2, b2⟩ := hh 2 f2 rfl
  obtain ⟨n3, y3, a3, b3⟩ := hh 3 f3 rfl
  obtain ⟨n4, y4, a4, b4⟩ := hh 4 f4 rfl
  obtain ⟨p0, r0⟩ := h0 _ _ _ a0 b0
  obtain ⟨p1, r1⟩ := h1 _ _ _ a1 b1
  obtain ⟨p2, r2⟩ := h2 _ _ _ a2 b2
  obtain ⟨p3, r3⟩ := h3 _ _ _ a3 b3
  obtain ⟨p4, r4⟩ := h4 _ _ _ a4 b4
  exact ⟨(p0, p1, p2, p3, p4), hl, r0, r1, r2, r3, r4⟩
/-- Bytes that came in. -/
theorem opens_bytes : Opens enc Try.prog w base spare held 30 fun (l : List UInt8) cs => ∃ A len cap, cs = [.slice A len cap] ∧ len ≤ cap ∧ cap ≤ maxLen ∧ len * Try.prog.bytesOf 5 ≤ 140737488351232 ∧ RowSays w (Try.prog.cellsOf 5) (fun (c : UInt8) cs => cs = [.int .u8 (c.toNat : Int)]) A len l :=
  opens_slice Try.underlying30 (by decide +kernel) ((opens_int Try.underlying5).imp fun n cs ⟨h, hw⟩ => by
    have z := wf_u8 hw
    exact ⟨UInt8.ofNat n.toNat, by rw [h, UInt8.toNat_ofNat_of_lt' (by show n.toNat < 256; omega), Int.toNat_of_nonneg z.1]⟩)
def OpR (w : World) (p : OpD) (cs : List Value) : Prop := cs = [.int .u8 p.kd, .int .i64 p.i, .int .i64 p.n, .string p.b, .slice p.AF p.m p.c] ∧ p.n ≤ 9223372036854775807 ∧ RowSays w 1 (fun (c : UInt8) cs => cs = [.int .u8 (c.toNat : Int)]) p.AF p.m p.fl
theorem op7_opens : Opens enc Try.prog w base spare held 40 (OpR w) :=
  (opens_struct5 Try.underlying40 (opens_int Try.underlying5) (opens_int Try.underlying3) (opens_int Try.underlying3) (opens_string Try.underlying9) opens_bytes).imp fun p cs ⟨hl, ⟨h0, w0⟩, ⟨h1, w1⟩, ⟨h2, w2⟩, ⟨h3, w3⟩, A, len, cap, h4, _, _, _, w4⟩ => by
    have z0 := wf_u8 w0
    have z2 := wf_i64 w2
    have e : Try.prog.cellsOf 40 = 5 := by kernel_rfl
    have e0 : Try.prog.cellsOf 5 = 1 := by kernel_rfl
    have e1 : Try.prog.cellsOf 3 = 1 := by kernel_rfl
    have e3 : Try.prog.cellsOf 9 = 1 := by kernel_rfl
    have e4 : Try.prog.cellsOf 30 = 1 := by kernel_rfl
    obtain ⟨a, i, n, b, fl⟩ := p
    obtain ⟨a, rfl⟩ := Int.eq_ofNat_of_zero_le z0.1
    rw [e] at hl
    simp only [e0, e1, e3, e4] at h0 h1 h2 h3 h4
    refine ⟨⟨a, i, n, b, fl, A, len, cap⟩, ?_, z2.2, by rw [e0] at w4; exact w4⟩
    match cs, hl with
    | [c0, c1, c2, c3, c4], _ => simp at h0 h1 h2 h3 h4; rw [h0, h1, h2, h3, h4]
theorem ops7_opens : Opens enc Try.prog w base spare held 35 fun (l : List OpD) cs => ∃ A len cap, cs = [.slice A len cap] ∧ len ≤ cap ∧ cap ≤ maxLen ∧ len * Try.prog.bytesOf 40 ≤ 140737488351232 ∧ RowSays w (Try.prog.cellsOf 40) (OpR w) A len l :=
  opens_slice Try.underlying35 (by decide +kernel) op7_opens
end
theorem wf_i8 {x : Int} (h : (Lit.int .i8 x).wf = true) : -128 ≤ x ∧ x ≤ 127 := by
  simp [Lit.wf, IntKind.min, IntKind.max, IntKind.bits, IntKind.signed] at h
  omega
theorem disk_plays_walk (a0 : Int) (A : Option Addr) (len cap : Nat) (l : List OpD) (W : World) (h0 : (Lit.int .i8 a0).wf = true) (_ : len ≤ cap) (hb : len * Try.prog.bytesOf 40 ≤ 140737488351232)
    (hl : RowSays W (Try.prog.cellsOf 40) (OpR W) A len l) :
    Calls Try.prog 4 #[.int .i8 a0, .slice A len cap] W fun e w' => e = .returned (.bool true) ∧ Below W.heap.size W w' := by
  have z := wf_i8 h0
  have e : Try.prog.bytesOf 40 = 64 := by kernel_rfl
  have e1 : Try.prog.cellsOf 40 = 5 := by kernel_rfl
  rw [e] at hb
  rw [e1] at hl
  have each : ∀ j (h : j < l.length), ∃ c, OpR W l[j] c := fun j h => by
    obtain ⟨b, off, a, c, _, _, h2, _, h3, _⟩ := hl.get j (by rw [← hl.1]; exact h)
    rw [List.getElem?_eq_getElem h] at h2
    obtain rfl : l[j] = a := by simpa using h2
    exact ⟨c, h3⟩
  refine plays_law a0 A len cap l W ⟨hl.1, fun h => ?_, fun p hp => ?_⟩ (by omega) (by omega)
  · obtain ⟨b, off, rfl, hlt, hc⟩ := hl.2 h
    refine ⟨b, off, rfl, hlt, fun j hj => ?_⟩
    obtain ⟨c, _, h3, h4⟩ := hc j hj
    rw [h3.1] at h4
    exact h4
  · obtain ⟨j, hj, rfl⟩ := List.getElem_of_mem hp
    obtain ⟨c, _, h3, h4⟩ := each j hj
    refine ⟨h3, h4.1, fun h => ?_⟩
    obtain ⟨b, off, e, hlt, hc⟩ := h4.2 (by rw [← h4.1]; exact h)
    refine ⟨b, off, e, hlt, hlt, fun i hi => ?_⟩
    obtain ⟨c', _, h5, h6⟩ := hc i hi
    subst h5
    have := h6 0 _ rfl
    rw [Nat.mul_one, Nat.add_zero] at this
    exact this
end Go.Proofs.Ytoandabafkdgjaa.My
