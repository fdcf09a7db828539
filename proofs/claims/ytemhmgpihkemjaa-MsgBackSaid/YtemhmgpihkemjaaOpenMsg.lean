/- A message that comes in, opened; the law MsgEncodes, whatever comes in. -/
import Derived.Test.YtemhmgpihkemjaaLawME
import Derived.Test.YtemhmgpihkemjaaOpens
import Derived.WideShapes
namespace Go.Proofs.Ytemhmgpihkemjaa.My
set_option linter.unusedSimpArgs false
set_option linter.unusedVariables false
open Go.RowKit Go.Proofs.YtemhmgpihkemjaaW.PrintWords Go.Proofs.YtemhmgpihkemjaaW.PrintLast Go.Proofs.Ytemhmgpihkemjaa.Pm
section
variable {H : Type} {enc : TypeId × Value → H} {w : World} {base : Nat} {spare : Nat → Bool} {held : Bool}
theorem write_opens : Opens enc Try.prog w base spare held 56 fun (p : WrT) cs => cs = wrC p :=
  (opens_struct3 Try.underlying56 (opens_string Try.underlying9) (opens_bool Try.underlying4) (opens_string Try.underlying9)).imp fun p cs ⟨hl, ⟨h0, _⟩, h1, ⟨h2, _⟩⟩ => by
    have e : Try.prog.cellsOf 56 = 3 := by kernel_rfl
    have e0 : Try.prog.cellsOf 9 = 1 := by kernel_rfl
    have e1 : Try.prog.cellsOf 4 = 1 := by kernel_rfl
    obtain ⟨a, b, c⟩ := p
    rw [e] at hl
    simp only [e0, e1] at h0 h1 h2
    refine ⟨(a, b, c), ?_⟩
    match cs, hl with
    | [x, y, z], _ => simp at h0 h1 h2; rw [h0, h1, h2]; rfl
theorem writes_opens : Opens enc Try.prog w base spare held 27 fun (l : List WrT) cs => ∃ A len cap, cs = [.slice A len cap] ∧ len ≤ cap ∧ cap ≤ maxLen ∧ len * Try.prog.bytesOf 56 ≤ 140737488351232 ∧ RowSays w (Try.prog.cellsOf 56) (fun p cs => cs = wrC p) A len l :=
  opens_slice Try.underlying27 (by decide +kernel) write_opens
theorem wrs_of {A : Option Addr} {n : Nat} {l : List WrT} (h : RowSays w 3 (fun p cs => cs = wrC p) A n l) : Wrs w A n l :=
  ⟨h.1, fun h0 => by
    obtain ⟨b, off, e, hb, hc⟩ := h.2 h0
    refine ⟨b, off, e, hb, fun j hj => ?_⟩
    obtain ⟨c, _, h3, h4⟩ := hc j hj
    rw [h3] at h4
    exact h4⟩
def MsgR (w : World) (p : MsgS × Option Addr × Nat × Nat) (cs : List Value) : Prop := cs = (p.1.arr p.2.1 p.2.2.1 p.2.2.2).toList ∧ p.1.In ∧ Wrs w p.2.1 p.2.2.1 p.1.ws ∧ p.2.2.1 ≤ 140737488351232
theorem msg_opens : Opens enc Try.prog w base spare held 29 (MsgR w) := fun fuel cs x hx hf => by
  obtain ⟨hl, hh⟩ := fits_struct Try.underlying29 hx hf
  have e : Try.prog.cellsOf 29 = 17 := by kernel_rfl
  have ei : Try.prog.cellsOf 3 = 1 := by kernel_rfl
  have eu : Try.prog.cellsOf 24 = 1 := by kernel_rfl
  have es : Try.prog.cellsOf 9 = 1 := by kernel_rfl
  have eb : Try.prog.cellsOf 4 = 1 := by kernel_rfl
  have et : Try.prog.cellsOf 23 = 3 := by kernel_rfl
  have ev : Try.prog.cellsOf 26 = 3 := by kernel_rfl
  have ew : Try.prog.cellsOf 27 = 1 := by kernel_rfl
  have ew1 : Try.prog.cellsOf 56 = 3 := by kernel_rfl
  have bw1 : Try.prog.bytesOf 56 = 40 := by kernel_rfl
  obtain ⟨_, _, a0, b0⟩ := hh 0 _ rfl
  obtain ⟨_, _, a1, b1⟩ := hh 1 _ rfl
  obtain ⟨_, _, a2, b2⟩ := hh 2 _ rfl
  obtain ⟨_, _, a3, b3⟩ := hh 3 _ rfl
  obtain ⟨_, _, a4, b4⟩ := hh 4 _ rfl
  obtain ⟨_, _, a5, b5⟩ := hh 5 _ rfl
  obtain ⟨_, _, a6, b6⟩ := hh 6 _ rfl
  obtain ⟨_, _, a7, b7⟩ := hh 7 _ rfl
  obtain ⟨_, _, a8, b8⟩ := hh 8 _ rfl
  obtain ⟨_, _, a9, b9⟩ := hh 9 _ rfl
  obtain ⟨_, _, a10, b10⟩ := hh 10 _ rfl
  obtain ⟨_, _, a11, b11⟩ := hh 11 _ rfl
  obtain ⟨_, _, a12, b12⟩ := hh 12 _ rfl
  clear hh
  obtain ⟨kind, h0, _⟩ := opens_int (enc := enc) Try.underlying3 _ _ _ a0 b0
  obtain ⟨frm, h1, _⟩ := opens_int (enc := enc) Try.underlying3 _ _ _ a1 b1
  obtain ⟨tow, h2, _⟩ := opens_int (enc := enc) Try.underlying3 _ _ _ a2 b2
  obtain ⟨⟨node, life, seq⟩, h3l, ⟨h30, _⟩, ⟨h31, _⟩, ⟨h32, _⟩⟩ := opens_struct3 (enc := enc) Try.underlying23 (opens_int Try.underlying3) (opens_int Try.underlying3) (opens_int Try.underlying3) _ _ _ a3 b3
  obtain ⟨na, h4, w4⟩ := opens_int (enc := enc) Try.underlying24 _ _ _ a4 b4
  obtain ⟨nb, h5, w5⟩ := opens_int (enc := enc) Try.underlying24 _ _ _ a5 b5
  obtain ⟨key, h6, w6⟩ := opens_string (enc := enc) Try.underlying9 _ _ _ a6 b6
  obtain ⟨found, h7⟩ := opens_bool (enc := enc) Try.underlying4 _ _ _ a7 b7
  obtain ⟨⟨time, gone, value⟩, h8l, ⟨h80, w80⟩, h81, ⟨h82, w82⟩⟩ := opens_struct3 (enc := enc) Try.underlying26 (opens_int Try.underlying24) (opens_bool Try.underlying4) (opens_string Try.underlying9) _ _ _ a8 b8
  obtain ⟨ws, A, n, c, h9, _, _, w9, s9⟩ := writes_opens (enc := enc) _ _ _ a9 b9
  obtain ⟨note, h10, w10⟩ := opens_string (enc := enc) Try.underlying9 _ _ _ a10 b10
  obtain ⟨hint, h11, w11⟩ := opens_int (enc := enc) Try.underlying24 _ _ _ a11 b11
  obtain ⟨must, h12, w12⟩ := opens_int (enc := enc) Try.underlying24 _ _ _ a12 b12
  clear a0 a1 a2 a3 a4 a5 a6 a7 a8 a9 a10 a11 a12 b0 b1 b2 b3 b4 b5 b6 b7 b8 b9 b10 b11 b12 hx hf
  have z4 := wf_u64 w4
  have z5 := wf_u64 w5
  have z80 := wf_u64 w80
  have z11 := wf_u64 w11
  have z12 := wf_u64 w12
  obtain ⟨na, rfl⟩ := Int.eq_ofNat_of_zero_le z4.1
  obtain ⟨nb, rfl⟩ := Int.eq_ofNat_of_zero_le z5.1
  obtain ⟨time, rfl⟩ := Int.eq_ofNat_of_zero_le z80.1
  obtain ⟨hint, rfl⟩ := Int.eq_ofNat_of_zero_le z11.1
  obtain ⟨must, rfl⟩ := Int.eq_ofNat_of_zero_le z12.1
  rw [e] at hl
  rw [bw1] at w9
  rw [ew1] at s9
  simp only [ei, eu, es, eb, et, ev, ew] at h0 h1 h2 h30 h31 h32 h4 h5 h6 h7 h80 h81 h82 h9 h10 h11 h12
  refine ⟨(⟨kind, frm, tow, node, life, seq, na, nb, key, found, time, gone, value, ws, note, hint, must⟩, A, n, c), ?_, ⟨by simp only; omega, by simp only; omega, by simp only; omega, by simp only; omega, by simp only; omega, w6, w10, w82⟩, wrs_of s9, by simp only; omega⟩
  match cs, hl with
  | [c0, c1, c2, c3, c4, c5, c6, c7, c8, c9, c10, c11, c12, c13, c14, c15, c16], _ =>
    simp [ei, eu, es, eb, et, ev, ew] at h0 h1 h2 h30 h31 h32 h4 h5 h6 h7 h80 h81 h82 h9 h10 h11 h12
    subst h0 h1 h2 h30 h31 h32 h4 h5 h6 h7 h80 h81 h82 h9 h10 h11 h12
    rfl
end
theorem msg_encodes_walk (a0 : Int) (p : MsgS × Option Addr × Nat × Nat) (W : World) (_ : (Lit.int .i64 a0).wf = true) (hi : p.1.In) (hw : Wrs W p.2.1 p.2.2.1 p.1.ws) (hn : p.2.2.1 ≤ 140737488351232) :
    Calls Try.prog 3 #[.int .i64 a0, .agg (p.1.arr p.2.1 p.2.2.1 p.2.2.2)] W fun e w' => e = .returned (.bool true) ∧ Below W.heap.size W w' := msg_encodes a0 p.1 p.2.1 p.2.2.1 p.2.2.2 W hw hn hi
end Go.Proofs.Ytemhmgpihkemjaa.My
