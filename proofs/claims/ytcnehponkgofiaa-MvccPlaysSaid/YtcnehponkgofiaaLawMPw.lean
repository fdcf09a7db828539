/- The law MvccPlays: what comes in. -/
import Derived.Test.YtcnehponkgofiaaLawMPl
namespace Go.Proofs.Ytcnehponkgofiaa.My
set_option linter.unusedSimpArgs false
set_option linter.unusedVariables false
open Go.RowKit Go.Proofs.YtcnehponkgofiaaW.PrintWords Go.Proofs.YtcnehponkgofiaaW.PrintLast Go.Proofs.Ytcnehponkgofiaa.Pm

section
variable {H : Type} {enc : TypeId × Value → H} {w : World} {base : Nat} {spare : Nat → Bool} {held : Bool}
theorem version_opens : Opens enc Try.prog w base spare held 25 fun (p : VerT) cs => (cs = verC p ∧ p.1 < 18446744073709551616 ∧ p.2.2.size ≤ 140737488351232) ∧ cs.length = 3 :=
  (opens_struct3 Try.underlying25 (opens_int Try.underlying23) (opens_bool Try.underlying4) (opens_string Try.underlying9)).imp fun p cs ⟨hl, ⟨h0, hw⟩, h1, ⟨h2, hs⟩⟩ => by
    have e : Try.prog.cellsOf 25 = 3 := by kernel_rfl
    have e0 : Try.prog.cellsOf 9 = 1 := by kernel_rfl
    have e1 : Try.prog.cellsOf 4 = 1 := by kernel_rfl
    have e2 : Try.prog.cellsOf 23 = 1 := by kernel_rfl
    obtain ⟨a, b, c⟩ := p
    have hw := wf_u64 hw
    obtain ⟨a, rfl⟩ := Int.eq_ofNat_of_zero_le hw.1
    rw [e] at hl
    simp only [e0, e1, e2] at h0 h1 h2
    refine ⟨(a, b, c), ⟨?_, by simp only; omega, hs⟩, hl⟩
    match cs, hl with
    | [x, y, z], _ => simp at h0 h1 h2; rw [h0, h1, h2]; rfl
def itArr (p : ItT) : Array Value := #[.string p.1, .int .u64 (p.2.1 : Int), .bool p.2.2.1, .string p.2.2.2]
set_option maxRecDepth 10000 in
theorem item_opens : Opens enc Try.prog w base spare held 27 fun (p : ItT) cs => cs = (itArr p).toList ∧ p.2.1 < 18446744073709551616 ∧ p.1.size ≤ 140737488351232 ∧ p.2.2.2.size ≤ 140737488351232 :=
  (opens_struct2 Try.underlying27 (opens_string Try.underlying9) version_opens).imp fun p cs ⟨hl, ⟨h0, hs⟩, ⟨h1, hv, hz⟩, hl1⟩ => by
    have e : Try.prog.cellsOf 27 = 4 := by kernel_rfl
    have e0 : Try.prog.cellsOf 9 = 1 := by kernel_rfl
    have e2 : Try.prog.cellsOf 25 = 3 := by kernel_rfl
    obtain ⟨a, x, y, z⟩ := p
    rw [e] at hl
    simp only [e0, e2] at h0 h1
    refine ⟨(a, x, y, z), ?_, hv, hs, hz⟩
    match cs, hl with
    | [c0, c1, c2, c3], _ =>
      simp [verC] at h0 h1
      obtain ⟨h1, h2, h3⟩ := h1
      subst h0 h1 h2 h3
      rfl
theorem items_opens : Opens enc Try.prog w base spare held 22 fun (l : List ItT) cs => ∃ A len cap, cs = [.slice A len cap] ∧ len ≤ cap ∧ cap ≤ maxLen ∧ len * Try.prog.bytesOf 27 ≤ 140737488351232 ∧ RowSays w (Try.prog.cellsOf 27) (fun p cs => cs = (itArr p).toList ∧ p.2.1 < 18446744073709551616 ∧ p.1.size ≤ 140737488351232 ∧ p.2.2.2.size ≤ 140737488351232) A len l :=
  opens_slice Try.underlying22 (by decide +kernel) item_opens
def askArr (p : AskT) : Array Value := #[.string p.1, .int .u64 (p.2.1 : Int), .string p.2.2.1, .string p.2.2.2.1, .int .i64 p.2.2.2.2]
set_option maxRecDepth 10000 in
theorem asked_opens : Opens enc Try.prog w base spare held 29 fun (p : AskT) cs => cs = (askArr p).toList ∧ p.1.size ≤ 140737488351232 ∧ p.2.2.1.size ≤ 140737488351232 ∧ p.2.2.2.1.size ≤ 140737488351232 := fun fuel cs x hx hf => by
  obtain ⟨hl, hh⟩ := fits_struct Try.underlying29 hx hf
  have e : Try.prog.cellsOf 29 = 5 := by kernel_rfl
  have eu : Try.prog.cellsOf 23 = 1 := by kernel_rfl
  have es : Try.prog.cellsOf 9 = 1 := by kernel_rfl
  have ei : Try.prog.cellsOf 3 = 1 := by kernel_rfl
  obtain ⟨_, _, a0, b0⟩ := hh 0 _ rfl
  obtain ⟨_, _, a1, b1⟩ := hh 1 _ rfl
  obtain ⟨_, _, a2, b2⟩ := hh 2 _ rfl
  obtain ⟨_, _, a3, b3⟩ := hh 3 _ rfl
  obtain ⟨_, _, a4, b4⟩ := hh 4 _ rfl
  clear hh
  obtain ⟨k, h0, w0⟩ := opens_string (enc := enc) Try.underlying9 _ _ _ a0 b0
  obtain ⟨t, h1, w1⟩ := opens_int (enc := enc) Try.underlying23 _ _ _ a1 b1
  obtain ⟨lo, h2, w2⟩ := opens_string (enc := enc) Try.underlying9 _ _ _ a2 b2
  obtain ⟨hi, h3, w3⟩ := opens_string (enc := enc) Try.underlying9 _ _ _ a3 b3
  obtain ⟨mo, h4, _⟩ := opens_int (enc := enc) Try.underlying3 _ _ _ a4 b4
  clear a0 a1 a2 a3 a4 b0 b1 b2 b3 b4 hx hf
  have w1 := wf_u64 w1
  obtain ⟨t, rfl⟩ := Int.eq_ofNat_of_zero_le w1.1
  rw [e] at hl
  refine ⟨(k, t, lo, hi, mo), ?_, w0, w2, w3⟩
  match cs, hl with
  | [c0, c1, c2, c3, c4], _ =>
    simp [eu, es, ei] at h0 h1 h2 h3 h4
    rw [h0, h1, h2, h3, h4]
    rfl
theorem askeds_opens : Opens enc Try.prog w base spare held 42 fun (l : List AskT) cs => ∃ A len cap, cs = [.slice A len cap] ∧ len ≤ cap ∧ cap ≤ maxLen ∧ len * Try.prog.bytesOf 29 ≤ 140737488351232 ∧ RowSays w (Try.prog.cellsOf 29) (fun p cs => cs = (askArr p).toList ∧ p.1.size ≤ 140737488351232 ∧ p.2.2.1.size ≤ 140737488351232 ∧ p.2.2.2.1.size ≤ 140737488351232) A len l :=
  opens_slice Try.underlying42 (by decide +kernel) asked_opens
end
theorem mvcc_plays_walk (A0 : Option Addr) (len0 cap0 : Nat) (l0 : List ItT) (A1 : Option Addr) (len1 cap1 : Nat) (l1 : List AskT) (W : World) (hc : len0 ≤ cap0) (hs : len0 * Try.prog.bytesOf 27 ≤ 140737488351232)
    (hr : RowSays W (Try.prog.cellsOf 27) (fun p cs => cs = (itArr p).toList ∧ p.2.1 < 18446744073709551616 ∧ p.1.size ≤ 140737488351232 ∧ p.2.2.2.size ≤ 140737488351232) A0 len0 l0)
    (hc1 : len1 ≤ cap1) (hs1 : len1 * Try.prog.bytesOf 29 ≤ 140737488351232)
    (hr1 : RowSays W (Try.prog.cellsOf 29) (fun p cs => cs = (askArr p).toList ∧ p.1.size ≤ 140737488351232 ∧ p.2.2.1.size ≤ 140737488351232 ∧ p.2.2.2.1.size ≤ 140737488351232) A1 len1 l1) :
    Calls Try.prog 4 #[.slice A0 len0 cap0, .slice A1 len1 cap1] W fun e w' => e = .returned (.bool true) ∧ Below W.heap.size W w' := by
  have e1 : Try.prog.cellsOf 27 = 4 := by kernel_rfl
  have e2 : Try.prog.bytesOf 27 = 48 := by kernel_rfl
  have e3 : Try.prog.cellsOf 29 = 5 := by kernel_rfl
  have e4 : Try.prog.bytesOf 29 = 64 := by kernel_rfl
  rw [e1] at hr
  rw [e2] at hs
  rw [e3] at hr1
  rw [e4] at hs1
  exact mvcc_plays A0 len0 cap0 l0 A1 len1 cap1 l1 W (RowF.of_says (f := itC) (hr.imp fun _ _ h => h.1)) (by omega) (hr.all fun _ _ h => h.2) (RowF.of_says (f := askC) (hr1.imp fun _ _ h => h.1)) (by omega) (hr1.all fun _ _ h => h.2)
end Go.Proofs.Ytcnehponkgofiaa.My
