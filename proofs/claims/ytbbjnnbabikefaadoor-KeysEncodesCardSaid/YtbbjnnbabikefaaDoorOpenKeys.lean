/- An item that comes in, opened. -/
import Derived.Test.YtbbjnnbabikefaaDoorKeys5
import Derived.Test.YtbbjnnbabikefaaDoorOpens
namespace Go.Proofs.YtbbjnnbabikefaaDoor.My
set_option linter.unusedSimpArgs false
set_option linter.unusedVariables false
open Go.RowKit Go.Proofs.YtbbjnnbabikefaaDoorW.PrintWords Go.Proofs.YtbbjnnbabikefaaDoorW.PrintLast Go.Proofs.YtbbjnnbabikefaaDoor.Pm
section
variable {H : Type} {enc : TypeId × Value → H} {w : World} {base : Nat} {spare : Nat → Bool} {held : Bool}
def ItemR (x : IR) (cs : List Value) : Prop := cs = x.arr.toList ∧ x.In ∧ x.t.size ≤ 140737488351232
theorem item_opens : Opens enc Tryd.prog w base spare held 24 ItemR := fun fuel cs x hx hf => by
  obtain ⟨hl, hh⟩ := fits_struct Tryd.underlying24 hx hf
  have e : Tryd.prog.cellsOf 24 = 5 := by kernel_rfl
  have e8 : Tryd.prog.cellsOf 5 = 1 := by kernel_rfl
  have ei : Tryd.prog.cellsOf 2 = 1 := by kernel_rfl
  have eu : Tryd.prog.cellsOf 22 = 1 := by kernel_rfl
  have es : Tryd.prog.cellsOf 9 = 1 := by kernel_rfl
  have eb : Tryd.prog.cellsOf 4 = 1 := by kernel_rfl
  obtain ⟨_, _, a0, b0⟩ := hh 0 _ rfl
  obtain ⟨_, _, a1, b1⟩ := hh 1 _ rfl
  obtain ⟨_, _, a2, b2⟩ := hh 2 _ rfl
  obtain ⟨_, _, a3, b3⟩ := hh 3 _ rfl
  obtain ⟨_, _, a4, b4⟩ := hh 4 _ rfl
  clear hh
  obtain ⟨k, h0, w0⟩ := opens_int (enc := enc) Tryd.underlying5 _ _ _ a0 b0
  obtain ⟨i, h1, w1⟩ := opens_int (enc := enc) Tryd.underlying2 _ _ _ a1 b1
  obtain ⟨u, h2, w2⟩ := opens_int (enc := enc) Tryd.underlying22 _ _ _ a2 b2
  obtain ⟨t, h3, w3⟩ := opens_string (enc := enc) Tryd.underlying9 _ _ _ a3 b3
  obtain ⟨d, h4⟩ := opens_bool (enc := enc) Tryd.underlying4 _ _ _ a4 b4
  clear a0 a1 a2 a3 a4 b0 b1 b2 b3 b4 hx hf
  have z0 := wf_u8 w0
  have z1 := wf_i64 w1
  have z2 := wf_u64 w2
  obtain ⟨k, rfl⟩ := Int.eq_ofNat_of_zero_le z0.1
  obtain ⟨u, rfl⟩ := Int.eq_ofNat_of_zero_le z2.1
  rw [e] at hl
  try simp only [e8, ei, eu, es, eb] at h0 h1 h2 h3 h4
  refine ⟨⟨k, i, u, t, d⟩, ?_, ⟨by simp only; omega, by simp only; omega, by simp only; omega⟩, w3⟩
  match cs, hl with
  | [c0, c1, c2, c3, c4], _ =>
    simp [e8, ei, eu, es, eb] at h0 h1 h2 h3 h4
    subst h0 h1 h2 h3 h4
    rfl
theorem items_opens : Opens enc Tryd.prog w base spare held 27 fun (l : List IR) cs => ∃ A len cap, cs = [.slice A len cap] ∧ len ≤ cap ∧ cap ≤ maxLen ∧ len * Tryd.prog.bytesOf 24 ≤ 140737488351232 ∧ RowSays w (Tryd.prog.cellsOf 24) ItemR A len l :=
  opens_slice Tryd.underlying27 (by decide +kernel) item_opens
end
theorem items_of {w : World} {A : Option Addr} {n : Nat} {l : List IR} (h : RowSays w (Tryd.prog.cellsOf 24) ItemR A n l) : RowF w 5 irC A n l ∧ ∀ x ∈ l, x.In ∧ x.t.size ≤ 140737488351232 := by
  have e : Tryd.prog.cellsOf 24 = 5 := by kernel_rfl
  rw [e] at h
  exact ⟨RowF.of_says (h.imp fun x c hx => hx.1), h.all fun x c hx => hx.2⟩
theorem items_bytes : Tryd.prog.bytesOf 24 = 48 := by kernel_rfl
end Go.Proofs.YtbbjnnbabikefaaDoor.My
