/- A slice of strings that comes in, opened. -/
import Derived.Test.YtoandabafkdgjaaOpens
import Derived.Test.YtoandabafkdgjaaLawLX
namespace Go.Proofs.Ytoandabafkdgjaa.My
set_option linter.unusedVariables false
open Go.RowKit Go.Proofs.YtoandabafkdgjaaW.PrintWords Go.Proofs.YtoandabafkdgjaaW.PrintLast Go.Proofs.Ytoandabafkdgjaa.Pm
section
variable {H : Type} {enc : TypeId × Value → H} {w : World} {base : Nat} {spare : Nat → Bool} {held : Bool}
def StrR (b : ByteArray) (cs : List Value) : Prop := cs = [.string b] ∧ b.size ≤ 140737488351232
theorem strs_opens : Opens enc Try.prog w base spare held 45 fun (l : List ByteArray) cs => ∃ A len cap, cs = [.slice A len cap] ∧ len ≤ cap ∧ cap ≤ maxLen ∧ len * Try.prog.bytesOf 9 ≤ 140737488351232 ∧ RowSays w (Try.prog.cellsOf 9) StrR A len l :=
  opens_slice Try.underlying45 (by decide +kernel) (opens_string Try.underlying9)
end
theorem strs_of {w : World} {A : Option Addr} {n : Nat} {l : List ByteArray} (h : RowSays w (Try.prog.cellsOf 9) StrR A n l) : RowF w 1 strC A n l := by
  have e : Try.prog.cellsOf 9 = 1 := by kernel_rfl
  rw [e] at h
  exact RowF.of_says (h.imp fun x c hx => hx.1)
theorem str_bytes : Try.prog.bytesOf 9 = 16 := by kernel_rfl
theorem writes_row (a : Int) (A : Option Addr) (n c : Nat) (l : List ByteArray) (w : World) (ha : (Lit.int .u8 a).wf = true) (h1 : n ≤ c) (h2 : n * Try.prog.bytesOf 9 ≤ 140737488351232) (h3 : RowSays w (Try.prog.cellsOf 9) StrR A n l) :
    Calls Try.prog 6 #[.int .u8 a, .slice A n c] w fun e w' => e = .returned (.bool true) ∧ Below w.heap.size w w' := by
  have z := wf_u8 ha
  obtain ⟨a0, rfl⟩ := Int.eq_ofNat_of_zero_le z.1
  rw [str_bytes] at h2
  exact log_writes_walk a0 A n c l w (by omega) (strs_of h3) (by omega)
end Go.Proofs.Ytoandabafkdgjaa.My
