/- An argument that is an array of two whole numbers, opened. -/
import Derived.Test.YtmglkgcogfhabaaOpens
import Derived.OpenShut
namespace Go.Proofs.Ytmglkgcogfhabaa.My
set_option linter.unusedSimpArgs false
set_option linter.unusedVariables false
open Go.ChangeShapes Go.WideShapes Go.RowKit
section
variable {H : Type} {enc : TypeId × Value → H} {P : Program} {w : World} {base : Nat} {spare : Nat → Bool} {held : Bool}
theorem okWide_array {r : Reach} {b0 : Nat} {t : TypeId} {v : Value} {n : Nat} {e : TypeId} (ht : P.underlying t = some (.array n e)) (h : Value.okWide P w r b0 t v) : ∃ cs, v = .agg cs ∧ cs.size = P.cellsOf t := by
  simp only [Value.okWide, ht] at h
  obtain ⟨cs, h1, h2, _⟩ := h
  exact ⟨cs, h1, h2⟩
theorem open_arr2 {r : Reach} {b0 : Nat} {t e : TypeId} {k : IntKind} {v : Value} {d : DataW H} {ps : List MemPlace} (ht : P.underlying t = some (.array 2 e)) (he : P.underlying e = some (.int k)) (hct : P.cellsOf t = 2) (hce : P.cellsOf e = 1)
    (hval : Value.okWide P w r b0 t v) (hd : DataW.Trod enc P w base spare held t v d ps) : ∃ a b, v = .agg #[.int k a, .int k b] ∧ (Lit.int k a).wf = true ∧ (Lit.int k b).wf = true := by
  obtain ⟨cs, rfl, hs⟩ := okWide_array ht hval
  rw [hct] at hs
  obtain ⟨fuel, hf⟩ := hd
  obtain ⟨xs, m, -, -, -, hl, hx⟩ := DataW.trod_array ht hf
  rw [hce] at hx
  obtain ⟨l⟩ := cs
  match l, hs with
  | [c0, c1], _ =>
    have h0 := hx 0 (by omega)
    have h1 := hx 1 (by omega)
    simp only [Value.cells, List.drop, List.take, Nat.zero_mul, Nat.one_mul] at h0 h1
    rw [List.getElem?_eq_getElem (by omega)] at h0 h1
    obtain ⟨a, e0, _, w0⟩ := DataW.trod_int he h0
    obtain ⟨b, e1, _, w1⟩ := DataW.trod_int he h1
    simp only [List.cons.injEq, and_true] at e0 e1
    exact ⟨a, b, by rw [e0, e1], w0, w1⟩
end
end Go.Proofs.Ytmglkgcogfhabaa.My
