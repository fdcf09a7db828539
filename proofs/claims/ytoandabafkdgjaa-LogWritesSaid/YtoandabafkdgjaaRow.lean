/- Rows that come in, each element's cells a function of it; a function of the library that looks for the first element for which a closure says yes. -/
import Derived.Test.YtoandabafkdgjaaRes
import Derived.Test.YtoandabafkdgjaaOpens
import Derived.Test.YtoandabafkdgjaaPm
namespace Go.Proofs.Ytoandabafkdgjaa.My
set_option linter.unusedSimpArgs false
set_option linter.unusedVariables false
open Go.RowKit Go.Proofs.YtoandabafkdgjaaW.PrintWords Go.Proofs.YtoandabafkdgjaaW.PrintLast Go.Proofs.Ytoandabafkdgjaa.Pm

/-- A slice that can be read: its elements' cells are f's. -/
def RowF {α : Type} (w : World) (n : Nat) (f : α → List Value) (A : Option Addr) (len : Nat) (l : List α) : Prop :=
  l.length = len ∧ (0 < len → ∃ b off, A = some ⟨b, off, none⟩ ∧ b < w.heap.size ∧ ∀ j (h : j < l.length), w.rangeAt b (off + j * n) (f (l[j]'h)))
section
variable {α : Type} {w w1 : World} {n : Nat} {f : α → List Value} {A : Option Addr} {len : Nat} {l : List α}
theorem RowF.below (h : RowF w n f A len l) (hb : Below w.heap.size w w1) : RowF w1 n f A len l :=
  ⟨h.1, fun h0 => by
    obtain ⟨b, off, e, hl, hc⟩ := h.2 h0
    exact ⟨b, off, e, Nat.lt_of_lt_of_le hl hb.size, fun j hj => range_below (hc j hj) hb hl⟩⟩
theorem RowF.nil (w : World) (n : Nat) (f : α → List Value) : RowF w n f none 0 [] := ⟨rfl, fun h => absurd h (by decide)⟩
theorem RowF.get (h : RowF w n f A len l) (j : Nat) (hj : j < len) : ∃ b off, ∃ hj' : j < l.length, A = some ⟨b, off, none⟩ ∧ b < w.heap.size ∧ w.rangeAt b (off + j * n) (f l[j]) := by
  obtain ⟨b, off, e, hl, hc⟩ := h.2 (by omega)
  exact ⟨b, off, by rw [h.1]; exact hj, e, hl, hc j _⟩
theorem RowF.lt (h : RowF w n f A len l) {b off : Nat} (e : A = some ⟨b, off, none⟩) (h0 : 0 < len) : b < w.heap.size := by
  obtain ⟨b', off', e', hl, _⟩ := h.2 h0
  rw [e] at e'
  cases e'
  exact hl
theorem RowF.of_says (h : RowSays w n (fun p cs => cs = f p) A len l) : RowF w n f A len l :=
  ⟨h.1, fun h0 => by
    obtain ⟨b, off, e, hb, hc⟩ := h.2 h0
    refine ⟨b, off, e, hb, fun j hj => ?_⟩
    obtain ⟨c, _, h3, h4⟩ := hc j hj
    rw [h3] at h4
    exact h4⟩
theorem RowSays.all {R : α → List Value → Prop} {q : α → Prop} (h : RowSays w n R A len l) (hq : ∀ a c, R a c → q a) : ∀ a ∈ l, q a := fun a ha => by
  obtain ⟨j, hj, rfl⟩ := List.getElem_of_mem ha
  obtain ⟨b, off, e, hb, hc⟩ := h.2 (by have := h.1; omega)
  obtain ⟨c, _, h3, _⟩ := hc j hj
  exact hq _ _ h3
/-- The first so many of them. -/
theorem RowF.take (h : RowF w n f A len l) {k : Nat} (hk : k ≤ len) : RowF w n f A k (l.take k) :=
  ⟨by rw [List.length_take, h.1]; omega, fun h0 => by
    obtain ⟨b, off, e, hl, hc⟩ := h.2 (by omega)
    refine ⟨b, off, e, hl, fun j hj => ?_⟩
    rw [List.length_take] at hj
    rw [List.getElem_take]
    exact hc j (by omega)⟩
end
theorem wpList_load_part {P : Program} {ops : Array Oper} {rest : List Oper} {o : Oper} {a : Act} {w : World} {Q : Exit → Act → World → Prop} (hgd : o.guard = none) (ty : TypeId) (x : Operand) (ho : o.op = .load ty x)
    (b f : Nat) (hx : a.eval x = .pointer (some ⟨b, f, none⟩)) (T : Array Value) (d : TypeDesc) (hc : w.rangeAt b f T.toList) (hu : P.underlying ty = some d) (hd : d.isRow = true) (hi : (P.info? ty).map (·.size) = some T.size)
    (h : wpList P ops Q rest (a.put o.dst (.agg T)) w) : wpList P ops Q (o :: rest) a w :=
  wpList_load_mid hgd ty x ho b f hx T.toList d hc hu hd (by rw [Array.length_toList]; exact hi) (by rw [Array.toArray_toList]; exact h)
theorem next_wrap {i len : Nat} (hi : i < len) (hl : len ≤ 140737488351232) : wrap64 ((i : Int) + 1) = ((i + 1 : Nat) : Int) := wrap64_id (by omega) (by omega)
theorem prev_wrap {i : Nat} (hl : i ≤ 140737488351232) : wrap64 ((i : Int) - 1) = (i : Int) - 1 := wrap64_id (by omega) (by omega)
theorem any_first {α : Type} {p : α → Bool} : ∀ {l : List α} {i : Nat} (h : i < l.length), p l[i] = true → l.any p = true
  | l, i, h, hp => List.any_eq_true.2 ⟨_, List.getElem_mem h, hp⟩
theorem any_none {α : Type} {p : α → Bool} {l : List α} (h : ∀ j (hj : j < l.length), p l[j] = false) : l.any p = false := by
  rw [List.any_eq_false]
  intro x hx
  obtain ⟨j, hj, rfl⟩ := List.getElem_of_mem hx
  rw [h j hj]
  decide
end Go.Proofs.Ytoandabafkdgjaa.My
