/- slices.Clone of versions; mvcc.Store.Install: what it leaves. -/
import Derived.Test.YtcnehponkgofiaaIns
namespace Go.Proofs.Ytcnehponkgofiaa.My
set_option linter.unusedSimpArgs false
set_option linter.unusedVariables false
open Go.RowKit Go.Proofs.YtcnehponkgofiaaW.PrintWords Go.Proofs.YtcnehponkgofiaaW.PrintLast Go.Proofs.Ytcnehponkgofiaa.Pm

theorem nil_eq (A : Option Addr) (n c : Nat) (w : World) : (binOp .eql 63 (.slice A n c) (.slice none 0 0)).run Try.prog w = .ok (.bool A.isNone) w := by
  cases A <;> kernel_rfl
set_option maxRecDepth 100000 in
theorem clone_any (A : Option Addr) (n c : Nat) (l : List VerT) (w : World) (hA : RowF w 3 verC A n l) (hn : n ≤ 1000) :
    Calls Try.prog 36 #[.slice A n c] w fun e w' => ∃ v', e = .returned v' ∧ OwnF w' w.heap.size 25 3 verC v' l ∧ Below w.heap.size w w' := by
  cases A with
  | none =>
    have h0 : n = 0 := by
      rcases Nat.eq_zero_or_pos n with h | h
      · exact h
      · obtain ⟨b, off, e, _⟩ := hA.2 h
        cases e
    subst h0
    obtain rfl : l = [] := List.eq_nil_of_length_eq_zero hA.1
    clear hA
    have HB := Lib.hid (Below.refl w.heap.size w)
    have hq := nil_eq none 0 c w
    have HO := Lib.hid (OwnF.nil w w.heap.size 25 3 verC)
    simp only [Option.isNone_none] at hq
    go_enter Try.func36, Try.ntmps36
    go_wp2
    go_ret
    exact ⟨_, rfl, HO.out, HB.out⟩
  | some a =>
    obtain ⟨v1, w1, hr1, ho1, hg1, _⟩ := run_app_rows (P := Try.prog) (base := w.heap.size) (W := w.alloc (.cells #[] 25)) (xs := ([] : List VerT)) 63 63 Try.underlying63 info_vr rfl (by decide) (by decide) verC_len verC_one (OwnF.empty (blk_new w (.cells #[] 25)) (Nat.le_refl _) 3 verC) (c := c) (hA.below (below_alloc (Below.refl _ w) _)) (by simp) (by simp only [List.length_nil]; omega)
    obtain ⟨A1, n1, c1, rfl⟩ : ∃ A m c, v1 = .slice A m c := by obtain ⟨A, c, e, _⟩ := ho1.slice_; exact ⟨_, _, _, e⟩
    have hq := nil_eq (some a) n c w
    have HO := Lib.hid (show OwnF w1 w.heap.size 25 3 verC (.slice A1 n1 c1) l from ho1)
    have HB := Lib.hid (show Below w.heap.size w w1 from (below_alloc (Below.refl _ w) _).grown hg1 (by simp) (fun k hk => by cases hk; exact Nat.le_refl _))
    clear ho1 hg1 hA
    simp only [Option.isNone_some] at hq
    go_enter Try.func36, Try.ntmps36
    go_wp2_with (at_builtin; refine wpl_app rfl (.tmp 5) (.tmp 6) 63 rfl rfl rfl hr1 ?_)
    go_ret
    exact ⟨_, rfl, HO.out, HB.out⟩
def errS (es : List EntP) (key : ByteArray) (v : VerT) : Nat :=
  if ¬ (key.size ≤ 100 ∧ v.2.2.size ≤ 500) then 3 else if v.1 = 0 ∨ (v.2.1 = true ∧ v.2.2.size ≠ 0) then 1 else if v.1 ≤ lastS (chS es key) then 8 else if 200 ≤ (chS es key).length then 11 else 0
theorem right_one (v : VerT) : rightV [v] ↔ ¬ (v.1 = 0 ∨ (v.2.1 = true ∧ v.2.2.size ≠ 0)) := by
  constructor
  · intro h e
    have := h.1 0 (by simp)
    simp only [List.getElem_cons_zero] at this
    rcases e with e | ⟨e1, e2⟩
    · exact this.1 e
    · exact e2 (this.2.2 e1)
  · intro h
    refine ⟨fun j hj => ?_, by simp⟩
    obtain rfl : j = 0 := by simpa using hj
    refine ⟨fun e => h (.inl e), fun h0 => absurd h0 (by decide), fun e => ?_⟩
    simp only [List.getElem_cons_zero] at e ⊢
    exact Classical.byContradiction fun e2 => h (.inr ⟨e, e2⟩)
theorem right_snoc {ch : List VerT} {v : VerT} (h : rightV ch) (hv : ¬ (v.1 = 0 ∨ (v.2.1 = true ∧ v.2.2.size ≠ 0))) (hl : lastS ch < v.1) (hn : ch.length < 200) : rightV (ch ++ [v]) := by
  refine ⟨fun j hj => ?_, by simp; omega⟩
  rw [List.length_append, List.length_singleton] at hj
  by_cases e : j < ch.length
  · obtain ⟨h1, h2, h3⟩ := h.1 j e
    refine ⟨by rw [List.getElem_append_left e]; exact h1, fun h0 => ?_, by rw [List.getElem_append_left e]; exact h3⟩
    rw [List.getElem_append_left e, List.getElem_append_left (by omega)]
    exact h2 h0
  · obtain rfl : j = ch.length := by omega
    simp only [List.getElem_append_right (Nat.le_refl _), Nat.sub_self, List.getElem_cons_zero]
    refine ⟨fun e => hv (.inl e), fun h0 => ?_, fun e => Classical.byContradiction fun e2 => hv (.inr ⟨e, e2⟩)⟩
    rw [List.getElem_append_left (by omega)]
    unfold lastS at hl
    rw [List.getLast?_eq_getElem?, List.getElem?_eq_getElem (by omega)] at hl
    exact hl
theorem flat_set {α : Type} {n j : Nat} {f : α → List Value} (hf : ∀ x, (f x).length = n) {x' : α} {u : Value} (hj : j < n) : ∀ (l : List α) (i : Nat) (hi : i < l.length), f x' = (f l[i]).set j u → (l.set i x').flatMap f = (l.flatMap f).set (i * n + j) u
  | x :: r, 0, _, h => by
    simp only [List.set_cons_zero, List.flatMap_cons, Nat.zero_mul, Nat.zero_add]
    rw [List.set_append_left _ _ (by rw [hf]; exact hj), h]
    rfl
  | x :: r, i + 1, hi, h => by
    simp only [List.set_cons_succ, List.flatMap_cons]
    rw [List.set_append_right _ _ (by rw [hf, Nat.succ_mul]; omega), hf, show (i + 1) * n + j - n = i * n + j by rw [Nat.succ_mul]; omega, flat_set hf hj r i (by simpa using hi) h]
theorem OwnF.setCell {α : Type} {w : World} {base e n g m c : Nat} {f : α → List Value} {l : List α} (h : OwnF w base e n f (.slice (some ⟨g, 0, none⟩) m c) l) (hf : ∀ x, (f x).length = n) {i j : Nat} (hi : i < l.length) (hj : j < n) {x' : α} {u : Value} (hx : f x' = (f l[i]).set j u) :
    OwnF (w.setCell ⟨g, i * n + j, none⟩ u) base e n f (.slice (some ⟨g, 0, none⟩) m c) (l.set i x') := by
  obtain ⟨h1, h2⟩ := h
  rcases h2 with ⟨h2, _⟩ | ⟨g', cap, cur, h2, hb, hg, hc, hm, hs, ht⟩
  · cases h2
  · injection h2 with h3 h4 h5
    cases h3
    subst h4 h5
    refine ⟨by rw [flat_set hf hj l i hi hx, List.length_set, List.length_set]; exact h1, .inr ⟨g, c, cur.setIfInBounds (i * n + j) u, by rw [List.length_set], hb, blk_set hg _ _, by rw [List.length_set]; exact hc, hm, by rw [Array.size_setIfInBounds]; exact hs, ?_⟩⟩
    rw [flat_set hf hj l i hi hx, List.length_set, ← ht, Array.toList_setIfInBounds, List.take_set]
end Go.Proofs.Ytcnehponkgofiaa.My
