/- Rows of the call's own whose elements' cells are a function's; appends of whole rows and of one element, as steps of a region. -/
import Derived.Test.YtbbjnnbabikefaaDoorRow
namespace Go.Proofs.YtbbjnnbabikefaaDoor.My
set_option linter.unusedSimpArgs false
set_option linter.unusedVariables false
open Go.RowKit Go.Proofs.YtbbjnnbabikefaaDoorW.PrintWords Go.Proofs.YtbbjnnbabikefaaDoorW.PrintLast Go.Proofs.YtbbjnnbabikefaaDoor.Pm

/-- A row of the call's own. -/
def OwnF {α : Type} (w : World) (base e n : Nat) (f : α → List Value) (v : Value) (l : List α) : Prop := w.ownsRow base e n v l.length (l.flatMap f)
section
variable {α : Type} {w w1 : World} {base e n : Nat} {f : α → List Value} {v : Value} {l : List α}
theorem flat_get (hf : ∀ x, (f x).length = n) : ∀ (l : List α) (j i : Nat) (hj : j < l.length), i < n → (l.flatMap f)[j * n + i]? = (f l[j])[i]?
  | x :: r, 0, i, _, hi => by
    rw [List.flatMap_cons, Nat.zero_mul, Nat.zero_add, List.getElem?_append_left (by rw [hf]; exact hi)]
    rfl
  | x :: r, j + 1, i, hj, hi => by
    rw [List.flatMap_cons, List.getElem?_append_right (by rw [hf, Nat.succ_mul]; omega), hf, show (j + 1) * n + i - n = j * n + i by rw [Nat.succ_mul]; omega]
    exact flat_get hf r j i (by simpa using hj) hi
theorem flat_len (hf : ∀ x, (f x).length = n) : ∀ (l : List α), (l.flatMap f).length = l.length * n
  | [] => by simp
  | x :: r => by rw [List.flatMap_cons, List.length_append, flat_len hf r, hf, List.length_cons, Nat.succ_mul]; omega
theorem OwnF.nil (w : World) (base e n : Nat) (f : α → List Value) : OwnF w base e n f (.slice none 0 0) [] := ⟨by simp, .inl ⟨rfl, rfl⟩⟩
/-- The empty row in a block of no cells. -/
theorem OwnF.empty {g : Nat} (hg : w.heap[g]? = some (.cells #[] e (0, 0))) (hb : base ≤ g) (n : Nat) (f : α → List Value) : OwnF w base e n f (.slice (some ⟨g, 0, none⟩) 0 0) [] :=
  ⟨by simp, .inr ⟨g, 0, #[], rfl, hb, hg, Nat.le_refl _, by decide, by simp, by simp⟩⟩
theorem OwnF.one {g : Nat} {cs : Array Value} {x : α} (hg : w.heap[g]? = some (.cells cs e (0, 0))) (hb : base ≤ g) (h : cs.toList = f x) (hn : (f x).length = n) : OwnF w base e n f (.slice (some ⟨g, 0, none⟩) 1 1) [x] :=
  ⟨by simp [hn], .inr ⟨g, 1, cs, rfl, hb, hg, Nat.le_refl _, by decide, by rw [← Array.length_toList, h, hn, Nat.one_mul], by
    simp only [List.length_singleton, Nat.one_mul, List.flatMap_cons, List.flatMap_nil, List.append_nil]
    rw [h, List.take_of_length_le (by rw [hn]; exact Nat.le_refl _)]⟩⟩
theorem OwnF.keep (h : OwnF w base e n f v l) (hk : ∀ g, v.ownBlock = some g → g < w.heap.size → w1.heap[g]? = w.heap[g]?) : OwnF w1 base e n f v l := by
  obtain ⟨h1, h2⟩ := h
  refine ⟨h1, ?_⟩
  rcases h2 with h2 | ⟨g, cap, cur, rfl, hb, hg, r⟩
  · exact .inl h2
  · exact .inr ⟨g, cap, cur, rfl, hb, (hk g rfl (blk_lt hg)).trans hg, r⟩
theorem OwnF.below (h : OwnF w base e n f v l) (hb : Below w.heap.size w w1) : OwnF w1 base e n f v l := h.keep fun g _ hg => hb.block g hg
theorem OwnF.lower {base' : Nat} (h : OwnF w base e n f v l) (hb : base' ≤ base) : OwnF w base' e n f v l := by
  obtain ⟨h1, h2⟩ := h
  refine ⟨h1, ?_⟩
  rcases h2 with h2 | ⟨g, cap, cur, rfl, hg, r⟩
  · exact .inl h2
  · exact .inr ⟨g, cap, cur, rfl, Nat.le_trans hb hg, r⟩
theorem OwnF.slice_ (h : OwnF w base e n f v l) : ∃ A c, v = .slice A l.length c ∧ l.length ≤ c := by
  rcases h.2 with ⟨rfl, h0⟩ | ⟨g, cap, cur, rfl, _, _, hc, _⟩
  · exact ⟨none, 0, by rw [h0], by omega⟩
  · exact ⟨_, cap, rfl, hc⟩
theorem OwnF.row {A : Option Addr} {m c : Nat} (h : OwnF w base e n f (.slice A m c) l) (hf : ∀ x, (f x).length = n) : RowF w n f A m l := by
  rcases h.2 with ⟨h0, h1⟩ | ⟨g, cap, cur, h0, hb, hg, hc, _, hs, ht⟩
  · injection h0 with h2 h3 h4
    subst h2 h3 h4
    obtain rfl : l = [] := List.eq_nil_of_length_eq_zero h1
    exact RowF.nil _ _ _
  · injection h0 with h2 h3 h4
    subst h2 h3 h4
    refine ⟨rfl, fun _ => ⟨g, 0, rfl, blk_lt hg, fun j hj i v hi => ?_⟩⟩
    have hin : i < n := by rw [← hf l[j]]; exact (List.getElem?_eq_some_iff.1 hi).1
    have h5 := flat_get hf l j i hj hin
    rw [hi, ← ht, List.getElem?_take, if_pos (by
      have : (j + 1) * n ≤ l.length * n := Nat.mul_le_mul_right _ hj
      rw [Nat.succ_mul] at this
      omega)] at h5
    rw [Nat.zero_add]
    exact (blk_cell hg _).trans (by simpa using h5)
theorem OwnF.one_cell (h : OwnF w base e n f v l) : v.oneCell' = true := by
  rcases h.2 with ⟨rfl, _⟩ | ⟨g', cap, cur, rfl, _⟩ <;> rfl
theorem OwnF.block_ge (h : OwnF w base e n f v l) : ∀ g, v.ownBlock = some g → base ≤ g ∧ g < w.heap.size := fun g hg => by
  rcases h.2 with ⟨rfl, _⟩ | ⟨g', cap, cur, rfl, hb, hh, _⟩
  · cases hg
  · cases hg; exact ⟨hb, blk_lt hh⟩
end
theorem OwnF.ne_type {α : Type} {w : World} {base e n g t : Nat} {f : α → List Value} {v : Value} {l : List α} {cs : Array Value} {fr : Nat × Nat} (h : OwnF w base e n f v l) (hg : w.heap[g]? = some (.cells cs t fr)) (hne : e ≠ t) : v.ownBlock ≠ some g := by
  rcases h.2 with ⟨rfl, _⟩ | ⟨g', cap, cur, rfl, _, hh, _⟩
  · intro e; cases e
  · intro e
    cases e
    rw [hh] at hg
    cases hg
    exact hne rfl
/-- What an append of a row that can be read leaves. -/
theorem run_app_rows {P : Program} {α : Type} {W : World} {base e n bytes : Nat} {f : α → List Value} {v : Value} {xs ys : List α} {z : Value} (t ty : TypeId) (ht : P.underlying t = some (.slice e)) (hinfo : (P.info? e).map (fun i => (i.zero, i.size, i.bytes)) = some (some z, n, bytes)) (hz : z.cells.size = n) (hs0 : 0 < n) (hb0 : 0 < bytes)
    (hf : ∀ x, (f x).length = n) (h1 : ∀ x, ∀ u ∈ f x, u.oneCell' = true) (HO : OwnF W base e n f v xs) {A : Option Addr} {m c : Nat} (HR : RowF W n f A m ys) (hbase : base ≤ W.heap.size) (hl : (xs.length + m) * bytes ≤ 140737488355328) :
    ∃ v1 w1, (Builtin.append_ #[t, t] ty #[v, .slice A m c]).run P W = .ok v1 w1 ∧ OwnF w1 base e n f v1 (xs ++ ys) ∧ W.grownBy w1 v.ownBlock ∧ (v1.ownBlock = v.ownBlock ∨ v1.ownBlock = some W.heap.size) := by
  obtain ⟨i0, hi, hzz⟩ := Option.map_eq_some_iff.1 hinfo
  simp only [Prod.mk.injEq] at hzz
  obtain ⟨hz0, hz1, hz2⟩ := hzz
  have hlen : xs.length + m ≤ 140737488355328 := Nat.le_trans (Nat.le_mul_of_pos_right _ hb0) hl
  have hm : ys.length = m := HR.1
  rcases Nat.eq_zero_or_pos m with h0 | h0
  · subst h0
    obtain rfl : ys = [] := List.eq_nil_of_length_eq_zero hm
    refine ⟨v, W, ?_, by simpa using HO, World.grownBy.refl W _, .inl rfl⟩
    rcases HO.2 with ⟨rfl, hn⟩ | ⟨g, cap, cur, rfl, _, _, hnc, _⟩
    · cases A <;> simp [Builtin.append_, run_underlying ht, sizeOf, typeInfo, hi, Builtin.lenOf, Builtin.firstCells, loadCells, loadCellsFrom]
    · cases A <;> simp [Builtin.append_, run_underlying ht, sizeOf, typeInfo, hi, Builtin.lenOf, Builtin.firstCells, hnc, storeCells, loadCells, loadCellsFrom]
  · obtain ⟨b, off, rfl, hbW, hc⟩ := HR.2 h0
    obtain ⟨v1, w1, hr, h2, h3, _, h5⟩ := run_append_own_at (P := P) (w := W) base t ty e i0 z n bytes ht hi hz0 hz1 hz2 hz hs0 v xs.length (xs.flatMap f) HO ⟨b, off, none⟩ m c (ys.flatMap f) (by rw [flat_len hf, hm])
      (fun j u hu => by
        have hj : j < ys.length * n := by rw [← flat_len hf]; exact (List.getElem?_eq_some_iff.1 hu).1
        have hq : j / n < ys.length := by rw [Nat.div_lt_iff_lt_mul hs0]; exact hj
        have hdm := Nat.div_add_mod j n
        have hmod := Nat.mod_lt j hs0
        have e2 := flat_get hf ys (j / n) (j % n) hq hmod
        rw [show j / n * n + j % n = j by rw [Nat.mul_comm]; exact hdm, hu] at e2
        have := hc (j / n) hq (j % n) u e2.symm
        rw [Go.WideShapes.add_plain]
        rw [show off + j = off + j / n * n + j % n by rw [Nat.mul_comm]; omega]
        exact this)
      (fun u hu => by obtain ⟨x, _, hx⟩ := List.mem_flatMap.1 hu; exact h1 x u hx) (by simp only [maxLen]; omega) hl hbase
    refine ⟨v1, w1, hr, ?_, h3, h5⟩
    unfold OwnF
    rw [List.length_append, hm, List.flatMap_append]
    exact h2
section
variable {P : Program} {ops : Array Oper} {o : Oper} {a : Act} {Q : Exit → Act → World → Prop} {K : Act → World → Prop} {W w1 : World} {v u v1 : Value}
/-- append as one step of a region whose order is drawn. -/
theorem step_app (hw : Region.wanted o (yielded ops a.tmps) = true) (s x : Operand) (t : TypeId) (ho : o.op = .call { callee := .builtin .append, args := #[s, x], argTypes := #[t, t] }) (hs : a.eval s = v) (hx : a.eval x = u)
    (hr : (Builtin.append_ #[t, t] o.type #[v, u]).run P W = .ok v1 w1) (h : K (a.put o.dst v1) w1) :
    if Region.wanted o (yielded ops a.tmps) = true then Oper.wp P o a W K Q else K (a.put o.dst undef) W := by
  rw [if_pos hw]
  unfold Oper.wp execOp
  simp only [ho, resolve, invoke, builtin, Sem.run_bind, Sem.run_pure, Result.andThen_ok, List.map_toArray, List.map_cons, List.map_nil, hs, hx, hr]
  exact h
/-- append as one operation of a straight region. -/
theorem wpl_app {rest : List Oper} (hg : o.guard = none) (s x : Operand) (t : TypeId) (ho : o.op = .call { callee := .builtin .append, args := #[s, x], argTypes := #[t, t] }) (hs : a.eval s = v) (hx : a.eval x = u)
    (hr : (Builtin.append_ #[t, t] o.type #[v, u]).run P W = .ok v1 w1) (h : wpList P ops Q rest (a.put o.dst v1) w1) : wpList P ops Q (o :: rest) a W := by
  refine wpList_plain hg fun K hK => ?_
  unfold Oper.wp execOp
  simp only [ho, resolve, invoke, builtin, Sem.run_bind, Sem.run_pure, Result.andThen_ok, List.map_toArray, List.map_cons, List.map_nil, hs, hx, hr]
  exact hK _ _ h
end
end Go.Proofs.YtbbjnnbabikefaaDoor.My
