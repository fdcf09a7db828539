/- Maps of the call's own, whatever their elements: what the map has at each key. -/
import Derived.Maps.OwnSet
import Derived.DeepKeys5
import Derived.Test.YtemhmgpihkemjaaKit
namespace Go.Proofs.Ytemhmgpihkemjaa.My
set_option linter.unusedSimpArgs false
set_option linter.unusedVariables false
open Go.RowKit Go.ChangeMaps Go.MapKept
open Go.Maps (Keyed)

/-- Block b is a map of this type of keys, with f's elements. -/
def MapIs (P : Program) (k : TypeId) (w : World) (b : Nat) (f : Value → Option Value) : Prop :=
  ∃ es clock, w.heap[b]? = some (.map es clock) ∧ (∀ (i : Nat) x, es[i]? = some x → (∃ l, keyOf P k x.key = some l) ∧ f x.key = some x.val) ∧ (∀ (i j : Nat) x y, es[i]? = some x → es[j]? = some y → x.key = y.key → i = j) ∧ ∀ x v, f x = some v → ∃ (i : Nat) (y : MapEntry), es[i]? = some y ∧ y.key = x
/-- At one key another element. -/
noncomputable def upd (f : Value → Option Value) (x v : Value) : Value → Option Value := fun y => @ite _ (y = x) (Classical.propDecidable _) (some v) (f y)
theorem upd_same (f : Value → Option Value) (x v : Value) : upd f x v x = some v := by unfold upd; rw [if_pos rfl]
theorem upd_other (f : Value → Option Value) {x v y : Value} (h : y ≠ x) : upd f x v y = f y := by unfold upd; rw [if_neg h]
section
variable {P : Program} {k t e : TypeId} {w w1 : World} {b : Nat} {f : Value → Option Value}
theorem MapIs.made (P : Program) (k : TypeId) (w : World) : MapIs P k (w.alloc (.map #[] 0)) w.heap.size (fun _ => none) :=
  ⟨#[], 0, (MapKept.heap_alloc w _).1, fun i x h => by simp at h, fun i j x y h => by simp at h, fun x v h => by cases h⟩
theorem MapIs.lt (h : MapIs P k w b f) : b < w.heap.size := by
  obtain ⟨es, clock, hb, _⟩ := h
  exact (Array.getElem?_eq_some_iff.1 hb).1
theorem MapIs.move (h : MapIs P k w b f) (hm : w1.heap[b]? = w.heap[b]?) : MapIs P k w1 b f := by
  obtain ⟨es, clock, hb, r⟩ := h
  exact ⟨es, clock, hm.trans hb, r⟩
theorem MapIs.below (h : MapIs P k w b f) (hb : Below w.heap.size w w1) : MapIs P k w1 b f := h.move (hb.block b h.lt)
theorem MapIs.keeps {S : Nat → Prop} (h : MapIs P k w b f) (hk : Keeps S w w1) (hn : ¬ S b) : MapIs P k w1 b f := h.move (hk.block b h.lt hn)
theorem MapIs.grown {row : Option Nat} (h : MapIs P k w b f) (hg : w.grownBy w1 row) (hne : some b ≠ row) : MapIs P k w1 b f := h.move (hg.block b h.lt hne)
theorem MapIs.alloc (h : MapIs P k w b f) (o : Obj) : MapIs P k (w.alloc o) b f := h.move (Below.heap_alloc w o b h.lt)
theorem MapIs.drew (h : MapIs P k w b f) : MapIs P k w.drew b f := h
theorem MapIs.drewN (h : MapIs P k w b f) (n : Nat) : MapIs P k (w.drewN n) b f := h
theorem MapIs.far (h : MapIs P k w b f) {p : Addr} (hp : b ≠ p.block) (u : Value) : MapIs P k (w.setCell p u) b f := h.move (Below.heap_setCell w p u b hp)
/-- The block is none of cells. -/
theorem MapIs.ne (h : MapIs P k w b f) {g : Nat} {cs : Array Value} {q : TypeId} {fr : Nat × Nat} (hg : w.heap[g]? = some (.cells cs q fr)) : b ≠ g := by
  obtain ⟨es, clock, hb, _⟩ := h
  rintro rfl
  rw [hb] at hg
  cases hg
theorem MapIs.look (h : MapIs P k w b f) (K : Keyed P k) (ht : P.underlying t = some (.map k e)) {z : Value} (hz : (zeroValue e).run P w = .ok z w) {key : Value} {kl : Lit} (hkey : keyOf P k key = some kl) (c : Bool) :
    (f key = none ∧ (Instr.lookup t (.map (some b)) key c).run P w = .ok (if c then .tuple #[z, .bool false] else z) w) ∨
    ∃ v, f key = some v ∧ (Instr.lookup t (.map (some b)) key c).run P w = .ok (if c then .tuple #[v, .bool true] else v) w := by
  obtain ⟨es, clock, hb, h1, h2, h3⟩ := h
  rcases K.find w hkey es.toList (fun x hx => by
    obtain ⟨i, hi, rfl⟩ := List.getElem_of_mem hx
    exact (h1 i _ (Array.getElem?_eq_getElem hi)).1) with ⟨q1, q2⟩ | ⟨j, e0, q1, q2, q3⟩
  · refine .inl ⟨?_, by simp [Instr.lookup, run_underlying ht, MapKept.run_getObj_map hb, K.check w _ hkey, q1, hz, Result.andThen]⟩
    cases hf : f key with
    | none => rfl
    | some v =>
      obtain ⟨i, y, hi, hy⟩ := h3 key v hf
      exact absurd hy (q2 y (List.mem_of_getElem? (by simpa using hi)))
  · have hj : es[j]? = some e0 := by simpa using q2
    refine .inr ⟨e0.val, by rw [← q3]; exact (h1 j e0 hj).2, by simp [Instr.lookup, run_underlying ht, MapKept.run_getObj_map hb, K.check w _ hkey, q1, Result.andThen]⟩
theorem MapIs.update (h : MapIs P k w b f) (K : Keyed P k) (ht : P.underlying t = some (.map k e)) {key : Value} {kl : Lit} (hkey : keyOf P k key = some kl) (val : Value) :
    ∃ w', (Instr.mapUpdate t (.map (some b)) key val).run P w = .ok () w' ∧ MapIs P k w' b (upd f key val) ∧ Keeps (Only b) w w' := by
  obtain ⟨es, clock, hb, h1, h2, h3⟩ := h
  have kept : ∀ o, Keeps (Only b) w (setBlock w b o) := fun o => ⟨rfl, rfl, rfl, by simp [setBlock], fun i _ hi => heap_setBlock_other hb _ (fun e => hi e)⟩
  rcases K.find w hkey es.toList (fun x hx => by
    obtain ⟨i, hi, rfl⟩ := List.getElem_of_mem hx
    exact (h1 i _ (Array.getElem?_eq_getElem hi)).1) with ⟨q1, q2⟩ | ⟨j, e0, q1, q2, q3⟩
  · skip
    have hold : ∀ (i : Nat) x, (es.push ⟨key, val, clock⟩)[i]? = some x → (es[i]? = some x ∧ x.key ≠ key) ∨ (i = es.size ∧ x = ⟨key, val, clock⟩) := by
      intro i x hi
      rw [Array.getElem?_push] at hi
      split at hi
      · exact .inr ⟨by assumption, by simpa using hi.symm⟩
      · exact .inl ⟨hi, q2 x (List.mem_of_getElem? (by simpa using hi))⟩
    refine ⟨setBlock w b (.map (es.push ⟨key, val, clock⟩) (clock + 1)), by simp [Instr.mapUpdate, run_underlying ht, MapKept.run_getObj_map hb, K.check w false hkey, q1, MapKept.run_setObj_map _ hb, Result.andThen, setBlock], ⟨_, _, heap_setBlock_same hb _, ?_, ?_, ?_⟩, kept _⟩
    · intro i x hi
      rcases hold i x hi with ⟨hi, hne⟩ | ⟨_, rfl⟩
      · exact ⟨(h1 i x hi).1, by rw [upd_other f hne]; exact (h1 i x hi).2⟩
      · exact ⟨⟨_, hkey⟩, upd_same f key val⟩
    · intro i j x y hi hj he
      rcases hold i x hi with ⟨hi, hne⟩ | ⟨rfl, rfl⟩ <;> rcases hold j y hj with ⟨hj, hne'⟩ | ⟨rfl, rfl⟩
      · exact h2 i j x y hi hj he
      · exact absurd he hne
      · exact absurd he.symm hne'
      · rfl
    · intro x v hx
      by_cases e : x = key
      · exact ⟨es.size, ⟨key, val, clock⟩, by simp, e.symm⟩
      · rw [upd_other f e] at hx
        obtain ⟨i, y, hi, hy⟩ := h3 x v hx
        exact ⟨i, y, by rw [Array.getElem?_push, if_neg (by have := (Array.getElem?_eq_some_iff.1 hi).1; omega)]; exact hi, hy⟩
  · have hj : es[j]? = some e0 := by simpa using q2
    have hstay := K.stays w hkey
    have hmod : ∀ (i : Nat), (es.modify j fun x => { x with key := key, val := val })[i]? = if j = i then some { e0 with key := key, val := val } else es[i]? := fun i => by
      rw [Array.getElem?_modify]
      split
      · rename_i hji; subst hji; rw [hj]; rfl
      · rfl
    have hold : ∀ (i : Nat) x, (es.modify j fun x => { x with key := key, val := val })[i]? = some x → (i ≠ j ∧ es[i]? = some x ∧ x.key ≠ key) ∨ (i = j ∧ x.key = key ∧ x.val = val) := by
      intro i x hi
      rw [hmod] at hi
      split at hi
      · refine .inr ⟨by omega, ?_⟩
        simp only [Option.some.injEq] at hi
        subst hi
        exact ⟨rfl, rfl⟩
      · exact .inl ⟨by omega, hi, fun e => by have := h2 i j x e0 hi hj (e.trans q3.symm); omega⟩
    refine ⟨setBlock w b (.map (es.modify j fun x => { x with key := key, val := val }) clock), by
      simp [Instr.mapUpdate, run_underlying ht, MapKept.run_getObj_map hb, K.check w false hkey, q1, hj, q3, hstay, MapKept.run_setObj_map _ hb, Result.andThen, setBlock], ⟨_, _, heap_setBlock_same hb _, ?_, ?_, ?_⟩, kept _⟩
    · intro i x hi
      rcases hold i x hi with ⟨_, hi, hne⟩ | ⟨_, e1, e2⟩
      · exact ⟨(h1 i x hi).1, by rw [upd_other f hne]; exact (h1 i x hi).2⟩
      · exact ⟨⟨kl, by rw [e1]; exact hkey⟩, by rw [e1, e2]; exact upd_same f key val⟩
    · intro i i' x y hi hi' he
      rcases hold i x hi with ⟨_, hi, hne⟩ | ⟨rfl, e1, _⟩ <;> rcases hold i' y hi' with ⟨_, hi', hne'⟩ | ⟨rfl, e1', _⟩
      · exact h2 i i' x y hi hi' he
      · exact absurd (he.trans e1') hne
      · exact absurd (he.symm.trans e1) hne'
      · rfl
    · intro x v hx
      by_cases e : x = key
      · exact ⟨j, { e0 with key := key, val := val }, by rw [hmod, if_pos rfl], e.symm⟩
      · rw [upd_other f e] at hx
        obtain ⟨i, y, hi, hy⟩ := h3 x v hx
        refine ⟨i, y, ?_, hy⟩
        rw [hmod, if_neg ?_]
        · exact hi
        · rintro rfl
          rw [hj] at hi
          simp only [Option.some.injEq] at hi
          subst hi
          exact e (hy.symm.trans q3)
end
end Go.Proofs.Ytemhmgpihkemjaa.My
