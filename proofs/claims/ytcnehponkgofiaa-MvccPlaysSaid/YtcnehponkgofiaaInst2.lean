/- mvcc.Store.Install: a chain's slice put into its entry; an entry inserted. -/
import Derived.Test.YtcnehponkgofiaaInst
namespace Go.Proofs.Ytcnehponkgofiaa.My
set_option linter.unusedSimpArgs false
set_option linter.unusedVariables false
open Go.RowKit Go.Proofs.YtcnehponkgofiaaW.PrintWords Go.Proofs.YtcnehponkgofiaaW.PrintLast Go.Proofs.Ytcnehponkgofiaa.Pm

theorem pairwise_keys {es es' : List EntP} (h : es.map (·.key) = es'.map (·.key)) (hp : es.Pairwise fun a b => keyLess a.key b.key) : es'.Pairwise fun a b => keyLess a.key b.key := by
  have h1 : (es.map (·.key)).Pairwise keyLess := List.pairwise_map.2 hp
  rw [h] at h1
  exact List.pairwise_map.1 h1
theorem EntOk.keep {w w1 : World} {base : Nat} {p : EntP} (h : EntOk w base p) (hk : ∀ g, (Value.slice p.A p.ch.length p.c).ownBlock = some g → g < w.heap.size → w1.heap[g]? = w.heap[g]?) : EntOk w1 base p := ⟨h.own.keep hk, h.right, h.key, h.val⟩
/-- An entry's chain gets another slice. -/
theorem MSt.put {W : World} {base g vb m c i : Nat} {es : List EntP} {x : EntP} (h : MSt W base g (.slice (some ⟨vb, 0, none⟩) m c) es) (hi : i < es.length) (hk : x.key = es[i].key) (hx : EntOk W base x) :
    MSt (W.setCell ⟨vb, i * 2 + 1, none⟩ (.slice x.A x.ch.length x.c)) base g (.slice (some ⟨vb, 0, none⟩) m c) (es.set i x) := by
  have hvb : ∃ cur, W.heap[vb]? = some (.cells cur 65 (0, 0)) := by
    rcases h.own.2 with ⟨e, _⟩ | ⟨g', cap, cur, e, _, hg, _⟩
    · cases e
    · injection e with e
      cases e
      exact ⟨cur, hg⟩
  obtain ⟨cur, hvb⟩ := hvb
  have far' : ∀ (e : EntP), EntOk W base e → EntOk (W.setCell ⟨vb, i * 2 + 1, none⟩ (.slice x.A x.ch.length x.c)) base e := fun e he => he.keep fun y hy _ => Below.heap_setCell W ⟨vb, i * 2 + 1, none⟩ _ y (fun e2 => he.own.ne_type hvb (by decide) (by rw [hy]; exact congrArg some e2))
  refine ⟨?_, ?_, ?_, ?_, h.ge, by rw [List.length_set]; exact h.len⟩
  · refine (Below.heap_setCell W ⟨vb, i * 2 + 1, none⟩ _ g (fun e => ?_)).trans h.blk
    have := h.blk
    rw [show g = vb from e, hvb] at this
    injection this with this
    injection this with _ e2 _
    exact absurd e2 (by decide)
  · exact h.own.setCell entC_len hi (by decide) (by show [_, _] = _; rw [hk]; rfl)
  · intro e he
    rcases List.mem_or_eq_of_mem_set he with he | rfl
    · exact far' e (h.ok e he)
    · exact far' _ hx
  · refine pairwise_keys ?_ h.ris
    refine List.ext_getElem (by simp) fun j h1 h2 => ?_
    simp only [List.getElem_map, List.getElem_set]
    split
    · rename_i e; subst e; exact hk.symm
    · rfl
/-- What an insertion leaves. -/
theorem MSt.ins {W W' : World} {base g i n c : Nat} {A : Option Addr} {v' : Value} {es : List EntP} {x : EntP} (h : MSt W base g (.slice A n c) es) (hk : Keeps (OwnB A) W W') (ho : OwnF W' base 65 2 entC v' (es.take i ++ x :: es.drop i)) (hx : EntOk W' base x) (hi : i ≤ es.length)
    (hl : ∀ t (h : t < es.length), t < i → keyLess es[t].key x.key) (hg : ∀ t (h : t < es.length), i ≤ t → keyLess x.key es[t].key) (hlen : es.length < 1000) :
    MSt (W'.setCell ⟨g, 0, none⟩ v') base g v' (es.take i ++ x :: es.drop i) := by
  have hA : ∀ k, OwnB A k → ∃ cur, W.heap[k]? = some (.cells cur 65 (0, 0)) := fun k ⟨o, s, e⟩ => by
    rcases h.own.2 with ⟨e2, _⟩ | ⟨g', cap, cur, e2, _, hg, _⟩
    · injection e2 with e2
      rw [e] at e2
      cases e2
    · injection e2 with e2
      rw [e] at e2
      cases e2
      exact ⟨cur, hg⟩
  have hgA : ¬ OwnB A g := fun hb => by
    obtain ⟨cur, hc⟩ := hA g hb
    have := h.blk
    rw [hc] at this
    injection this with this
    injection this with _ e2 _
    exact absurd e2 (by decide)
  have hgb : W'.heap[g]? = some (.cells #[.slice A n c] 78 (0, 0)) := hk.blk h.blk hgA
  have far1 : ∀ e ∈ es, EntOk W' base e := fun e he => (h.ok e he).keep fun y hy hlt => hk.block y hlt (fun hb => by
    obtain ⟨cur, hc⟩ := hA y hb
    exact (h.ok e he).own.ne_type hc (by decide) hy)
  have far2 : ∀ (e : EntP), EntOk W' base e → EntOk (W'.setCell ⟨g, 0, none⟩ v') base e := fun e he => he.keep fun y hy _ => Below.heap_setCell W' ⟨g, 0, none⟩ _ y (fun e2 => he.own.ne_type hgb (by decide) (by rw [hy]; exact congrArg some e2))
  refine ⟨?_, ?_, ?_, ?_, h.ge, ?_⟩
  · have := blk_set hgb 0 v'
    exact this
  · exact ho.keep fun y hy hlt => Below.heap_setCell W' ⟨g, 0, none⟩ _ y (fun e2 => ho.ne_type hgb (by decide) (by rw [hy]; exact congrArg some e2))
  · intro e he
    rcases List.mem_append.1 he with he | he
    · exact far2 e (far1 e (List.mem_of_mem_take he))
    · rcases List.mem_cons.1 he with rfl | he
      · exact far2 _ hx
      · exact far2 e (far1 e (List.mem_of_mem_drop he))
  · rw [List.pairwise_append]
    refine ⟨h.ris.sublist (List.take_sublist _ _), ?_, fun a ha b hb => ?_⟩
    · rw [List.pairwise_cons]
      refine ⟨fun b hb => ?_, h.ris.sublist (List.drop_sublist _ _)⟩
      obtain ⟨j, hj, rfl⟩ := List.getElem_of_mem hb
      rw [List.length_drop] at hj
      rw [List.getElem_drop]
      exact hg (i + j) (by omega) (by omega)
    · obtain ⟨j, hj, rfl⟩ := List.getElem_of_mem ha
      rw [List.length_take] at hj
      rw [List.getElem_take]
      have h1 := hl j (by omega) (by omega)
      rcases List.mem_cons.1 hb with rfl | hb
      · exact h1
      · obtain ⟨k, hk', rfl⟩ := List.getElem_of_mem hb
        rw [List.length_drop] at hk'
        rw [List.getElem_drop]
        exact keyLess_trans' h1 (hg (i + k) (by omega) (by omega))
  · rw [List.length_append, List.length_take, List.length_cons, List.length_drop]
    omega
/-- What an installation that succeeds makes of the entries. -/
def InstIs (es es' : List EntP) (key : ByteArray) (x : VerT) : Prop :=
  (∃ i, ∃ h : i < es.length, es[i].key = key ∧ es'.map pr = (es.map pr).set i (key, es[i].ch ++ [x])) ∨
    ∃ i, i ≤ es.length ∧ entOf es key = none ∧ es'.map pr = (es.map pr).take i ++ (key, [x]) :: (es.map pr).drop i
end Go.Proofs.Ytcnehponkgofiaa.My
