/- The store and the reference beside each other. -/
import Derived.Test.YtcnehponkgofiaaRMv5
import Derived.Test.YtcnehponkgofiaaMvRel
namespace Go.Proofs.Ytcnehponkgofiaa.My
set_option linter.unusedSimpArgs false
set_option linter.unusedVariables false
open Go.RowKit Go.Proofs.YtcnehponkgofiaaW.PrintWords Go.Proofs.YtcnehponkgofiaaW.PrintLast Go.Proofs.Ytcnehponkgofiaa.Pm

theorem MSt.other {w w1 : World} {base g q t : Nat} {v : Value} {es : List EntP} {cs : Array Value} {fr : Nat × Nat} (h : MSt w base g v es) (hq : w.heap[q]? = some (.cells cs t fr)) (h1 : 78 ≠ t) (h2 : 65 ≠ t) (h3 : 25 ≠ t) (hk : Keeps (Only q) w w1) : MSt w1 base g v es := by
  refine ⟨hk.blk h.blk (fun e => ?_), h.own.keep (fun x hx hlt => hk.block x hlt (fun e => ?_)), fun p hp => (h.ok p hp).keep (fun x hx hlt => hk.block x hlt (fun e => ?_)), h.ris, h.ge, h.len⟩
  · have e : g = q := e
    have hb := h.blk
    rw [e, hq] at hb
    injection hb with hb
    injection hb with _ e2 _
    exact h1 e2.symm
  · have e : x = q := e
    subst e
    exact h.own.ne_type hq h2 hx
  · have e : x = q := e
    subst e
    exact (h.ok p hp).own.ne_type hq h3 hx
/-- What an installation into the store leaves as it was: a block of another type, a row of other things. -/
theorem st_blk {w w1 : World} {base g q t : Nat} {v : Value} {es : List EntP} {cs : Array Value} (h : MSt w base g v es) (hk : Keeps (StB g v) w w1) (hq : w.heap[q]? = some (.cells cs t (0, 0))) (h1 : 78 ≠ t) (h2 : 65 ≠ t) : w1.heap[q]? = some (.cells cs t (0, 0)) := by
  refine hk.blk hq (fun e => ?_)
  rcases e with e | e
  · have hb := h.blk
    rw [← e, hq] at hb
    injection hb with hb
    injection hb with _ e2 _
    exact h1 e2.symm
  · exact h.own.ne_type hq h2 e
theorem st_own {α : Type} {w w1 : World} {base g e n : Nat} {f : α → List Value} {v u : Value} {es : List EntP} {l : List α} (h : MSt w base g v es) (hk : Keeps (StB g v) w w1) (hO : OwnF w base e n f u l) (h1 : e ≠ 78) (h2 : e ≠ 65) : OwnF w1 base e n f u l := by
  refine hO.keep fun x hx hlt => hk.block x hlt (fun e' => ?_)
  rcases e' with e' | e'
  · subst e'
    exact hO.ne_type h.blk h1 hx
  · rcases hO.2 with ⟨e3, _⟩ | ⟨g', cap', cur', e3, _, hg', _⟩
    · rw [e3] at hx; cases hx
    · rw [e3] at hx
      cases hx
      exact h.own.ne_type hg' (fun e4 => h2 e4.symm) e'
/-- The reference's Install of a list of the call's own. -/
theorem rinst_own (A : Option Addr) (base c : Nat) (L : List ItT) (key : ByteArray) (x0 : Nat) (x1 : Bool) (x2 : ByteArray) (w : World) (hO : OwnF w base 27 4 itC (.slice A L.length c) L) (hb : base ≤ w.heap.size) (hn : L.length ≤ 1000) (hks : key.size ≤ 140737488351232) (hxs : x2.size ≤ 140737488351232) :
    Calls Try.prog 14 #[.agg #[.slice A L.length c], .string key, .agg #[.int .u64 (x0 : Int), .bool x1, .string x2]] w fun e w' => ∃ A' c', e = .returned (.tuple #[.agg #[.slice A' (rInst L key (x0, x1, x2)).length c'], .int .i64 (rErr L key (x0, x1, x2) : Nat)]) ∧ OwnF w' base 27 4 itC (.slice A' (rInst L key (x0, x1, x2)).length c') (rInst L key (x0, x1, x2)) ∧ Below w.heap.size w w' := by
  refine (rinst_any A L.length c L key x0 x1 x2 w (hO.row itC_len) hn hks hxs).mono ?_
  rintro e w' ⟨A', c', e1, h, hB⟩
  refine ⟨A', c', e1, ?_, hB⟩
  rcases h with ⟨h, rfl, rfl⟩ | ⟨h, ho⟩
  · have e2 : rInst L key (x0, x1, x2) = L := by unfold rInst; rw [if_neg h]
    rw [e2]
    exact hO.below hB
  · exact ho.lower hb
theorem rInst_len (L : List ItT) (key : ByteArray) (x : VerT) : (rInst L key x).length ≤ L.length + 1 := by
  unfold rInst
  split
  · rw [List.length_append]; exact Nat.le_refl _
  · omega
/-- Both behind one installation. -/
theorem Rel.step {L : List ItT} {es es' : List EntP} {key : ByteArray} {x : VerT} (h : Rel L es) (hr : es.Pairwise fun a b => keyLess a.key b.key) (hr' : es'.Pairwise fun a b => keyLess a.key b.key) (ho : ∀ e ∈ es', rightV e.ch) (h1 : errS es key x ≠ 0 → es' = es) (h2 : errS es key x = 0 → InstIs es es' key x) : Rel (rInst L key x) es' := by
  unfold rInst
  rw [h.err]
  by_cases h0 : errS es key x = 0
  · rw [if_pos h0]
    exact h.inst hr hr' ho (h2 h0)
  · rw [if_neg h0, h1 h0]
    exact h
end Go.Proofs.Ytcnehponkgofiaa.My
