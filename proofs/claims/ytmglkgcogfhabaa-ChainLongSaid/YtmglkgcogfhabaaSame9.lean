/- isoglossref09.Same, by the printed text. -/
import Derived.Test.YtmglkgcogfhabaaDec4
import Derived.Test.YtmglkgcogfhabaaPChainBackx7
namespace Go.Proofs.Ytmglkgcogfhabaa.My
set_option linter.unusedSimpArgs false
set_option linter.unusedVariables false
open Go.RowKit Go.Proofs.YtmglkgcogfhabaaW.PrintWords Go.Proofs.YtmglkgcogfhabaaW.PrintLast Go.Proofs.Ytmglkgcogfhabaa.Pm
open Go.Proofs.Ytmglkgcogfhabaa.PChainBack

def toS (p : VerT) : S30 := ⟨(p.1 : Int), p.2.1, p.2.2⟩
theorem ArgVers.toC {w : World} {A : Option Addr} {len : Nat} {ps : List VerT} (h : ArgVers w A len ps) (hl : len ≤ 140737488351232) : Kd.C k30 w A (ps.map toS).length (ps.map toS) := by
  refine ⟨rfl, by rw [List.length_map, h.1]; omega, fun h0 => ?_⟩
  rw [List.length_map, h.1] at h0
  obtain ⟨b, off, e, hlt, hc⟩ := h.2.2 h0
  refine ⟨_, e, fun j p hj => ?_⟩
  rw [List.getElem?_map] at hj
  obtain ⟨q, hq, rfl⟩ := Option.map_eq_some_iff.1 hj
  obtain ⟨hjl, hq⟩ := List.getElem?_eq_some_iff.1 hq
  subst hq
  obtain ⟨h1, h2, h3⟩ := hc j hjl
  refine ⟨_, rfl, k30_mk w _, fun i u hu => ?_⟩
  have hadd : ∀ k, (⟨b, off, none⟩ : Addr).add k = ⟨b, off + k, none⟩ := fun k => Go.WideShapes.add_plain _ _ _
  show w.cell? ((⟨b, off, none⟩ : Addr).add (j * 3 + i)) = some u
  rw [hadd, ← Nat.add_assoc]
  match i, hu with
  | 0, hu => simp only [List.getElem?_cons_zero, Option.some.injEq] at hu; rw [← hu]; exact h1
  | 1, hu => simp only [List.getElem?_cons_succ, List.getElem?_cons_zero, Option.some.injEq] at hu; rw [← hu]; exact h2
  | 2, hu => simp only [List.getElem?_cons_succ, List.getElem?_cons_zero, Option.some.injEq] at hu; rw [← hu]; exact h3
  | n + 3, hu => simp at hu
theorem same_l0 (l : List S30) (hl : l.length ≤ 140737488351232) : ∀ d i, i + d = l.length → ∀ k, d < k → isoglossref09_Same.l0 k l l (i : Int) = some true := by
  intro d
  induction d with
  | zero =>
    intro i hi k hk
    obtain ⟨m, rfl⟩ : ∃ m, k = m + 1 := ⟨k - 1, by omega⟩
    simp only [isoglossref09_Same.l0]
    rw [if_neg (by omega)]
  | succ d ih =>
    intro i hi k hk
    obtain ⟨m, rfl⟩ : ∃ m, k = m + 1 := ⟨k - 1, by omega⟩
    simp only [isoglossref09_Same.l0]
    rw [if_pos (by omega), if_pos (by omega), if_pos (by omega), if_neg (by simp), show wrap64 ((i : Int) + 1) = ((i + 1 : Nat) : Int) from wrap64_id (by omega) (by omega)]
    exact ih (i + 1) (by omega) m (by omega)
theorem rsame_any (A B : Option Addr) (len c d : Nat) (ps : List VerT) (w : World) (hA : ArgVers w A len ps) (hB : ArgVers w B len ps) (hl : len ≤ 140737488351232) (hc : len ≤ c) (hd : len ≤ d) :
    Calls Try.prog 19 #[.slice A len c, .slice B len d] w fun e w' => e = .returned (.bool true) ∧ Below w.heap.size w w' := by
  have hm : (ps.map toS).length = len := by rw [List.length_map, hA.1]
  have h := isoglossref09_Same.calls (len + 1) A c (ps.map toS) B d (ps.map toS) true w (hA.toC hl) (by omega) (hB.toC hl) (by omega) (by
    unfold isoglossref09_Same.f
    rw [if_pos rfl]
    exact same_l0 _ (by omega) len 0 (by omega) _ (by omega))
  rw [hm] at h
  refine h.mono ?_
  rintro e w' ⟨h1, h2⟩
  exact ⟨h1, h2.below⟩
end Go.Proofs.Ytmglkgcogfhabaa.My
