/- oracle.Oracle: what its methods leave. -/
import Derived.Test.YtdiocapnoinmlaaKit
import Derived.Test.YtdiocapnoinmlaaPm
namespace Go.Proofs.Ytdiocapnoinmlaa.My
set_option linter.unusedSimpArgs false
set_option linter.unusedVariables false
open Go.RowKit Go.Proofs.YtdiocapnoinmlaaW.PrintWords Go.Proofs.YtdiocapnoinmlaaW.PrintLast Go.Proofs.Ytdiocapnoinmlaa.Pm

def IsOra (w : World) (g : Nat) (a b : Nat) : Prop := w.heap[g]? = some (.cells #[.int .u64 a, .int .u64 b] 67 (0, 0))
theorem IsOra.c0 {w : World} {g a b : Nat} (h : IsOra w g a b) : w.cell? ⟨g, 0, none⟩ = some (.int .u64 a) := (blk_cell h 0).trans rfl
theorem IsOra.c1 {w : World} {g a b : Nat} (h : IsOra w g a b) : w.cell? ⟨g, 1, none⟩ = some (.int .u64 b) := (blk_cell h 1).trans rfl
theorem IsOra.f {w : World} {g a b : Nat} (h : IsOra w g a b) (i : Nat) : w.frozen? ⟨g, i, none⟩ = false := blk_frozen h i
theorem IsOra.set0 {w : World} {g a b : Nat} (h : IsOra w g a b) (t : Nat) : IsOra (w.setCell ⟨g, 0, none⟩ (.int .u64 t)) g t b := blk_set h 0 _
theorem IsOra.set1 {w : World} {g a b : Nat} (h : IsOra w g a b) (t : Nat) : IsOra (w.setCell ⟨g, 1, none⟩ (.int .u64 t)) g a t := blk_set h 1 _
theorem IsOra.lt {w : World} {g a b : Nat} (h : IsOra w g a b) : g < w.heap.size := blk_lt h
theorem IsOra.below {w w' : World} {g a b : Nat} (h : IsOra w g a b) (k : Below w.heap.size w w') : IsOra w' g a b := blk_below h k

theorem ora_new (n : Nat) (w : World) :
    Calls Try.prog 11 #[.int .u64 n] w fun e w' => ∃ g, e = .returned (.pointer (some ⟨g, 0, none⟩)) ∧ w.heap.size ≤ g ∧ IsOra w' g n n ∧ Below w.heap.size w w' := by
  have h : Calls Try.prog 11 #[.int .u64 n] w fun e w' => e = .returned (.pointer (some ⟨w.heap.size, 0, none⟩)) ∧ IsOra w' w.heap.size n n ∧ Below w.heap.size w w' := by
    go_enter Try.func11, Try.ntmps11
    go_wp2
    go_ret
    exact ⟨rfl, blk_new _ _, below_alloc (Below.refl _ _) _⟩
  exact h.mono fun _ _ h => ⟨_, h.1, Nat.le_refl _, h.2⟩

def topU : Nat := 18446744073709551615
/-- Want's answer. -/
def wantO (a b : Nat) : Nat × Bool := if a < b ∨ b = topU then (0, false) else if topU - 100 < b then (topU, true) else (b + 100, true)

set_option maxHeartbeats 1000000 in
theorem ora_want (a b g : Nat) (w : World) (hI : IsOra w g a b) (hb : b ≤ topU) :
    Calls Try.prog 12 #[.pointer (some ⟨g, 0, none⟩)] w fun e w' => e = .returned (.tuple #[.int .u64 (wantO a b).1, .bool (wantO a b).2]) ∧ Below w.heap.size w w' := by
  have h0 := hI.c0
  have h1 := hI.c1
  clear hI
  unfold wantO topU
  by_cases hab : a < b
  · rw [if_pos (.inl hab)]
    have c : decide ((a : Int) < (b : Int)) = true := by simp; omega
    clear hb
    go_enter Try.func12, Try.ntmps12
    go_wp2
    go_quiet (fail)
    go_wp2
    go_ret2
    exact ⟨rfl, pw_below_drewN (Below.refl _ _) _⟩
  · have c : decide ((a : Int) < (b : Int)) = false := by simp; omega
    by_cases hm : b = 18446744073709551615
    · rw [if_pos (.inr hm)]
      have c2 : ((b : Int) == 18446744073709551615) = true := beq_iff_eq.2 (by omega)
      clear hb hm
      go_enter Try.func12, Try.ntmps12
      go_wp2
      go_quiet (fail)
      go_wp2
      go_ret2
      exact ⟨rfl, pw_below_drewN (Below.refl _ _) _⟩
    · have c2 : ((b : Int) == 18446744073709551615) = false := beq_eq_false_iff_ne.2 (by omega)
      rw [if_neg (by omega)]
      by_cases ht : 18446744073709551615 - 100 < b
      · rw [if_pos ht]
        have c3 : decide (18446744073709551515 < (b : Int)) = true := by simp; omega
        clear hb hm ht
        go_enter Try.func12, Try.ntmps12
        go_wp2
        go_quiet (fail)
        go_wp2
        go_ret2
        exact ⟨rfl, pw_below_drewN (Below.refl _ _) _⟩
      · rw [if_neg ht]
        have c3 : decide (18446744073709551515 < (b : Int)) = false := by simp; omega
        have q : IntKind.u64.wrap ((b : Int) + 100) = ((b + 100 : Nat) : Int) := wrap_u64_nat (x := b + 100) (by omega)
        obtain ⟨m, hm'⟩ : ∃ m, b + 100 = m := ⟨_, rfl⟩
        rw [hm'] at q ⊢
        clear hb hm ht hm'
        go_enter Try.func12, Try.ntmps12
        go_wp2
        go_quiet (fail)
        go_wp2
        go_ret2
        exact ⟨rfl, pw_below_drewN (Below.refl _ _) _⟩

def nextO (a b : Nat) : Nat × Bool × Nat := if b ≤ a then (0, false, a) else (a + 1, true, a + 1)
set_option maxHeartbeats 1000000 in
theorem ora_next (a b g : Nat) (w : World) (hI : IsOra w g a b) (hb : b ≤ topU) :
    Calls Try.prog 14 #[.pointer (some ⟨g, 0, none⟩)] w fun e w' => e = .returned (.tuple #[.int .u64 (nextO a b).1, .bool (nextO a b).2.1]) ∧ IsOra w' g (nextO a b).2.2 b ∧ Keeps (Only g) w w' := by
  have h0 := hI.c0
  have h1 := hI.c1
  have f0 := hI.f 0
  have HC := Lib.hid hI; clear hI
  unfold nextO
  unfold topU at hb
  by_cases hab : b ≤ a
  · rw [if_pos hab]
    have c : decide (b ≤ a) = true := by simp; omega
    clear hb
    go_enter Try.func14, Try.ntmps14
    go_wp2
    go_quiet (fail)
    go_wp2
    go_ret2
    exact ⟨rfl, HC.out, (Keeps.refl _ _).drewN _⟩
  · rw [if_neg hab]
    have c : decide (b ≤ a) = false := by simp; omega
    have q : IntKind.u64.wrap ((a : Int) + 1) = ((a + 1 : Nat) : Int) := wrap_u64_nat (x := a + 1) (by omega)
    obtain ⟨m, hm'⟩ : ∃ m, a + 1 = m := ⟨_, rfl⟩
    rw [hm'] at q ⊢
    clear hb hm' hab
    go_enter Try.func14, Try.ntmps14
    go_wp2
    go_quiet (fail)
    go_wp2
    go_ret2
    exact ⟨rfl, HC.out.set0 _, ((Keeps.refl _ _).own _ _).drewN _⟩
theorem ora_noted (a b n g : Nat) (w : World) (hI : IsOra w g a b) :
    Calls Try.prog 13 #[.pointer (some ⟨g, 0, none⟩), .int .u64 n] w fun e w' => e = .returned (.tuple #[]) ∧ IsOra w' g a (max b n) ∧ Keeps (Only g) w w' := by
  have h1 := hI.c1
  have f1 := hI.f 1
  have HC := Lib.hid hI; clear hI
  go_enter Try.func13, Try.ntmps13
  go_wp2
  · go_end0
    rw [Nat.max_eq_right (Nat.le_of_lt h)]
    exact ⟨rfl, HC.out.set1 _, (Keeps.refl _ _).own _ _⟩
  · go_end0
    rw [Nat.max_eq_left (Nat.le_of_not_lt h)]
    exact ⟨rfl, HC.out.set1 _, (Keeps.refl _ _).own _ _⟩
theorem ora_last (a b g : Nat) (w : World) (hI : IsOra w g a b) :
    Calls Try.prog 16 #[.pointer (some ⟨g, 0, none⟩)] w fun e w' => e = .returned (.int .u64 a) ∧ w = w' := by
  have h0 := hI.c0
  clear hI
  go_enter Try.func16, Try.ntmps16
  go_wp2
  go_ret
  exact ⟨rfl, rfl⟩
end Go.Proofs.Ytdiocapnoinmlaa.My
