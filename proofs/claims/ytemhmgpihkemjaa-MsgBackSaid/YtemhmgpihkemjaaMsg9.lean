/- isoglossref05.Last, gone, Field. -/
import Derived.Test.YtemhmgpihkemjaaMsg7
namespace Go.Proofs.Ytemhmgpihkemjaa.My
set_option linter.unusedSimpArgs false
set_option linter.unusedVariables false
open Go.RowKit Go.Proofs.YtemhmgpihkemjaaW.PrintWords Go.Proofs.YtemhmgpihkemjaaW.PrintLast Go.Proofs.Ytemhmgpihkemjaa.Pm

theorem last_any (v : Int) (w : World) : Calls Try.prog 14 #[.int .i64 v] w fun e w' => e = .returned (.int .i64 (knownS v : Nat)) ∧ w = w' := by
  unfold knownS
  by_cases h1 : v = 1
  · subst h1
    have x0 : ∀ w : World, (Instr.index 63 (.agg #[.int .i64 0, .int .i64 9, .int .i64 10, .int .i64 12]) (.int .i64 1)).run Try.prog w = .ok (.int .i64 9) w := fun _ => by kernel_rfl
    go_enter Try.func14, Try.ntmps14
    go_wp2
    go_ret
    exact ⟨rfl, rfl⟩
  · by_cases h2 : v = 2
    · subst h2
      have x0 : ∀ w : World, (Instr.index 63 (.agg #[.int .i64 0, .int .i64 9, .int .i64 10, .int .i64 12]) (.int .i64 2)).run Try.prog w = .ok (.int .i64 10) w := fun _ => by kernel_rfl
      go_enter Try.func14, Try.ntmps14
      go_wp2
      go_ret
      exact ⟨rfl, rfl⟩
    · by_cases h3 : v = 3
      · subst h3
        have x0 : ∀ w : World, (Instr.index 63 (.agg #[.int .i64 0, .int .i64 9, .int .i64 10, .int .i64 12]) (.int .i64 3)).run Try.prog w = .ok (.int .i64 12) w := fun _ => by kernel_rfl
        go_enter Try.func14, Try.ntmps14
        go_wp2
        go_ret
        exact ⟨rfl, rfl⟩
      · rw [if_neg h1, if_neg h2, if_neg h3]
        by_cases h4 : v < 1
        · have x1 : decide (v < 1) = true := decide_eq_true h4
          clear h1 h2 h3
          go_enter Try.func14, Try.ntmps14
          go_wp2
          go_ret
          exact ⟨rfl, rfl⟩
        · have x1 : decide (v < 1) = false := decide_eq_false h4
          have x2 : decide (3 < v) = true := decide_eq_true (by omega)
          clear h1 h2 h3
          go_enter Try.func14, Try.ntmps14
          go_wp2
          go_ret
          exact ⟨rfl, rfl⟩
theorem gone_any (g : Bool) (w : World) : Calls Try.prog 38 #[.bool g] w fun e w' => e = .returned (.string (flagS g)) ∧ w = w' := by
  cases g
  all_goals
    go_enter Try.func38, Try.ntmps38
    go_wp2
    go_ret
    exact ⟨rfl, rfl⟩
def RFieldOf (m : MsgS) (A : Option Addr) (n c : Nat) (w : World) (tag : Nat) : Prop :=
  Calls Try.prog 24 #[.agg (m.arr A n c), .int .i64 (tag : Int)] w fun e w' => ∃ s, e = .returned (.tuple #[.string s, .bool (fieldS m tag).2]) ∧ ((fieldS m tag).2 = true → s = (fieldS m tag).1) ∧ Below w.heap.size w w'
section
variable (m : MsgS) (A : Option Addr) (n c : Nat) (w : World)
set_option maxRecDepth 100000 in
set_option maxHeartbeats 4000000 in
theorem rfield_1 (f : m.Fit) : RFieldOf m A n c w 1 := by
  unfold RFieldOf
  have HB := Lib.hid ((Below.refl w.heap.size w).alloc (Nat.le_refl _) (.cells #[.int .i64 m.kind, .int .i64 m.frm, .int .i64 m.tow, .int .i64 m.node, .int .i64 m.life, .int .i64 m.seq, .int .u64 m.a, .int .u64 m.b, .string m.key, .bool m.found, .int .u64 m.time, .bool m.gone, .string m.value, .slice A n c, .string m.note, .int .u64 m.hint, .int .u64 m.must] 29))
  have q1 := conv_ok f.frm
  have q2 := conv_ok f.tow
  have U := Lib.hid (fun w => ruint_any m.frm.toNat w (ok32_lt f.frm))
  have e : fieldS m 1 = (uvS m.frm.toNat, decide (m.frm.toNat ≠ 0)) := by
    have h := f.frm
    unfold Ok32 at h
    show (uvS m.frm.toNat, decide (m.frm ≠ 0)) = _
    congr 1
    rw [decide_eq_decide]
    omega
  rw [e]
  clear e f
  unfold MsgS.arr
  generalize m.frm.toNat = k1 at *
  generalize m.tow.toNat = k2 at *
  obtain ⟨k, hk⟩ : ∃ k, k1 = k := ⟨_, rfl⟩
  have xi0 : ∀ w : World, (Instr.index 77 (.agg #[.int .u64 0, .int .u64 k1, .int .u64 k2, .int .u64 0, .int .u64 m.a, .int .u64 m.b, .int .u64 0, .int .u64 0, .int .u64 0, .int .u64 0, .int .u64 0, .int .u64 m.hint, .int .u64 m.must]) (.int .i64 1)).run Try.prog w = .ok (.int .u64 k) w := fun _ => by rw [← hk]; kernel_rfl
  have xi1 : ∀ w : World, (Instr.index 77 (.agg #[.int .u64 0, .int .u64 k1, .int .u64 k2, .int .u64 0, .int .u64 m.a, .int .u64 m.b, .int .u64 0, .int .u64 0, .int .u64 0, .int .u64 0, .int .u64 0, .int .u64 m.hint, .int .u64 m.must]) (.int .i64 ((1 : Nat) : Int))).run Try.prog w = .ok (.int .u64 k) w := fun _ => by rw [← hk]; kernel_rfl
  rw [hk] at U ⊢
  have HKK := Lib.hid hk; clear hk
  generalize uvS k = t at *
  by_cases h0 : k = 0
  · have x0 : ((k : Int) != 0) = false := by simp; exact h0
    rw [decide_eq_false (fun h => h h0)]
    clear h0
    go_enter Try.func24, Try.ntmps24
    go_wp2
    go_ret2
    exact ⟨_, rfl, (fun h => by cases h), HB.out⟩
  · have x0 : ((k : Int) != 0) = true := by simp; exact h0
    rw [decide_eq_true h0]
    clear h0
    go_enter Try.func24, Try.ntmps24
    go_wp2_with fail
    refine (U.out _).mono ?_
    rintro e wq ⟨rfl, hb⟩
    have HB := Lib.hid (HB.out.trans (hb.mono HB.out.size)); clear hb
    go_wp2
    go_ret2
    exact ⟨_, rfl, (fun _ => rfl), HB.out⟩
set_option maxRecDepth 100000 in
set_option maxHeartbeats 4000000 in
theorem rfield_2 (f : m.Fit) : RFieldOf m A n c w 2 := by
  unfold RFieldOf
  have HB := Lib.hid ((Below.refl w.heap.size w).alloc (Nat.le_refl _) (.cells #[.int .i64 m.kind, .int .i64 m.frm, .int .i64 m.tow, .int .i64 m.node, .int .i64 m.life, .int .i64 m.seq, .int .u64 m.a, .int .u64 m.b, .string m.key, .bool m.found, .int .u64 m.time, .bool m.gone, .string m.value, .slice A n c, .string m.note, .int .u64 m.hint, .int .u64 m.must] 29))
  have q1 := conv_ok f.frm
  have q2 := conv_ok f.tow
  have U := Lib.hid (fun w => ruint_any m.tow.toNat w (ok32_lt f.tow))
  have e : fieldS m 2 = (uvS m.tow.toNat, decide (m.tow.toNat ≠ 0)) := by
    have h := f.tow
    unfold Ok32 at h
    show (uvS m.tow.toNat, decide (m.tow ≠ 0)) = _
    congr 1
    rw [decide_eq_decide]
    omega
  rw [e]
  clear e f
  unfold MsgS.arr
  generalize m.frm.toNat = k1 at *
  generalize m.tow.toNat = k2 at *
  obtain ⟨k, hk⟩ : ∃ k, k2 = k := ⟨_, rfl⟩
  have xi0 : ∀ w : World, (Instr.index 77 (.agg #[.int .u64 0, .int .u64 k1, .int .u64 k2, .int .u64 0, .int .u64 m.a, .int .u64 m.b, .int .u64 0, .int .u64 0, .int .u64 0, .int .u64 0, .int .u64 0, .int .u64 m.hint, .int .u64 m.must]) (.int .i64 2)).run Try.prog w = .ok (.int .u64 k) w := fun _ => by rw [← hk]; kernel_rfl
  have xi1 : ∀ w : World, (Instr.index 77 (.agg #[.int .u64 0, .int .u64 k1, .int .u64 k2, .int .u64 0, .int .u64 m.a, .int .u64 m.b, .int .u64 0, .int .u64 0, .int .u64 0, .int .u64 0, .int .u64 0, .int .u64 m.hint, .int .u64 m.must]) (.int .i64 ((2 : Nat) : Int))).run Try.prog w = .ok (.int .u64 k) w := fun _ => by rw [← hk]; kernel_rfl
  rw [hk] at U ⊢
  have HKK := Lib.hid hk; clear hk
  generalize uvS k = t at *
  by_cases h0 : k = 0
  · have x0 : ((k : Int) != 0) = false := by simp; exact h0
    rw [decide_eq_false (fun h => h h0)]
    clear h0
    go_enter Try.func24, Try.ntmps24
    go_wp2
    go_ret2
    exact ⟨_, rfl, (fun h => by cases h), HB.out⟩
  · have x0 : ((k : Int) != 0) = true := by simp; exact h0
    rw [decide_eq_true h0]
    clear h0
    go_enter Try.func24, Try.ntmps24
    go_wp2_with fail
    refine (U.out _).mono ?_
    rintro e wq ⟨rfl, hb⟩
    have HB := Lib.hid (HB.out.trans (hb.mono HB.out.size)); clear hb
    go_wp2
    go_ret2
    exact ⟨_, rfl, (fun _ => rfl), HB.out⟩
set_option maxRecDepth 100000 in
set_option maxHeartbeats 4000000 in
theorem rfield_4 (f : m.Fit) : RFieldOf m A n c w 4 := by
  unfold RFieldOf
  have HB := Lib.hid ((Below.refl w.heap.size w).alloc (Nat.le_refl _) (.cells #[.int .i64 m.kind, .int .i64 m.frm, .int .i64 m.tow, .int .i64 m.node, .int .i64 m.life, .int .i64 m.seq, .int .u64 m.a, .int .u64 m.b, .string m.key, .bool m.found, .int .u64 m.time, .bool m.gone, .string m.value, .slice A n c, .string m.note, .int .u64 m.hint, .int .u64 m.must] 29))
  have q1 := conv_ok f.frm
  have q2 := conv_ok f.tow
  have U := Lib.hid (fun w => ruint_any m.a w f.a)
  have e : fieldS m 4 = (uvS m.a, decide (m.a ≠ 0)) := by
    rfl
  rw [e]
  clear e f
  unfold MsgS.arr
  generalize m.frm.toNat = k1 at *
  generalize m.tow.toNat = k2 at *
  generalize m.a = k at *
  have xi0 : ∀ w : World, (Instr.index 77 (.agg #[.int .u64 0, .int .u64 k1, .int .u64 k2, .int .u64 0, .int .u64 k, .int .u64 m.b, .int .u64 0, .int .u64 0, .int .u64 0, .int .u64 0, .int .u64 0, .int .u64 m.hint, .int .u64 m.must]) (.int .i64 4)).run Try.prog w = .ok (.int .u64 k) w := fun _ => by kernel_rfl
  have xi1 : ∀ w : World, (Instr.index 77 (.agg #[.int .u64 0, .int .u64 k1, .int .u64 k2, .int .u64 0, .int .u64 k, .int .u64 m.b, .int .u64 0, .int .u64 0, .int .u64 0, .int .u64 0, .int .u64 0, .int .u64 m.hint, .int .u64 m.must]) (.int .i64 ((4 : Nat) : Int))).run Try.prog w = .ok (.int .u64 k) w := fun _ => by kernel_rfl
  generalize uvS k = t at *
  by_cases h0 : k = 0
  · have x0 : ((k : Int) != 0) = false := by simp; exact h0
    rw [decide_eq_false (fun h => h h0)]
    clear h0
    go_enter Try.func24, Try.ntmps24
    go_wp2
    go_ret2
    exact ⟨_, rfl, (fun h => by cases h), HB.out⟩
  · have x0 : ((k : Int) != 0) = true := by simp; exact h0
    rw [decide_eq_true h0]
    clear h0
    go_enter Try.func24, Try.ntmps24
    go_wp2_with fail
    refine (U.out _).mono ?_
    rintro e wq ⟨rfl, hb⟩
    have HB := Lib.hid (HB.out.trans (hb.mono HB.out.size)); clear hb
    go_wp2
    go_ret2
    exact ⟨_, rfl, (fun _ => rfl), HB.out⟩
set_option maxRecDepth 100000 in
set_option maxHeartbeats 4000000 in
theorem rfield_5 (f : m.Fit) : RFieldOf m A n c w 5 := by
  unfold RFieldOf
  have HB := Lib.hid ((Below.refl w.heap.size w).alloc (Nat.le_refl _) (.cells #[.int .i64 m.kind, .int .i64 m.frm, .int .i64 m.tow, .int .i64 m.node, .int .i64 m.life, .int .i64 m.seq, .int .u64 m.a, .int .u64 m.b, .string m.key, .bool m.found, .int .u64 m.time, .bool m.gone, .string m.value, .slice A n c, .string m.note, .int .u64 m.hint, .int .u64 m.must] 29))
  have q1 := conv_ok f.frm
  have q2 := conv_ok f.tow
  have U := Lib.hid (fun w => ruint_any m.b w f.b)
  have e : fieldS m 5 = (uvS m.b, decide (m.b ≠ 0)) := by
    rfl
  rw [e]
  clear e f
  unfold MsgS.arr
  generalize m.frm.toNat = k1 at *
  generalize m.tow.toNat = k2 at *
  generalize m.b = k at *
  have xi0 : ∀ w : World, (Instr.index 77 (.agg #[.int .u64 0, .int .u64 k1, .int .u64 k2, .int .u64 0, .int .u64 m.a, .int .u64 k, .int .u64 0, .int .u64 0, .int .u64 0, .int .u64 0, .int .u64 0, .int .u64 m.hint, .int .u64 m.must]) (.int .i64 5)).run Try.prog w = .ok (.int .u64 k) w := fun _ => by kernel_rfl
  have xi1 : ∀ w : World, (Instr.index 77 (.agg #[.int .u64 0, .int .u64 k1, .int .u64 k2, .int .u64 0, .int .u64 m.a, .int .u64 k, .int .u64 0, .int .u64 0, .int .u64 0, .int .u64 0, .int .u64 0, .int .u64 m.hint, .int .u64 m.must]) (.int .i64 ((5 : Nat) : Int))).run Try.prog w = .ok (.int .u64 k) w := fun _ => by kernel_rfl
  generalize uvS k = t at *
  by_cases h0 : k = 0
  · have x0 : ((k : Int) != 0) = false := by simp; exact h0
    rw [decide_eq_false (fun h => h h0)]
    clear h0
    go_enter Try.func24, Try.ntmps24
    go_wp2
    go_ret2
    exact ⟨_, rfl, (fun h => by cases h), HB.out⟩
  · have x0 : ((k : Int) != 0) = true := by simp; exact h0
    rw [decide_eq_true h0]
    clear h0
    go_enter Try.func24, Try.ntmps24
    go_wp2_with fail
    refine (U.out _).mono ?_
    rintro e wq ⟨rfl, hb⟩
    have HB := Lib.hid (HB.out.trans (hb.mono HB.out.size)); clear hb
    go_wp2
    go_ret2
    exact ⟨_, rfl, (fun _ => rfl), HB.out⟩
set_option maxRecDepth 100000 in
set_option maxHeartbeats 4000000 in
theorem rfield_11 (f : m.Fit) : RFieldOf m A n c w 11 := by
  unfold RFieldOf
  have HB := Lib.hid ((Below.refl w.heap.size w).alloc (Nat.le_refl _) (.cells #[.int .i64 m.kind, .int .i64 m.frm, .int .i64 m.tow, .int .i64 m.node, .int .i64 m.life, .int .i64 m.seq, .int .u64 m.a, .int .u64 m.b, .string m.key, .bool m.found, .int .u64 m.time, .bool m.gone, .string m.value, .slice A n c, .string m.note, .int .u64 m.hint, .int .u64 m.must] 29))
  have q1 := conv_ok f.frm
  have q2 := conv_ok f.tow
  have U := Lib.hid (fun w => ruint_any m.hint w f.hint)
  have e : fieldS m 11 = (uvS m.hint, decide (m.hint ≠ 0)) := by
    rfl
  rw [e]
  clear e f
  unfold MsgS.arr
  generalize m.frm.toNat = k1 at *
  generalize m.tow.toNat = k2 at *
  generalize m.hint = k at *
  have xi0 : ∀ w : World, (Instr.index 77 (.agg #[.int .u64 0, .int .u64 k1, .int .u64 k2, .int .u64 0, .int .u64 m.a, .int .u64 m.b, .int .u64 0, .int .u64 0, .int .u64 0, .int .u64 0, .int .u64 0, .int .u64 k, .int .u64 m.must]) (.int .i64 11)).run Try.prog w = .ok (.int .u64 k) w := fun _ => by kernel_rfl
  have xi1 : ∀ w : World, (Instr.index 77 (.agg #[.int .u64 0, .int .u64 k1, .int .u64 k2, .int .u64 0, .int .u64 m.a, .int .u64 m.b, .int .u64 0, .int .u64 0, .int .u64 0, .int .u64 0, .int .u64 0, .int .u64 k, .int .u64 m.must]) (.int .i64 ((11 : Nat) : Int))).run Try.prog w = .ok (.int .u64 k) w := fun _ => by kernel_rfl
  generalize uvS k = t at *
  by_cases h0 : k = 0
  · have x0 : ((k : Int) != 0) = false := by simp; exact h0
    rw [decide_eq_false (fun h => h h0)]
    clear h0
    go_enter Try.func24, Try.ntmps24
    go_wp2
    go_ret2
    exact ⟨_, rfl, (fun h => by cases h), HB.out⟩
  · have x0 : ((k : Int) != 0) = true := by simp; exact h0
    rw [decide_eq_true h0]
    clear h0
    go_enter Try.func24, Try.ntmps24
    go_wp2_with fail
    refine (U.out _).mono ?_
    rintro e wq ⟨rfl, hb⟩
    have HB := Lib.hid (HB.out.trans (hb.mono HB.out.size)); clear hb
    go_wp2
    go_ret2
    exact ⟨_, rfl, (fun _ => rfl), HB.out⟩
set_option maxRecDepth 100000 in
set_option maxHeartbeats 4000000 in
theorem rfield_12 (f : m.Fit) : RFieldOf m A n c w 12 := by
  unfold RFieldOf
  have HB := Lib.hid ((Below.refl w.heap.size w).alloc (Nat.le_refl _) (.cells #[.int .i64 m.kind, .int .i64 m.frm, .int .i64 m.tow, .int .i64 m.node, .int .i64 m.life, .int .i64 m.seq, .int .u64 m.a, .int .u64 m.b, .string m.key, .bool m.found, .int .u64 m.time, .bool m.gone, .string m.value, .slice A n c, .string m.note, .int .u64 m.hint, .int .u64 m.must] 29))
  have q1 := conv_ok f.frm
  have q2 := conv_ok f.tow
  have U := Lib.hid (fun w => ruint_any m.must w f.must)
  have e : fieldS m 12 = (uvS m.must, decide (m.must ≠ 0)) := by
    rfl
  rw [e]
  clear e f
  unfold MsgS.arr
  generalize m.frm.toNat = k1 at *
  generalize m.tow.toNat = k2 at *
  generalize m.must = k at *
  have xi0 : ∀ w : World, (Instr.index 77 (.agg #[.int .u64 0, .int .u64 k1, .int .u64 k2, .int .u64 0, .int .u64 m.a, .int .u64 m.b, .int .u64 0, .int .u64 0, .int .u64 0, .int .u64 0, .int .u64 0, .int .u64 m.hint, .int .u64 k]) (.int .i64 12)).run Try.prog w = .ok (.int .u64 k) w := fun _ => by kernel_rfl
  have xi1 : ∀ w : World, (Instr.index 77 (.agg #[.int .u64 0, .int .u64 k1, .int .u64 k2, .int .u64 0, .int .u64 m.a, .int .u64 m.b, .int .u64 0, .int .u64 0, .int .u64 0, .int .u64 0, .int .u64 0, .int .u64 m.hint, .int .u64 k]) (.int .i64 ((12 : Nat) : Int))).run Try.prog w = .ok (.int .u64 k) w := fun _ => by kernel_rfl
  generalize uvS k = t at *
  by_cases h0 : k = 0
  · have x0 : ((k : Int) != 0) = false := by simp; exact h0
    rw [decide_eq_false (fun h => h h0)]
    clear h0
    go_enter Try.func24, Try.ntmps24
    go_wp2
    go_ret2
    exact ⟨_, rfl, (fun h => by cases h), HB.out⟩
  · have x0 : ((k : Int) != 0) = true := by simp; exact h0
    rw [decide_eq_true h0]
    clear h0
    go_enter Try.func24, Try.ntmps24
    go_wp2_with fail
    refine (U.out _).mono ?_
    rintro e wq ⟨rfl, hb⟩
    have HB := Lib.hid (HB.out.trans (hb.mono HB.out.size)); clear hb
    go_wp2
    go_ret2
    exact ⟨_, rfl, (fun _ => rfl), HB.out⟩
set_option maxRecDepth 100000 in
set_option maxHeartbeats 4000000 in
theorem rfield_6 (f : m.Fit) : RFieldOf m A n c w 6 := by
  unfold RFieldOf
  have HB := Lib.hid ((Below.refl w.heap.size w).alloc (Nat.le_refl _) (.cells #[.int .i64 m.kind, .int .i64 m.frm, .int .i64 m.tow, .int .i64 m.node, .int .i64 m.life, .int .i64 m.seq, .int .u64 m.a, .int .u64 m.b, .string m.key, .bool m.found, .int .u64 m.time, .bool m.gone, .string m.value, .slice A n c, .string m.note, .int .u64 m.hint, .int .u64 m.must] 29))
  have q1 := conv_ok f.frm
  have q2 := conv_ok f.tow
  have e : fieldS m 6 = (m.key, decide (m.key.size ≠ 0)) := rfl
  rw [e]
  clear e f
  unfold MsgS.arr
  generalize m.frm.toNat = k1 at *
  generalize m.tow.toNat = k2 at *
  have xi0 : ∀ w : World, (Instr.index 77 (.agg #[.int .u64 0, .int .u64 k1, .int .u64 k2, .int .u64 0, .int .u64 m.a, .int .u64 m.b, .int .u64 0, .int .u64 0, .int .u64 0, .int .u64 0, .int .u64 0, .int .u64 m.hint, .int .u64 m.must]) (.int .i64 6)).run Try.prog w = .ok (.int .u64 0) w := fun _ => by kernel_rfl
  have xi1 : ∀ w : World, (Instr.index 77 (.agg #[.int .u64 0, .int .u64 k1, .int .u64 k2, .int .u64 0, .int .u64 m.a, .int .u64 m.b, .int .u64 0, .int .u64 0, .int .u64 0, .int .u64 0, .int .u64 0, .int .u64 m.hint, .int .u64 m.must]) (.int .i64 ((6 : Nat) : Int))).run Try.prog w = .ok (.int .u64 0) w := fun _ => by kernel_rfl
  go_enter Try.func24, Try.ntmps24
  go_wp2
  go_quiet (fail)
  have HB := Lib.hid (pw_below_drewN HB.out nq)
  go_wp2
  go_ret2
  first | exact ⟨_, rfl, (fun _ => rfl), HB.out⟩ | (rw [← str_ne]; exact ⟨_, rfl, (fun _ => rfl), HB.out⟩)
set_option maxRecDepth 100000 in
set_option maxHeartbeats 4000000 in
theorem rfield_7 (f : m.Fit) : RFieldOf m A n c w 7 := by
  unfold RFieldOf
  have HB := Lib.hid ((Below.refl w.heap.size w).alloc (Nat.le_refl _) (.cells #[.int .i64 m.kind, .int .i64 m.frm, .int .i64 m.tow, .int .i64 m.node, .int .i64 m.life, .int .i64 m.seq, .int .u64 m.a, .int .u64 m.b, .string m.key, .bool m.found, .int .u64 m.time, .bool m.gone, .string m.value, .slice A n c, .string m.note, .int .u64 m.hint, .int .u64 m.must] 29))
  have q1 := conv_ok f.frm
  have q2 := conv_ok f.tow
  have e : fieldS m 7 = (⟨#[]⟩, m.found) := rfl
  rw [e]
  clear e f
  unfold MsgS.arr
  generalize m.frm.toNat = k1 at *
  generalize m.tow.toNat = k2 at *
  have xi0 : ∀ w : World, (Instr.index 77 (.agg #[.int .u64 0, .int .u64 k1, .int .u64 k2, .int .u64 0, .int .u64 m.a, .int .u64 m.b, .int .u64 0, .int .u64 0, .int .u64 0, .int .u64 0, .int .u64 0, .int .u64 m.hint, .int .u64 m.must]) (.int .i64 7)).run Try.prog w = .ok (.int .u64 0) w := fun _ => by kernel_rfl
  have xi1 : ∀ w : World, (Instr.index 77 (.agg #[.int .u64 0, .int .u64 k1, .int .u64 k2, .int .u64 0, .int .u64 m.a, .int .u64 m.b, .int .u64 0, .int .u64 0, .int .u64 0, .int .u64 0, .int .u64 0, .int .u64 m.hint, .int .u64 m.must]) (.int .i64 ((7 : Nat) : Int))).run Try.prog w = .ok (.int .u64 0) w := fun _ => by kernel_rfl
  go_enter Try.func24, Try.ntmps24
  go_wp2
  go_quiet (fail)
  have HB := Lib.hid (pw_below_drewN HB.out nq)
  go_wp2
  go_ret2
  first | exact ⟨_, rfl, (fun _ => rfl), HB.out⟩ | (rw [← str_ne]; exact ⟨_, rfl, (fun _ => rfl), HB.out⟩)
set_option maxRecDepth 100000 in
set_option maxHeartbeats 4000000 in
theorem rfield_10 (f : m.Fit) : RFieldOf m A n c w 10 := by
  unfold RFieldOf
  have HB := Lib.hid ((Below.refl w.heap.size w).alloc (Nat.le_refl _) (.cells #[.int .i64 m.kind, .int .i64 m.frm, .int .i64 m.tow, .int .i64 m.node, .int .i64 m.life, .int .i64 m.seq, .int .u64 m.a, .int .u64 m.b, .string m.key, .bool m.found, .int .u64 m.time, .bool m.gone, .string m.value, .slice A n c, .string m.note, .int .u64 m.hint, .int .u64 m.must] 29))
  have q1 := conv_ok f.frm
  have q2 := conv_ok f.tow
  have e : fieldS m 10 = (m.note, decide (m.note.size ≠ 0)) := rfl
  rw [e]
  clear e f
  unfold MsgS.arr
  generalize m.frm.toNat = k1 at *
  generalize m.tow.toNat = k2 at *
  have xi0 : ∀ w : World, (Instr.index 77 (.agg #[.int .u64 0, .int .u64 k1, .int .u64 k2, .int .u64 0, .int .u64 m.a, .int .u64 m.b, .int .u64 0, .int .u64 0, .int .u64 0, .int .u64 0, .int .u64 0, .int .u64 m.hint, .int .u64 m.must]) (.int .i64 10)).run Try.prog w = .ok (.int .u64 0) w := fun _ => by kernel_rfl
  have xi1 : ∀ w : World, (Instr.index 77 (.agg #[.int .u64 0, .int .u64 k1, .int .u64 k2, .int .u64 0, .int .u64 m.a, .int .u64 m.b, .int .u64 0, .int .u64 0, .int .u64 0, .int .u64 0, .int .u64 0, .int .u64 m.hint, .int .u64 m.must]) (.int .i64 ((10 : Nat) : Int))).run Try.prog w = .ok (.int .u64 0) w := fun _ => by kernel_rfl
  go_enter Try.func24, Try.ntmps24
  go_wp2
  go_quiet (fail)
  have HB := Lib.hid (pw_below_drewN HB.out nq)
  go_wp2
  go_ret2
  first | exact ⟨_, rfl, (fun _ => rfl), HB.out⟩ | (rw [← str_ne]; exact ⟨_, rfl, (fun _ => rfl), HB.out⟩)
end
end Go.Proofs.Ytemhmgpihkemjaa.My
