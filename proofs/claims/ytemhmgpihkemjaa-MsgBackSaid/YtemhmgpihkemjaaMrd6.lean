/- msg.reader.fields: the map of what takes each tag's field. -/
import Derived.Test.YtemhmgpihkemjaaMrd5
import Derived.Test.YtemhmgpihkemjaaMapIs
namespace Go.Proofs.Ytemhmgpihkemjaa.My
set_option linter.unusedSimpArgs false
set_option linter.unusedVariables false
open Go.RowKit Go.Proofs.YtemhmgpihkemjaaW.PrintWords Go.Proofs.YtemhmgpihkemjaaW.PrintLast Go.Proofs.Ytemhmgpihkemjaa.Pm
open Go.Maps (Keyed int_keyed)

/-- What takes a tag's field. -/
def fnV (bx g : Nat) (k : Nat) : Value := if k = 1 then .func (.func 44) #[] #[.pointer (some ⟨bx, 0, none⟩)] else if k = 2 then .func (.func 46) #[] #[.pointer (some ⟨bx, 0, none⟩)] else if k = 3 then .func (.func 47) #[.pointer (some ⟨g, 0, none⟩)] #[] else if k = 4 then .func (.func 48) #[] #[.pointer (some ⟨bx, 0, none⟩)] else if k = 5 then .func (.func 49) #[] #[.pointer (some ⟨bx, 0, none⟩)] else if k = 6 then .func (.func 50) #[] #[.pointer (some ⟨bx, 0, none⟩)] else if k = 7 then .func (.func 51) #[] #[.pointer (some ⟨bx, 0, none⟩)] else if k = 8 then .func (.func 52) #[.pointer (some ⟨g, 0, none⟩)] #[] else if k = 9 then .func (.func 53) #[.pointer (some ⟨g, 0, none⟩)] #[] else if k = 10 then .func (.func 54) #[] #[.pointer (some ⟨bx, 0, none⟩)] else if k = 11 then .func (.func 55) #[] #[.pointer (some ⟨bx, 0, none⟩)] else .func (.func 56) #[] #[.pointer (some ⟨bx, 0, none⟩)]
theorem key_int (k : Int) (h : (Lit.int .i64 k).wf = true) : keyOf Try.prog 3 (.int .i64 k) = some (.int .i64 k) := by
  rw [keyOf_int Try.underlying3]
  simp [mapKey, Try.underlying3, h]
theorem zero_fn (w : World) : ∃ z, (zeroValue 81).run Try.prog w = .ok z w := ⟨_, rfl⟩
set_option maxRecDepth 100000 in
set_option maxHeartbeats 8000000 in
theorem fields_any (g : Nat) (w : World) : Calls Try.prog 40 #[.pointer (some ⟨g, 0, none⟩)] w fun e w' => ∃ b bx, e = .returned (.map (some b)) ∧ IsBx w' bx g ∧ (∀ k : Nat, 1 ≤ k → k ≤ 12 → (Instr.lookup 83 (.map (some b)) (.int .i64 (k : Int)) true).run Try.prog w' = .ok (.tuple #[fnV bx g k, .bool true]) w') ∧ w.heap.size ≤ bx ∧ Below w.heap.size w w' := by
  have KI := @int_keyed Try.prog 3 .i64 Try.underlying3
  obtain ⟨bx, hbx⟩ : ∃ b, w.heap.size = b := ⟨_, rfl⟩
  obtain ⟨W0, hW0⟩ : ∃ W, (w.alloc (.cells #[.pointer (some ⟨g, 0, none⟩)] 64)).alloc (.map #[] 0) = W := ⟨_, rfl⟩
  have HB := Lib.hid (show Below w.heap.size w W0 by rw [← hW0]; exact below_alloc (below_alloc (Below.refl _ w) _) _)
  have X0 := Lib.hid (show IsBx W0 bx g by rw [← hW0, ← hbx]; exact blk_alloc (blk_new w _) _)
  obtain ⟨mb, hmb⟩ : ∃ b, (w.alloc (.cells #[.pointer (some ⟨g, 0, none⟩)] 64)).heap.size = b := ⟨_, rfl⟩
  have M0 := Lib.hid (show MapIs Try.prog 3 W0 mb (fun _ => none) by rw [← hW0, ← hmb]; exact MapIs.made _ _ _)
  have HMB := Lib.hid (show w.heap.size ≤ mb ∧ bx ≠ mb by
    have : mb = w.heap.size + 1 := by rw [← hmb]; simp
    omega)
  have s0 : w.heap.size + 1 = mb := by rw [← hmb]; simp
  obtain ⟨W1, hr1, m1, k1⟩ := M0.out.update KI Try.underlying83 (key_int 1 (by decide)) (.func (.func 44) #[] #[.pointer (some ⟨bx, 0, none⟩)])
  have M1 := Lib.hid m1; clear m1
  have X1 := Lib.hid (X0.out.kept k1 (fun e => HMB.out.2 e))
  replace HB := Lib.hid (HB.out.trans (k1.to_below HB.out.size (fun i hi => by have hi : i = mb := hi; rw [hi]; exact HMB.out.1))); clear k1
  have c1 := X1.out.c
  obtain ⟨W2, hr2, m2, k2⟩ := M1.out.update KI Try.underlying83 (key_int 2 (by decide)) (.func (.func 46) #[] #[.pointer (some ⟨bx, 0, none⟩)])
  have M2 := Lib.hid m2; clear m2
  have X2 := Lib.hid (X1.out.kept k2 (fun e => HMB.out.2 e))
  replace HB := Lib.hid (HB.out.trans (k2.to_below HB.out.size (fun i hi => by have hi : i = mb := hi; rw [hi]; exact HMB.out.1))); clear k2
  have c2 := X2.out.c
  obtain ⟨W3, hr3, m3, k3⟩ := M2.out.update KI Try.underlying83 (key_int 3 (by decide)) (.func (.func 47) #[.pointer (some ⟨g, 0, none⟩)] #[])
  have M3 := Lib.hid m3; clear m3
  have X3 := Lib.hid (X2.out.kept k3 (fun e => HMB.out.2 e))
  replace HB := Lib.hid (HB.out.trans (k3.to_below HB.out.size (fun i hi => by have hi : i = mb := hi; rw [hi]; exact HMB.out.1))); clear k3
  have c3 := X3.out.c
  obtain ⟨W4, hr4, m4, k4⟩ := M3.out.update KI Try.underlying83 (key_int 4 (by decide)) (.func (.func 48) #[] #[.pointer (some ⟨bx, 0, none⟩)])
  have M4 := Lib.hid m4; clear m4
  have X4 := Lib.hid (X3.out.kept k4 (fun e => HMB.out.2 e))
  replace HB := Lib.hid (HB.out.trans (k4.to_below HB.out.size (fun i hi => by have hi : i = mb := hi; rw [hi]; exact HMB.out.1))); clear k4
  have c4 := X4.out.c
  obtain ⟨W5, hr5, m5, k5⟩ := M4.out.update KI Try.underlying83 (key_int 5 (by decide)) (.func (.func 49) #[] #[.pointer (some ⟨bx, 0, none⟩)])
  have M5 := Lib.hid m5; clear m5
  have X5 := Lib.hid (X4.out.kept k5 (fun e => HMB.out.2 e))
  replace HB := Lib.hid (HB.out.trans (k5.to_below HB.out.size (fun i hi => by have hi : i = mb := hi; rw [hi]; exact HMB.out.1))); clear k5
  have c5 := X5.out.c
  obtain ⟨W6, hr6, m6, k6⟩ := M5.out.update KI Try.underlying83 (key_int 6 (by decide)) (.func (.func 50) #[] #[.pointer (some ⟨bx, 0, none⟩)])
  have M6 := Lib.hid m6; clear m6
  have X6 := Lib.hid (X5.out.kept k6 (fun e => HMB.out.2 e))
  replace HB := Lib.hid (HB.out.trans (k6.to_below HB.out.size (fun i hi => by have hi : i = mb := hi; rw [hi]; exact HMB.out.1))); clear k6
  have c6 := X6.out.c
  obtain ⟨W7, hr7, m7, k7⟩ := M6.out.update KI Try.underlying83 (key_int 7 (by decide)) (.func (.func 51) #[] #[.pointer (some ⟨bx, 0, none⟩)])
  have M7 := Lib.hid m7; clear m7
  have X7 := Lib.hid (X6.out.kept k7 (fun e => HMB.out.2 e))
  replace HB := Lib.hid (HB.out.trans (k7.to_below HB.out.size (fun i hi => by have hi : i = mb := hi; rw [hi]; exact HMB.out.1))); clear k7
  have c7 := X7.out.c
  obtain ⟨W8, hr8, m8, k8⟩ := M7.out.update KI Try.underlying83 (key_int 8 (by decide)) (.func (.func 52) #[.pointer (some ⟨g, 0, none⟩)] #[])
  have M8 := Lib.hid m8; clear m8
  have X8 := Lib.hid (X7.out.kept k8 (fun e => HMB.out.2 e))
  replace HB := Lib.hid (HB.out.trans (k8.to_below HB.out.size (fun i hi => by have hi : i = mb := hi; rw [hi]; exact HMB.out.1))); clear k8
  have c8 := X8.out.c
  obtain ⟨W9, hr9, m9, k9⟩ := M8.out.update KI Try.underlying83 (key_int 9 (by decide)) (.func (.func 53) #[.pointer (some ⟨g, 0, none⟩)] #[])
  have M9 := Lib.hid m9; clear m9
  have X9 := Lib.hid (X8.out.kept k9 (fun e => HMB.out.2 e))
  replace HB := Lib.hid (HB.out.trans (k9.to_below HB.out.size (fun i hi => by have hi : i = mb := hi; rw [hi]; exact HMB.out.1))); clear k9
  have c9 := X9.out.c
  obtain ⟨W10, hr10, m10, k10⟩ := M9.out.update KI Try.underlying83 (key_int 10 (by decide)) (.func (.func 54) #[] #[.pointer (some ⟨bx, 0, none⟩)])
  have M10 := Lib.hid m10; clear m10
  have X10 := Lib.hid (X9.out.kept k10 (fun e => HMB.out.2 e))
  replace HB := Lib.hid (HB.out.trans (k10.to_below HB.out.size (fun i hi => by have hi : i = mb := hi; rw [hi]; exact HMB.out.1))); clear k10
  have c10 := X10.out.c
  obtain ⟨W11, hr11, m11, k11⟩ := M10.out.update KI Try.underlying83 (key_int 11 (by decide)) (.func (.func 55) #[] #[.pointer (some ⟨bx, 0, none⟩)])
  have M11 := Lib.hid m11; clear m11
  have X11 := Lib.hid (X10.out.kept k11 (fun e => HMB.out.2 e))
  replace HB := Lib.hid (HB.out.trans (k11.to_below HB.out.size (fun i hi => by have hi : i = mb := hi; rw [hi]; exact HMB.out.1))); clear k11
  have c11 := X11.out.c
  obtain ⟨W12, hr12, m12, k12⟩ := M11.out.update KI Try.underlying83 (key_int 12 (by decide)) (.func (.func 56) #[] #[.pointer (some ⟨bx, 0, none⟩)])
  have M12 := Lib.hid m12; clear m12
  have X12 := Lib.hid (X11.out.kept k12 (fun e => HMB.out.2 e))
  replace HB := Lib.hid (HB.out.trans (k12.to_below HB.out.size (fun i hi => by have hi : i = mb := hi; rw [hi]; exact HMB.out.1))); clear k12
  have c12 := X12.out.c
  have HX := Lib.hid (show w.heap.size ≤ bx by omega)
  have hmk : (Instr.makeMap 83 none).run Try.prog (w.alloc (.cells #[.pointer (some ⟨g, 0, none⟩)] 64)) = .ok (.map (some mb)) W0 := by rw [← hmb, ← hW0]; kernel_rfl
  clear KI
  go_enter Try.func40, Try.ntmps40
  go_wp2
  go_ret
  obtain ⟨z, hz⟩ := zero_fn W12
  have KI := @int_keyed Try.prog 3 .i64 Try.underlying3
  have L1 : (Instr.lookup 83 (.map (some mb)) (.int .i64 1) true).run Try.prog W12 = .ok (.tuple #[.func (.func 44) #[] #[.pointer (some ⟨bx, 0, none⟩)], .bool true]) W12 := by
    rcases M12.out.look KI Try.underlying83 hz (key_int 1 (by decide)) true with ⟨h1, h2⟩ | ⟨v, h1, h2⟩
    · simp [upd_same, upd_other] at h1
    · simp [upd_same, upd_other] at h1
      subst h1
      exact h2
  have L2 : (Instr.lookup 83 (.map (some mb)) (.int .i64 2) true).run Try.prog W12 = .ok (.tuple #[.func (.func 46) #[] #[.pointer (some ⟨bx, 0, none⟩)], .bool true]) W12 := by
    rcases M12.out.look KI Try.underlying83 hz (key_int 2 (by decide)) true with ⟨h1, h2⟩ | ⟨v, h1, h2⟩
    · simp [upd_same, upd_other] at h1
    · simp [upd_same, upd_other] at h1
      subst h1
      exact h2
  have L3 : (Instr.lookup 83 (.map (some mb)) (.int .i64 3) true).run Try.prog W12 = .ok (.tuple #[.func (.func 47) #[.pointer (some ⟨g, 0, none⟩)] #[], .bool true]) W12 := by
    rcases M12.out.look KI Try.underlying83 hz (key_int 3 (by decide)) true with ⟨h1, h2⟩ | ⟨v, h1, h2⟩
    · simp [upd_same, upd_other] at h1
    · simp [upd_same, upd_other] at h1
      subst h1
      exact h2
  have L4 : (Instr.lookup 83 (.map (some mb)) (.int .i64 4) true).run Try.prog W12 = .ok (.tuple #[.func (.func 48) #[] #[.pointer (some ⟨bx, 0, none⟩)], .bool true]) W12 := by
    rcases M12.out.look KI Try.underlying83 hz (key_int 4 (by decide)) true with ⟨h1, h2⟩ | ⟨v, h1, h2⟩
    · simp [upd_same, upd_other] at h1
    · simp [upd_same, upd_other] at h1
      subst h1
      exact h2
  have L5 : (Instr.lookup 83 (.map (some mb)) (.int .i64 5) true).run Try.prog W12 = .ok (.tuple #[.func (.func 49) #[] #[.pointer (some ⟨bx, 0, none⟩)], .bool true]) W12 := by
    rcases M12.out.look KI Try.underlying83 hz (key_int 5 (by decide)) true with ⟨h1, h2⟩ | ⟨v, h1, h2⟩
    · simp [upd_same, upd_other] at h1
    · simp [upd_same, upd_other] at h1
      subst h1
      exact h2
  have L6 : (Instr.lookup 83 (.map (some mb)) (.int .i64 6) true).run Try.prog W12 = .ok (.tuple #[.func (.func 50) #[] #[.pointer (some ⟨bx, 0, none⟩)], .bool true]) W12 := by
    rcases M12.out.look KI Try.underlying83 hz (key_int 6 (by decide)) true with ⟨h1, h2⟩ | ⟨v, h1, h2⟩
    · simp [upd_same, upd_other] at h1
    · simp [upd_same, upd_other] at h1
      subst h1
      exact h2
  have L7 : (Instr.lookup 83 (.map (some mb)) (.int .i64 7) true).run Try.prog W12 = .ok (.tuple #[.func (.func 51) #[] #[.pointer (some ⟨bx, 0, none⟩)], .bool true]) W12 := by
    rcases M12.out.look KI Try.underlying83 hz (key_int 7 (by decide)) true with ⟨h1, h2⟩ | ⟨v, h1, h2⟩
    · simp [upd_same, upd_other] at h1
    · simp [upd_same, upd_other] at h1
      subst h1
      exact h2
  have L8 : (Instr.lookup 83 (.map (some mb)) (.int .i64 8) true).run Try.prog W12 = .ok (.tuple #[.func (.func 52) #[.pointer (some ⟨g, 0, none⟩)] #[], .bool true]) W12 := by
    rcases M12.out.look KI Try.underlying83 hz (key_int 8 (by decide)) true with ⟨h1, h2⟩ | ⟨v, h1, h2⟩
    · simp [upd_same, upd_other] at h1
    · simp [upd_same, upd_other] at h1
      subst h1
      exact h2
  have L9 : (Instr.lookup 83 (.map (some mb)) (.int .i64 9) true).run Try.prog W12 = .ok (.tuple #[.func (.func 53) #[.pointer (some ⟨g, 0, none⟩)] #[], .bool true]) W12 := by
    rcases M12.out.look KI Try.underlying83 hz (key_int 9 (by decide)) true with ⟨h1, h2⟩ | ⟨v, h1, h2⟩
    · simp [upd_same, upd_other] at h1
    · simp [upd_same, upd_other] at h1
      subst h1
      exact h2
  have L10 : (Instr.lookup 83 (.map (some mb)) (.int .i64 10) true).run Try.prog W12 = .ok (.tuple #[.func (.func 54) #[] #[.pointer (some ⟨bx, 0, none⟩)], .bool true]) W12 := by
    rcases M12.out.look KI Try.underlying83 hz (key_int 10 (by decide)) true with ⟨h1, h2⟩ | ⟨v, h1, h2⟩
    · simp [upd_same, upd_other] at h1
    · simp [upd_same, upd_other] at h1
      subst h1
      exact h2
  have L11 : (Instr.lookup 83 (.map (some mb)) (.int .i64 11) true).run Try.prog W12 = .ok (.tuple #[.func (.func 55) #[] #[.pointer (some ⟨bx, 0, none⟩)], .bool true]) W12 := by
    rcases M12.out.look KI Try.underlying83 hz (key_int 11 (by decide)) true with ⟨h1, h2⟩ | ⟨v, h1, h2⟩
    · simp [upd_same, upd_other] at h1
    · simp [upd_same, upd_other] at h1
      subst h1
      exact h2
  have L12 : (Instr.lookup 83 (.map (some mb)) (.int .i64 12) true).run Try.prog W12 = .ok (.tuple #[.func (.func 56) #[] #[.pointer (some ⟨bx, 0, none⟩)], .bool true]) W12 := by
    rcases M12.out.look KI Try.underlying83 hz (key_int 12 (by decide)) true with ⟨h1, h2⟩ | ⟨v, h1, h2⟩
    · simp [upd_same, upd_other] at h1
    · simp [upd_same, upd_other] at h1
      subst h1
      exact h2
  refine ⟨mb, bx, rfl, X12.out, fun k h1 h2 => ?_, HX.out, HB.out⟩
  match k, h1, h2 with
  | 1, _, _ => exact L1
  | 2, _, _ => exact L2
  | 3, _, _ => exact L3
  | 4, _, _ => exact L4
  | 5, _, _ => exact L5
  | 6, _, _ => exact L6
  | 7, _, _ => exact L7
  | 8, _, _ => exact L8
  | 9, _, _ => exact L9
  | 10, _, _ => exact L10
  | 11, _, _ => exact L11
  | 12, _, _ => exact L12
  | 0, h, _ => exact absurd h (by decide)
  | n + 13, _, h => exact absurd h (by omega)
end Go.Proofs.Ytemhmgpihkemjaa.My
