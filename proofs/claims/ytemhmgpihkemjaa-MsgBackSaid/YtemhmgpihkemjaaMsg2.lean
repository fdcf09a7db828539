/- msg.Msg.field, tag by tag. -/
import Derived.Test.YtemhmgpihkemjaaMsg
namespace Go.Proofs.Ytemhmgpihkemjaa.My
set_option linter.unusedSimpArgs false
set_option linter.unusedVariables false
open Go.RowKit Go.Proofs.YtemhmgpihkemjaaW.PrintWords Go.Proofs.YtemhmgpihkemjaaW.PrintLast Go.Proofs.Ytemhmgpihkemjaa.Pm

theorem ite3 {α : Type} (f : Bool → α) (p q r : Prop) [Decidable p] [Decidable q] [Decidable r] : (if p then if q then if r then f false else f true else f true else f true) = f (decide (¬ (p ∧ q ∧ r))) := by
  by_cases h1 : p <;> by_cases h2 : q <;> by_cases h3 : r <;> simp [h1, h2, h3]
theorem bool3 (p q r : Prop) [Decidable p] [Decidable q] [Decidable r] : decide (¬ (p ∧ q ∧ r)) = (!decide p || (!decide q || !decide r)) := by
  by_cases h1 : p <;> by_cases h2 : q <;> by_cases h3 : r <;> simp [h1, h2, h3]
theorem ite3v {α : Type} (f : Bool → α) (a : Nat) (g : Bool) (v : ByteArray) : (if a = 0 then if g = true then f true else if v.toList = [] then f false else f true else f true) = f (decide (¬ (a = 0 ∧ g = false ∧ v.size = 0))) := by
  have e := str_nil v
  by_cases h1 : a = 0 <;> cases g <;> by_cases h3 : v.size = 0 <;> simp [h1, e, h3]
theorem rng3 {w : World} {b off : Nat} {x y z : Value} (h0 : w.cell? ⟨b, off, none⟩ = some x) (h1 : w.cell? ⟨b, off + 1, none⟩ = some y) (h2 : w.cell? ⟨b, off + 2, none⟩ = some z) : w.rangeAt b off [x, y, z] := by
  intro j v hj
  match j with
  | 0 => simp only [List.getElem?_cons_zero, Option.some.injEq] at hj; subst hj; exact h0
  | 1 => simp only [List.getElem?_cons_succ, List.getElem?_cons_zero, Option.some.injEq] at hj; subst hj; exact h1
  | 2 => simp only [List.getElem?_cons_succ, List.getElem?_cons_zero, Option.some.injEq] at hj; subst hj; exact h2
  | j + 3 => simp at hj
section
variable (m : MsgS) (A : Option Addr) (n c : Nat) (w : World)
def FieldOf (m : MsgS) (A : Option Addr) (n c : Nat) (w : World) (tag : Nat) : Prop :=
  Calls Try.prog 35 #[.agg (m.arr A n c), .int .i64 (tag : Int)] w fun e w' => e = .returned (.tuple #[.string (fieldS m tag).1, .bool (fieldS m tag).2]) ∧ Below w.heap.size w w'
set_option maxRecDepth 100000 in
set_option maxHeartbeats 4000000 in
theorem mfield_1 (f : m.Fit) : FieldOf m A n c w 1 := by
  unfold FieldOf
  have HB := Lib.hid ((Below.refl w.heap.size w).alloc (Nat.le_refl _) (.cells #[.int .i64 m.kind, .int .i64 m.frm, .int .i64 m.tow, .int .i64 m.node, .int .i64 m.life, .int .i64 m.seq, .int .u64 m.a, .int .u64 m.b, .string m.key, .bool m.found, .int .u64 m.time, .bool m.gone, .string m.value, .slice A n c, .string m.note, .int .u64 m.hint, .int .u64 m.must] 29))
  have U := Lib.hid (fun w => number_any m.frm.toNat w (ok32_lt f.frm))
  have q := conv_ok f.frm
  have e : fieldS m 1 = (uvS m.frm.toNat, decide (m.frm.toNat ≠ 0)) := by
    have h := f.frm
    unfold Ok32 at h
    show (uvS m.frm.toNat, decide (m.frm ≠ 0)) = _
    congr 1
    rw [decide_eq_decide]
    omega
  rw [e]
  clear e f
  unfold MsgS.arr
  generalize m.frm.toNat = k at *
  generalize uvS k = t at *
  generalize decide (k ≠ 0) = dd at *
  go_enter Try.func35, Try.ntmps35
  go_wp2_with fail
  refine (U.out _).mono ?_
  rintro e wq ⟨rfl, hb⟩
  have HB := Lib.hid (HB.out.trans (hb.mono HB.out.size)); clear hb
  go_wp2
  go_ret2
  exact ⟨rfl, HB.out⟩
set_option maxRecDepth 100000 in
set_option maxHeartbeats 4000000 in
theorem mfield_2 (f : m.Fit) : FieldOf m A n c w 2 := by
  unfold FieldOf
  have HB := Lib.hid ((Below.refl w.heap.size w).alloc (Nat.le_refl _) (.cells #[.int .i64 m.kind, .int .i64 m.frm, .int .i64 m.tow, .int .i64 m.node, .int .i64 m.life, .int .i64 m.seq, .int .u64 m.a, .int .u64 m.b, .string m.key, .bool m.found, .int .u64 m.time, .bool m.gone, .string m.value, .slice A n c, .string m.note, .int .u64 m.hint, .int .u64 m.must] 29))
  have U := Lib.hid (fun w => number_any m.tow.toNat w (ok32_lt f.tow))
  have q := conv_ok f.tow
  have e : fieldS m 2 = (uvS m.tow.toNat, decide (m.tow.toNat ≠ 0)) := by
    have h := f.tow
    unfold Ok32 at h
    show (uvS m.tow.toNat, decide (m.tow ≠ 0)) = _
    congr 1
    rw [decide_eq_decide]
    omega
  rw [e]
  clear e f
  unfold MsgS.arr
  generalize m.tow.toNat = k at *
  generalize uvS k = t at *
  generalize decide (k ≠ 0) = dd at *
  go_enter Try.func35, Try.ntmps35
  go_wp2_with fail
  refine (U.out _).mono ?_
  rintro e wq ⟨rfl, hb⟩
  have HB := Lib.hid (HB.out.trans (hb.mono HB.out.size)); clear hb
  go_wp2
  go_ret2
  exact ⟨rfl, HB.out⟩
set_option maxRecDepth 100000 in
set_option maxHeartbeats 4000000 in
theorem mfield_4 (f : m.Fit) : FieldOf m A n c w 4 := by
  unfold FieldOf
  have HB := Lib.hid ((Below.refl w.heap.size w).alloc (Nat.le_refl _) (.cells #[.int .i64 m.kind, .int .i64 m.frm, .int .i64 m.tow, .int .i64 m.node, .int .i64 m.life, .int .i64 m.seq, .int .u64 m.a, .int .u64 m.b, .string m.key, .bool m.found, .int .u64 m.time, .bool m.gone, .string m.value, .slice A n c, .string m.note, .int .u64 m.hint, .int .u64 m.must] 29))
  have U := Lib.hid (fun w => number_any m.a w f.a)
  have e : fieldS m 4 = (uvS m.a, decide (m.a ≠ 0)) := rfl
  rw [e]
  clear e f
  unfold MsgS.arr
  generalize uvS m.a = t at *
  generalize decide (m.a ≠ 0) = dd at *
  go_enter Try.func35, Try.ntmps35
  go_wp2_with fail
  refine (U.out _).mono ?_
  rintro e wq ⟨rfl, hb⟩
  have HB := Lib.hid (HB.out.trans (hb.mono HB.out.size)); clear hb
  go_wp2
  go_ret2
  exact ⟨rfl, HB.out⟩
set_option maxRecDepth 100000 in
set_option maxHeartbeats 4000000 in
theorem mfield_5 (f : m.Fit) : FieldOf m A n c w 5 := by
  unfold FieldOf
  have HB := Lib.hid ((Below.refl w.heap.size w).alloc (Nat.le_refl _) (.cells #[.int .i64 m.kind, .int .i64 m.frm, .int .i64 m.tow, .int .i64 m.node, .int .i64 m.life, .int .i64 m.seq, .int .u64 m.a, .int .u64 m.b, .string m.key, .bool m.found, .int .u64 m.time, .bool m.gone, .string m.value, .slice A n c, .string m.note, .int .u64 m.hint, .int .u64 m.must] 29))
  have U := Lib.hid (fun w => number_any m.b w f.b)
  have e : fieldS m 5 = (uvS m.b, decide (m.b ≠ 0)) := rfl
  rw [e]
  clear e f
  unfold MsgS.arr
  generalize uvS m.b = t at *
  generalize decide (m.b ≠ 0) = dd at *
  go_enter Try.func35, Try.ntmps35
  go_wp2_with fail
  refine (U.out _).mono ?_
  rintro e wq ⟨rfl, hb⟩
  have HB := Lib.hid (HB.out.trans (hb.mono HB.out.size)); clear hb
  go_wp2
  go_ret2
  exact ⟨rfl, HB.out⟩
set_option maxRecDepth 100000 in
set_option maxHeartbeats 4000000 in
theorem mfield_11 (f : m.Fit) : FieldOf m A n c w 11 := by
  unfold FieldOf
  have HB := Lib.hid ((Below.refl w.heap.size w).alloc (Nat.le_refl _) (.cells #[.int .i64 m.kind, .int .i64 m.frm, .int .i64 m.tow, .int .i64 m.node, .int .i64 m.life, .int .i64 m.seq, .int .u64 m.a, .int .u64 m.b, .string m.key, .bool m.found, .int .u64 m.time, .bool m.gone, .string m.value, .slice A n c, .string m.note, .int .u64 m.hint, .int .u64 m.must] 29))
  have U := Lib.hid (fun w => number_any m.hint w f.hint)
  have e : fieldS m 11 = (uvS m.hint, decide (m.hint ≠ 0)) := rfl
  rw [e]
  clear e f
  unfold MsgS.arr
  generalize uvS m.hint = t at *
  generalize decide (m.hint ≠ 0) = dd at *
  go_enter Try.func35, Try.ntmps35
  go_wp2_with fail
  refine (U.out _).mono ?_
  rintro e wq ⟨rfl, hb⟩
  have HB := Lib.hid (HB.out.trans (hb.mono HB.out.size)); clear hb
  go_wp2
  go_ret2
  exact ⟨rfl, HB.out⟩
set_option maxRecDepth 100000 in
set_option maxHeartbeats 4000000 in
theorem mfield_12 (f : m.Fit) : FieldOf m A n c w 12 := by
  unfold FieldOf
  have HB := Lib.hid ((Below.refl w.heap.size w).alloc (Nat.le_refl _) (.cells #[.int .i64 m.kind, .int .i64 m.frm, .int .i64 m.tow, .int .i64 m.node, .int .i64 m.life, .int .i64 m.seq, .int .u64 m.a, .int .u64 m.b, .string m.key, .bool m.found, .int .u64 m.time, .bool m.gone, .string m.value, .slice A n c, .string m.note, .int .u64 m.hint, .int .u64 m.must] 29))
  have U := Lib.hid (fun w => number_any m.must w f.must)
  have e : fieldS m 12 = (uvS m.must, decide (m.must ≠ 0)) := rfl
  rw [e]
  clear e f
  unfold MsgS.arr
  generalize uvS m.must = t at *
  generalize decide (m.must ≠ 0) = dd at *
  go_enter Try.func35, Try.ntmps35
  go_wp2_with fail
  refine (U.out _).mono ?_
  rintro e wq ⟨rfl, hb⟩
  have HB := Lib.hid (HB.out.trans (hb.mono HB.out.size)); clear hb
  go_wp2
  go_ret2
  exact ⟨rfl, HB.out⟩
set_option maxRecDepth 100000 in
set_option maxHeartbeats 4000000 in
theorem mfield_6 (f : m.Fit) : FieldOf m A n c w 6 := by
  unfold FieldOf
  have HB := Lib.hid ((Below.refl w.heap.size w).alloc (Nat.le_refl _) (.cells #[.int .i64 m.kind, .int .i64 m.frm, .int .i64 m.tow, .int .i64 m.node, .int .i64 m.life, .int .i64 m.seq, .int .u64 m.a, .int .u64 m.b, .string m.key, .bool m.found, .int .u64 m.time, .bool m.gone, .string m.value, .slice A n c, .string m.note, .int .u64 m.hint, .int .u64 m.must] 29))
  have e : fieldS m 6 = (m.key, decide (m.key.size ≠ 0)) := rfl
  rw [e]
  clear e f
  unfold MsgS.arr
  go_enter Try.func35, Try.ntmps35
  go_wp2
  go_quiet (fail)
  have HB := Lib.hid (pw_below_drewN HB.out nq)
  go_wp2
  go_ret2
  first | exact ⟨rfl, HB.out⟩ | (rw [← str_ne]; exact ⟨rfl, HB.out⟩)
set_option maxRecDepth 100000 in
set_option maxHeartbeats 4000000 in
theorem mfield_7 (f : m.Fit) : FieldOf m A n c w 7 := by
  unfold FieldOf
  have HB := Lib.hid ((Below.refl w.heap.size w).alloc (Nat.le_refl _) (.cells #[.int .i64 m.kind, .int .i64 m.frm, .int .i64 m.tow, .int .i64 m.node, .int .i64 m.life, .int .i64 m.seq, .int .u64 m.a, .int .u64 m.b, .string m.key, .bool m.found, .int .u64 m.time, .bool m.gone, .string m.value, .slice A n c, .string m.note, .int .u64 m.hint, .int .u64 m.must] 29))
  have e : fieldS m 7 = (⟨#[]⟩, m.found) := rfl
  rw [e]
  clear e f
  unfold MsgS.arr
  go_enter Try.func35, Try.ntmps35
  go_wp2
  go_quiet (fail)
  have HB := Lib.hid (pw_below_drewN HB.out nq)
  go_wp2
  go_ret2
  first | exact ⟨rfl, HB.out⟩ | (rw [← str_ne]; exact ⟨rfl, HB.out⟩)
set_option maxRecDepth 100000 in
set_option maxHeartbeats 4000000 in
theorem mfield_10 (f : m.Fit) : FieldOf m A n c w 10 := by
  unfold FieldOf
  have HB := Lib.hid ((Below.refl w.heap.size w).alloc (Nat.le_refl _) (.cells #[.int .i64 m.kind, .int .i64 m.frm, .int .i64 m.tow, .int .i64 m.node, .int .i64 m.life, .int .i64 m.seq, .int .u64 m.a, .int .u64 m.b, .string m.key, .bool m.found, .int .u64 m.time, .bool m.gone, .string m.value, .slice A n c, .string m.note, .int .u64 m.hint, .int .u64 m.must] 29))
  have e : fieldS m 10 = (m.note, decide (m.note.size ≠ 0)) := rfl
  rw [e]
  clear e f
  unfold MsgS.arr
  go_enter Try.func35, Try.ntmps35
  go_wp2
  go_quiet (fail)
  have HB := Lib.hid (pw_below_drewN HB.out nq)
  go_wp2
  go_ret2
  first | exact ⟨rfl, HB.out⟩ | (rw [← str_ne]; exact ⟨rfl, HB.out⟩)
set_option maxRecDepth 100000 in
set_option maxHeartbeats 4000000 in
theorem mfield_3 (f : m.Fit) : FieldOf m A n c w 3 := by
  unfold FieldOf
  have HB := Lib.hid ((Below.refl w.heap.size w).alloc (Nat.le_refl _) (.cells #[.int .i64 m.kind, .int .i64 m.frm, .int .i64 m.tow, .int .i64 m.node, .int .i64 m.life, .int .i64 m.seq, .int .u64 m.a, .int .u64 m.b, .string m.key, .bool m.found, .int .u64 m.time, .bool m.gone, .string m.value, .slice A n c, .string m.note, .int .u64 m.hint, .int .u64 m.must] 29))
  have U1 := Lib.hid (fun w => uint_any m.node.toNat w (ok32_lt f.node))
  have U2 := Lib.hid (fun w => uint_any m.life.toNat w (ok32_lt f.life))
  have U3 := Lib.hid (fun w => uint_any m.seq.toNat w (ok32_lt f.seq))
  have q1 := conv_ok f.node
  have q2 := conv_ok f.life
  have q3 := conv_ok f.seq
  have e : fieldS m 3 = (uvS m.node.toNat ++ uvS m.life.toNat ++ uvS m.seq.toNat, decide (¬ (m.node = 0 ∧ m.life = 0 ∧ m.seq = 0))) := rfl
  rw [e]
  have l1 := uvS_le (ok32_lt f.node)
  have l2 := uvS_le (ok32_lt f.life)
  have l3 := uvS_le (ok32_lt f.seq)
  clear e f
  unfold MsgS.arr
  generalize uvS m.node.toNat = t1 at *
  generalize uvS m.life.toNat = t2 at *
  generalize uvS m.seq.toNat = t3 at *
  generalize m.node.toNat = k1 at *
  generalize m.life.toNat = k2 at *
  generalize m.seq.toNat = k3 at *
  have b1 : (9223372036854775807 < t1.size + t2.size) = False := eq_false (by omega)
  have b2 : (9223372036854775807 < (t1 ++ t2).size + t3.size) = False := eq_false (by rw [ByteArray.size_append]; omega)
  have b3 : (9223372036854775807 < t1.size + t2.size + t3.size) = False := eq_false (by omega)
  clear l1 l2 l3
  go_enter Try.func35, Try.ntmps35
  go_wp2
  have HP := Lib.hid (blk_new (w.alloc (.cells #[.int .i64 m.kind, .int .i64 m.frm, .int .i64 m.tow, .int .i64 m.node, .int .i64 m.life, .int .i64 m.seq, .int .u64 m.a, .int .u64 m.b, .string m.key, .bool m.found, .int .u64 m.time, .bool m.gone, .string m.value, .slice A n c, .string m.note, .int .u64 m.hint, .int .u64 m.must] 29)) (.cells #[.int .i64 m.node, .int .i64 m.life, .int .i64 m.seq] 23))
  have HB := Lib.hid (HB.out.alloc HB.out.size (.cells #[.int .i64 m.node, .int .i64 m.life, .int .i64 m.seq] 23))
  rw [World.size_alloc] at HP
  generalize w.heap.size + 1 = bb at *
  generalize (w.alloc (.cells #[.int .i64 m.kind, .int .i64 m.frm, .int .i64 m.tow, .int .i64 m.node, .int .i64 m.life, .int .i64 m.seq, .int .u64 m.a, .int .u64 m.b, .string m.key, .bool m.found, .int .u64 m.time, .bool m.gone, .string m.value, .slice A n c, .string m.note, .int .u64 m.hint, .int .u64 m.must] 29)).alloc (.cells #[.int .i64 m.node, .int .i64 m.life, .int .i64 m.seq] 23) = w1 at *
  refine start_ (n := 19) (S := fun w' => w'.heap[bb]? = some (.cells #[.int .i64 m.node, .int .i64 m.life, .int .i64 m.seq] 23 (0, 0)) ∧ w'.cell? ⟨bb, 0, none⟩ = some (.int .i64 m.node) ∧ w'.cell? ⟨bb, 1, none⟩ = some (.int .i64 m.life) ∧ w'.cell? ⟨bb, 2, none⟩ = some (.int .i64 m.seq)) (ds := []) #[false, false, false, false, false, false, false, false, false, false, false, false, false, false, false, false, false, false, false] (by kernel_rfl) rfl rfl ⟨blk_drew HP.out, (blk_cell (blk_drew HP.out) 0).trans rfl, (blk_cell (blk_drew HP.out) 1).trans rfl, (blk_cell (blk_drew HP.out) 2).trans rfl⟩ (fun hHeld => ?_)
  have HB := Lib.hid (below_drew HB.out)
  refine pure_ (i := 0) (N := some 31) (v := ?_) (a' := ?_) #[true, false, false, false, false, false, false, false, false, false, false, false, false, false, false, false, false, false, false] rfl rfl (by kernel_rfl) (fun _ _ _ h => h) (Or.inl ⟨by rfl, ?_⟩) ?_ ?_
  rotate_left
  · intro w'
    go_simp
    with_reducible rfl
  rotate_left
  · simp only [Act.put, List.setIfInBounds_toArray, List.set_cons_zero, List.set_cons_succ, i64_w, i32_w]
    rfl
  refine pure_ (i := 4) (N := some 35) (v := ?_) (a' := ?_) #[true, false, false, false, true, false, false, false, false, false, false, false, false, false, false, false, false, false, false] rfl rfl (by kernel_rfl) (fun _ _ _ h => h) (Or.inl ⟨by rfl, ?_⟩) ?_ ?_
  rotate_left
  · intro w'
    go_simp
    with_reducible rfl
  rotate_left
  · simp only [Act.put, List.setIfInBounds_toArray, List.set_cons_zero, List.set_cons_succ, i64_w, i32_w]
    rfl
  refine pure_ (i := 9) (N := some 40) (v := ?_) (a' := ?_) #[true, false, false, false, true, false, false, false, false, true, false, false, false, false, false, false, false, false, false] rfl rfl (by kernel_rfl) (fun _ _ _ h => h) (Or.inl ⟨by rfl, ?_⟩) ?_ ?_
  rotate_left
  · intro w'
    go_simp
    with_reducible rfl
  rotate_left
  · simp only [Act.put, List.setIfInBounds_toArray, List.set_cons_zero, List.set_cons_succ, i64_w, i32_w]
    rfl
  refine pure_ (i := 15) (N := some 46) (v := ?_) (a' := ?_) #[true, false, false, false, true, false, false, false, false, true, false, false, false, false, false, true, false, false, false] rfl rfl (by kernel_rfl) (fun _ _ _ h => h) (Or.inl ⟨by rfl, ?_⟩) ?_ ?_
  rotate_left
  · intro w'
    go_simp
    with_reducible rfl
  rotate_left
  · simp only [Act.put, List.setIfInBounds_toArray, List.set_cons_zero, List.set_cons_succ, i64_w, i32_w]
    rfl
  refine take_ (i := 1) (N := some 32) (v := ?_) (a' := ?_) #[true, true, false, false, true, false, false, false, false, true, false, false, false, false, false, true, false, false, false] rfl rfl (by kernel_rfl) (fun _ _ _ h => h) (Or.inl ⟨by rfl, ?_⟩) hHeld ?_ ?_
  rotate_left
  · rintro w' ⟨s0, s1, s2, s3⟩
    go_simp
    with_reducible rfl
  rotate_left
  · simp only [Act.put, List.setIfInBounds_toArray, List.set_cons_zero, List.set_cons_succ, i64_w, i32_w]
    rfl
  refine pure_ (i := 2) (N := some 33) (v := ?_) (a' := ?_) #[true, true, true, false, true, false, false, false, false, true, false, false, false, false, false, true, false, false, false] rfl rfl (by kernel_rfl) (fun _ _ _ h => h) (Or.inl ⟨by rfl, ?_⟩) ?_ ?_
  rotate_left
  · intro w'
    go_simp
    with_reducible rfl
  rotate_left
  · simp only [Act.put, List.setIfInBounds_toArray, List.set_cons_zero, List.set_cons_succ, i64_w, i32_w]
    rfl
  refine take_ (i := 5) (N := some 36) (v := ?_) (a' := ?_) #[true, true, true, false, true, true, false, false, false, true, false, false, false, false, false, true, false, false, false] rfl rfl (by kernel_rfl) (fun _ _ _ h => h) (Or.inl ⟨by rfl, ?_⟩) hHeld ?_ ?_
  rotate_left
  · rintro w' ⟨s0, s1, s2, s3⟩
    go_simp
    with_reducible rfl
  rotate_left
  · simp only [Act.put, List.setIfInBounds_toArray, List.set_cons_zero, List.set_cons_succ, i64_w, i32_w]
    rfl
  refine pure_ (i := 6) (N := some 37) (v := ?_) (a' := ?_) #[true, true, true, false, true, true, true, false, false, true, false, false, false, false, false, true, false, false, false] rfl rfl (by kernel_rfl) (fun _ _ _ h => h) (Or.inl ⟨by rfl, ?_⟩) ?_ ?_
  rotate_left
  · intro w'
    go_simp
    with_reducible rfl
  rotate_left
  · simp only [Act.put, List.setIfInBounds_toArray, List.set_cons_zero, List.set_cons_succ, i64_w, i32_w]
    rfl
  refine take_ (i := 10) (N := some 41) (v := ?_) (a' := ?_) #[true, true, true, false, true, true, true, false, false, true, true, false, false, false, false, true, false, false, false] rfl rfl (by kernel_rfl) (fun _ _ _ h => h) (Or.inl ⟨by rfl, ?_⟩) hHeld ?_ ?_
  rotate_left
  · rintro w' ⟨s0, s1, s2, s3⟩
    go_simp
    with_reducible rfl
  rotate_left
  · simp only [Act.put, List.setIfInBounds_toArray, List.set_cons_zero, List.set_cons_succ, i64_w, i32_w]
    rfl
  refine pure_ (i := 11) (N := some 42) (v := ?_) (a' := ?_) #[true, true, true, false, true, true, true, false, false, true, true, true, false, false, false, true, false, false, false] rfl rfl (by kernel_rfl) (fun _ _ _ h => h) (Or.inl ⟨by rfl, ?_⟩) ?_ ?_
  rotate_left
  · intro w'
    go_simp
    with_reducible rfl
  rotate_left
  · simp only [Act.put, List.setIfInBounds_toArray, List.set_cons_zero, List.set_cons_succ, i64_w, i32_w]
    rfl
  refine take_ (i := 14) (N := some 45) (v := ?_) (a' := ?_) #[true, true, true, false, true, true, true, false, false, true, true, true, false, false, true, true, false, false, false] rfl rfl (by kernel_rfl) (fun _ _ _ h => h) (Or.inl ⟨by rfl, ?_⟩) hHeld ?_ ?_
  rotate_left
  · rintro w' ⟨s0, s1, s2, s3⟩
    refine run_row 23 (.tmp 6) ?_ bb ?_ 23 #[.int .i64 m.node, .int .i64 m.life, .int .i64 m.seq] (0, 0) _ s0 Try.underlying23 rfl (by kernel_rfl) <;> rfl
  rotate_left
  · simp only [Act.put, List.setIfInBounds_toArray, List.set_cons_zero, List.set_cons_succ, i64_w, i32_w]
    rfl
  refine take_ (i := 16) (N := some 47) (v := ?_) (a' := ?_) #[true, true, true, false, true, true, true, false, false, true, true, true, false, false, true, true, true, false, false] rfl rfl (by kernel_rfl) (fun _ _ _ h => h) (Or.inl ⟨by rfl, ?_⟩) hHeld ?_ ?_
  rotate_left
  · rintro w' ⟨s0, s1, s2, s3⟩
    (go_simp; exact ite3 (fun b => Result.ok (Next.value (Value.bool b)) w') (m.node = 0) (m.life = 0) (m.seq = 0))
  rotate_left
  · simp only [Act.put, List.setIfInBounds_toArray, List.set_cons_zero, List.set_cons_succ, i64_w, i32_w]
    rfl
  refine one_ (i := 3) (N := some 34) #[true, true, true, true, true, true, true, false, false, true, true, true, false, false, true, true, true, false, false] rfl rfl (by kernel_rfl) (by decide) (fun K hK => ?_)
  refine goes_ Try.func34 (by kernel_rfl) rfl #[.int .u64 (k1 : Int)] (by rfl) rfl rfl (by (try simp only [List.map_toArray, List.map_cons, List.map_nil]); first | done | rfl) ?_
  with_reducible refine (U1.out _).mono ?_
  rintro e wq1 ⟨rfl, hb⟩
  refine ⟨_, rfl, ?_⟩
  have HB := Lib.hid (HB.out.trans (hb.mono HB.out.size))
  refine hK.out _ _ ⟨blk_below hHeld.1 hb, (blk_cell (blk_below hHeld.1 hb) 0).trans rfl, (blk_cell (blk_below hHeld.1 hb) 1).trans rfl, (blk_cell (blk_below hHeld.1 hb) 2).trans rfl⟩ (fun hHeld => ?_)
  clear hK K
  refine norm_ (a' := ?_) ?_ ?_
  rotate_left
  · show Act.put _ (some 34) _ = _
    simp only [Act.put, List.setIfInBounds_toArray, List.set_cons_zero, List.set_cons_succ, i64_w, i32_w]
    rfl
  refine one_ (i := 7) (N := some 38) #[true, true, true, true, true, true, true, true, false, true, true, true, false, false, true, true, true, false, false] rfl rfl (by kernel_rfl) (by decide) (fun K hK => ?_)
  refine goes_ Try.func34 (by kernel_rfl) rfl #[.int .u64 (k2 : Int)] (by rfl) rfl rfl (by (try simp only [List.map_toArray, List.map_cons, List.map_nil]); first | done | rfl) ?_
  with_reducible refine (U2.out _).mono ?_
  rintro e wq2 ⟨rfl, hb⟩
  refine ⟨_, rfl, ?_⟩
  have HB := Lib.hid (HB.out.trans (hb.mono HB.out.size))
  refine hK.out _ _ ⟨blk_below hHeld.1 hb, (blk_cell (blk_below hHeld.1 hb) 0).trans rfl, (blk_cell (blk_below hHeld.1 hb) 1).trans rfl, (blk_cell (blk_below hHeld.1 hb) 2).trans rfl⟩ (fun hHeld => ?_)
  clear hK K
  refine norm_ (a' := ?_) ?_ ?_
  rotate_left
  · show Act.put _ (some 38) _ = _
    simp only [Act.put, List.setIfInBounds_toArray, List.set_cons_zero, List.set_cons_succ, i64_w, i32_w]
    rfl
  refine pure_ (i := 8) (N := some 39) (v := ?_) (a' := ?_) #[true, true, true, true, true, true, true, true, true, true, true, true, false, false, true, true, true, false, false] rfl rfl (by kernel_rfl) (fun _ _ _ h => h) (Or.inl ⟨by rfl, ?_⟩) ?_ ?_
  rotate_left
  · intro w'
    go_simp
    with_reducible rfl
  rotate_left
  · simp only [Act.put, List.setIfInBounds_toArray, List.set_cons_zero, List.set_cons_succ, i64_w, i32_w]
    rfl
  refine one_ (i := 12) (N := some 43) #[true, true, true, true, true, true, true, true, true, true, true, true, true, false, true, true, true, false, false] rfl rfl (by kernel_rfl) (by decide) (fun K hK => ?_)
  refine goes_ Try.func34 (by kernel_rfl) rfl #[.int .u64 (k3 : Int)] (by rfl) rfl rfl (by (try simp only [List.map_toArray, List.map_cons, List.map_nil]); first | done | rfl) ?_
  with_reducible refine (U3.out _).mono ?_
  rintro e wq3 ⟨rfl, hb⟩
  refine ⟨_, rfl, ?_⟩
  have HB := Lib.hid (HB.out.trans (hb.mono HB.out.size))
  refine hK.out _ _ ⟨blk_below hHeld.1 hb, (blk_cell (blk_below hHeld.1 hb) 0).trans rfl, (blk_cell (blk_below hHeld.1 hb) 1).trans rfl, (blk_cell (blk_below hHeld.1 hb) 2).trans rfl⟩ (fun hHeld => ?_)
  clear hK K
  refine norm_ (a' := ?_) ?_ ?_
  rotate_left
  · show Act.put _ (some 43) _ = _
    simp only [Act.put, List.setIfInBounds_toArray, List.set_cons_zero, List.set_cons_succ, i64_w, i32_w]
    rfl
  refine pure_ (i := 13) (N := some 44) (v := ?_) (a' := ?_) #[true, true, true, true, true, true, true, true, true, true, true, true, true, true, true, true, true, false, false] rfl rfl (by kernel_rfl) (fun _ _ _ h => h) (Or.inl ⟨by rfl, ?_⟩) ?_ ?_
  rotate_left
  · intro w'
    go_simp
    with_reducible rfl
  rotate_left
  · simp only [Act.put, List.setIfInBounds_toArray, List.set_cons_zero, List.set_cons_succ, i64_w, i32_w]
    rfl
  refine pure_ (i := 17) (N := some 4) (v := ?_) (a' := ?_) #[true, true, true, true, true, true, true, true, true, true, true, true, true, true, true, true, true, true, false] rfl rfl (by kernel_rfl) (fun _ _ _ h => h) (Or.inl ⟨by rfl, ?_⟩) ?_ ?_
  rotate_left
  · intro w'
    go_simp
    with_reducible rfl
  rotate_left
  · simp only [Act.put, List.setIfInBounds_toArray, List.set_cons_zero, List.set_cons_succ, i64_w, i32_w]
    rfl
  refine pure_ (i := 18) (N := some 5) (v := ?_) (a' := ?_) #[true, true, true, true, true, true, true, true, true, true, true, true, true, true, true, true, true, true, true] rfl rfl (by kernel_rfl) (fun _ _ _ h => h) (Or.inl ⟨by rfl, ?_⟩) ?_ ?_
  rotate_left
  · intro w'
    go_simp
    with_reducible rfl
  rotate_left
  · simp only [Act.put, List.setIfInBounds_toArray, List.set_cons_zero, List.set_cons_succ, i64_w, i32_w]
    rfl
  refine done_ (by kernel_rfl) ?_

  go_wp2
  go_ret2
  rw [bool3]
  exact ⟨rfl, HB.out⟩
set_option maxRecDepth 100000 in
set_option maxHeartbeats 4000000 in
theorem mfield_8 (f : m.Fit) : FieldOf m A n c w 8 := by
  unfold FieldOf
  have HB := Lib.hid ((Below.refl w.heap.size w).alloc (Nat.le_refl _) (.cells #[.int .i64 m.kind, .int .i64 m.frm, .int .i64 m.tow, .int .i64 m.node, .int .i64 m.life, .int .i64 m.seq, .int .u64 m.a, .int .u64 m.b, .string m.key, .bool m.found, .int .u64 m.time, .bool m.gone, .string m.value, .slice A n c, .string m.note, .int .u64 m.hint, .int .u64 m.must] 29))
  have U1 := Lib.hid (fun w => uint_any m.time w f.time)
  have U2 := Lib.hid (fun w => flag_any m.gone w)
  have e : fieldS m 8 = (uvS m.time ++ flagS m.gone ++ m.value, decide (¬ (m.time = 0 ∧ m.gone = false ∧ m.value.size = 0))) := rfl
  rw [e]
  obtain ⟨dd, hdd⟩ : ∃ dd, decide (¬ (m.time = 0 ∧ m.gone = false ∧ m.value.size = 0)) = dd := ⟨_, rfl⟩
  rw [hdd]
  have HDD := Lib.hid hdd
  have l1 := uvS_le f.time
  have l2 := flagS_size m.gone
  have l3 := f.value
  clear e f hdd
  unfold MsgS.arr
  generalize uvS m.time = t1 at *
  generalize flagS m.gone = t2 at *
  have b1 : (9223372036854775807 < t1.size + t2.size) = False := eq_false (by omega)
  have b2 : (9223372036854775807 < (t1 ++ t2).size + m.value.size) = False := eq_false (by rw [ByteArray.size_append]; omega)
  have b3 : (9223372036854775807 < t1.size + t2.size + m.value.size) = False := eq_false (by omega)
  clear l1 l2 l3
  have HP := Lib.hid (blk_new w (.cells #[.int .i64 m.kind, .int .i64 m.frm, .int .i64 m.tow, .int .i64 m.node, .int .i64 m.life, .int .i64 m.seq, .int .u64 m.a, .int .u64 m.b, .string m.key, .bool m.found, .int .u64 m.time, .bool m.gone, .string m.value, .slice A n c, .string m.note, .int .u64 m.hint, .int .u64 m.must] 29))
  go_enter Try.func35, Try.ntmps35
  go_wp2
  have hpp0 : w.heap.size = w.heap.size := rfl
  generalize w.alloc (.cells #[.int .i64 m.kind, .int .i64 m.frm, .int .i64 m.tow, .int .i64 m.node, .int .i64 m.life, .int .i64 m.seq, .int .u64 m.a, .int .u64 m.b, .string m.key, .bool m.found, .int .u64 m.time, .bool m.gone, .string m.value, .slice A n c, .string m.note, .int .u64 m.hint, .int .u64 m.must] 29) = w1 at *
  generalize hpp : w.heap.size = pp at HP ⊢
  clear hpp0
  refine start_ (n := 19) (S := fun w' => w'.cell? ⟨pp, 10, none⟩ = some (.int .u64 m.time) ∧ w'.cell? ⟨pp, 11, none⟩ = some (.bool m.gone) ∧ w'.cell? ⟨pp, 12, none⟩ = some (.string m.value)) (ds := []) #[false, false, false, false, false, false, false, false, false, false, false, false, false, false, false, false, false, false, false] (by kernel_rfl) rfl rfl ⟨(blk_cell (blk_drew HP.out) 10).trans rfl, (blk_cell (blk_drew HP.out) 11).trans rfl, (blk_cell (blk_drew HP.out) 12).trans rfl⟩ (fun hHeld => ?_)
  have HB := Lib.hid (below_drew HB.out)
  have HP := Lib.hid (blk_drew HP.out)
  refine pure_ (i := 0) (N := some 75) (v := ?_) (a' := ?_) #[true, false, false, false, false, false, false, false, false, false, false, false, false, false, false, false, false, false, false] rfl rfl (by kernel_rfl) (fun _ _ _ h => h) (Or.inl ⟨by rfl, ?_⟩) ?_ ?_
  rotate_left
  · intro w'
    go_simp
    with_reducible rfl
  rotate_left
  · simp only [Act.put, List.setIfInBounds_toArray, List.set_cons_zero, List.set_cons_succ, i64_w, i32_w]
    rfl
  refine pure_ (i := 1) (N := some 76) (v := ?_) (a' := ?_) #[true, true, false, false, false, false, false, false, false, false, false, false, false, false, false, false, false, false, false] rfl rfl (by kernel_rfl) (fun _ _ _ h => h) (Or.inl ⟨by rfl, ?_⟩) ?_ ?_
  rotate_left
  · intro w'
    go_simp
    with_reducible rfl
  rotate_left
  · simp only [Act.put, List.setIfInBounds_toArray, List.set_cons_zero, List.set_cons_succ, i64_w, i32_w]
    rfl
  refine pure_ (i := 4) (N := some 79) (v := ?_) (a' := ?_) #[true, true, false, false, true, false, false, false, false, false, false, false, false, false, false, false, false, false, false] rfl rfl (by kernel_rfl) (fun _ _ _ h => h) (Or.inl ⟨by rfl, ?_⟩) ?_ ?_
  rotate_left
  · intro w'
    go_simp
    with_reducible rfl
  rotate_left
  · simp only [Act.put, List.setIfInBounds_toArray, List.set_cons_zero, List.set_cons_succ, i64_w, i32_w]
    rfl
  refine pure_ (i := 5) (N := some 80) (v := ?_) (a' := ?_) #[true, true, false, false, true, true, false, false, false, false, false, false, false, false, false, false, false, false, false] rfl rfl (by kernel_rfl) (fun _ _ _ h => h) (Or.inl ⟨by rfl, ?_⟩) ?_ ?_
  rotate_left
  · intro w'
    go_simp
    with_reducible rfl
  rotate_left
  · simp only [Act.put, List.setIfInBounds_toArray, List.set_cons_zero, List.set_cons_succ, i64_w, i32_w]
    rfl
  refine pure_ (i := 9) (N := some 84) (v := ?_) (a' := ?_) #[true, true, false, false, true, true, false, false, false, true, false, false, false, false, false, false, false, false, false] rfl rfl (by kernel_rfl) (fun _ _ _ h => h) (Or.inl ⟨by rfl, ?_⟩) ?_ ?_
  rotate_left
  · intro w'
    go_simp
    with_reducible rfl
  rotate_left
  · simp only [Act.put, List.setIfInBounds_toArray, List.set_cons_zero, List.set_cons_succ, i64_w, i32_w]
    rfl
  refine pure_ (i := 10) (N := some 85) (v := ?_) (a' := ?_) #[true, true, false, false, true, true, false, false, false, true, true, false, false, false, false, false, false, false, false] rfl rfl (by kernel_rfl) (fun _ _ _ h => h) (Or.inl ⟨by rfl, ?_⟩) ?_ ?_
  rotate_left
  · intro w'
    go_simp
    with_reducible rfl
  rotate_left
  · simp only [Act.put, List.setIfInBounds_toArray, List.set_cons_zero, List.set_cons_succ, i64_w, i32_w]
    rfl
  refine pure_ (i := 13) (N := some 88) (v := ?_) (a' := ?_) #[true, true, false, false, true, true, false, false, false, true, true, false, false, true, false, false, false, false, false] rfl rfl (by kernel_rfl) (fun _ _ _ h => h) (Or.inl ⟨by rfl, ?_⟩) ?_ ?_
  rotate_left
  · intro w'
    go_simp
    with_reducible rfl
  rotate_left
  · simp only [Act.put, List.setIfInBounds_toArray, List.set_cons_zero, List.set_cons_succ, i64_w, i32_w]
    rfl
  refine pure_ (i := 15) (N := some 90) (v := ?_) (a' := ?_) #[true, true, false, false, true, true, false, false, false, true, true, false, false, true, false, true, false, false, false] rfl rfl (by kernel_rfl) (fun _ _ _ h => h) (Or.inl ⟨by rfl, ?_⟩) ?_ ?_
  rotate_left
  · intro w'
    go_simp
    with_reducible rfl
  rotate_left
  · simp only [Act.put, List.setIfInBounds_toArray, List.set_cons_zero, List.set_cons_succ, i64_w, i32_w]
    rfl
  refine take_ (i := 2) (N := some 77) (v := ?_) (a' := ?_) #[true, true, true, false, true, true, false, false, false, true, true, false, false, true, false, true, false, false, false] rfl rfl (by kernel_rfl) (fun _ _ _ h => h) (Or.inl ⟨by rfl, ?_⟩) hHeld ?_ ?_
  rotate_left
  · rintro w' ⟨s0, s1, s2⟩
    go_simp
    with_reducible rfl
  rotate_left
  · simp only [Act.put, List.setIfInBounds_toArray, List.set_cons_zero, List.set_cons_succ, i64_w, i32_w]
    rfl
  refine take_ (i := 6) (N := some 81) (v := ?_) (a' := ?_) #[true, true, true, false, true, true, true, false, false, true, true, false, false, true, false, true, false, false, false] rfl rfl (by kernel_rfl) (fun _ _ _ h => h) (Or.inl ⟨by rfl, ?_⟩) hHeld ?_ ?_
  rotate_left
  · rintro w' ⟨s0, s1, s2⟩
    go_simp
    with_reducible rfl
  rotate_left
  · simp only [Act.put, List.setIfInBounds_toArray, List.set_cons_zero, List.set_cons_succ, i64_w, i32_w]
    rfl
  refine take_ (i := 11) (N := some 86) (v := ?_) (a' := ?_) #[true, true, true, false, true, true, true, false, false, true, true, true, false, true, false, true, false, false, false] rfl rfl (by kernel_rfl) (fun _ _ _ h => h) (Or.inl ⟨by rfl, ?_⟩) hHeld ?_ ?_
  rotate_left
  · rintro w' ⟨s0, s1, s2⟩
    go_simp
    with_reducible rfl
  rotate_left
  · simp only [Act.put, List.setIfInBounds_toArray, List.set_cons_zero, List.set_cons_succ, i64_w, i32_w]
    rfl
  refine take_ (i := 14) (N := some 89) (v := ?_) (a' := ?_) #[true, true, true, false, true, true, true, false, false, true, true, true, false, true, true, true, false, false, false] rfl rfl (by kernel_rfl) (fun _ _ _ h => h) (Or.inl ⟨by rfl, ?_⟩) hHeld ?_ ?_
  rotate_left
  · rintro w' ⟨s0, s1, s2⟩
    refine run_midrow 26 (.tmp 88) ?_ pp 10 ?_ [.int .u64 m.time, .bool m.gone, .string m.value] _ (rng3 s0 s1 s2) Try.underlying26 rfl (by kernel_rfl) <;> rfl
  rotate_left
  · simp only [Act.put, List.setIfInBounds_toArray, List.set_cons_zero, List.set_cons_succ, i64_w, i32_w]
    rfl
  refine take_ (i := 16) (N := some 91) (v := ?_) (a' := ?_) #[true, true, true, false, true, true, true, false, false, true, true, true, false, true, true, true, true, false, false] rfl rfl (by kernel_rfl) (fun _ _ _ h => h) (Or.inl ⟨by rfl, ?_⟩) hHeld ?_ ?_
  rotate_left
  · rintro w' ⟨s0, s1, s2⟩
    (go_simp; exact (ite3v (fun b => Result.ok (Next.value (Value.bool b)) w') m.time m.gone m.value).trans (by rw [HDD.out]))
  rotate_left
  · simp only [Act.put, List.setIfInBounds_toArray, List.set_cons_zero, List.set_cons_succ, i64_w, i32_w]
    rfl
  refine one_ (i := 3) (N := some 78) #[true, true, true, true, true, true, true, false, false, true, true, true, false, true, true, true, true, false, false] rfl rfl (by kernel_rfl) (by decide) (fun K hK => ?_)
  refine goes_ Try.func34 (by kernel_rfl) rfl #[.int .u64 (m.time : Int)] (by rfl) rfl rfl (by (try simp only [List.map_toArray, List.map_cons, List.map_nil]); first | done | rfl) ?_
  with_reducible refine (U1.out _).mono ?_
  rintro e wq1 ⟨rfl, hb⟩
  refine ⟨_, rfl, ?_⟩
  have HB := Lib.hid (HB.out.trans (hb.mono HB.out.size))
  have HP := Lib.hid (blk_below HP.out hb)
  refine hK.out _ _ ⟨(blk_cell HP.out 10).trans rfl, (blk_cell HP.out 11).trans rfl, (blk_cell HP.out 12).trans rfl⟩ (fun hHeld => ?_)
  clear hK K
  refine norm_ (a' := ?_) ?_ ?_
  rotate_left
  · show Act.put _ (some 78) _ = _
    simp only [Act.put, List.setIfInBounds_toArray, List.set_cons_zero, List.set_cons_succ, i64_w, i32_w]
    rfl
  refine one_ (i := 7) (N := some 82) #[true, true, true, true, true, true, true, true, false, true, true, true, false, true, true, true, true, false, false] rfl rfl (by kernel_rfl) (by decide) (fun K hK => ?_)
  refine goes_ Try.func43 (by kernel_rfl) rfl #[.bool m.gone] (by rfl) rfl rfl (by (try simp only [List.map_toArray, List.map_cons, List.map_nil]); first | done | rfl) ?_
  with_reducible refine (U2.out _).mono ?_
  rintro e wq2 ⟨rfl, rfl⟩
  refine ⟨_, rfl, ?_⟩
  refine hK.out _ _ ⟨hHeld.1, hHeld.2.1, hHeld.2.2⟩ (fun hHeld => ?_)
  clear hK K
  refine norm_ (a' := ?_) ?_ ?_
  rotate_left
  · show Act.put _ (some 82) _ = _
    simp only [Act.put, List.setIfInBounds_toArray, List.set_cons_zero, List.set_cons_succ, i64_w, i32_w]
    rfl
  refine pure_ (i := 8) (N := some 83) (v := ?_) (a' := ?_) #[true, true, true, true, true, true, true, true, true, true, true, true, false, true, true, true, true, false, false] rfl rfl (by kernel_rfl) (fun _ _ _ h => h) (Or.inl ⟨by rfl, ?_⟩) ?_ ?_
  rotate_left
  · intro w'
    go_simp
    with_reducible rfl
  rotate_left
  · simp only [Act.put, List.setIfInBounds_toArray, List.set_cons_zero, List.set_cons_succ, i64_w, i32_w]
    rfl
  refine pure_ (i := 12) (N := some 87) (v := ?_) (a' := ?_) #[true, true, true, true, true, true, true, true, true, true, true, true, true, true, true, true, true, false, false] rfl rfl (by kernel_rfl) (fun _ _ _ h => h) (Or.inl ⟨by rfl, ?_⟩) ?_ ?_
  rotate_left
  · intro w'
    go_simp
    with_reducible rfl
  rotate_left
  · simp only [Act.put, List.setIfInBounds_toArray, List.set_cons_zero, List.set_cons_succ, i64_w, i32_w]
    rfl
  refine pure_ (i := 17) (N := some 4) (v := ?_) (a' := ?_) #[true, true, true, true, true, true, true, true, true, true, true, true, true, true, true, true, true, true, false] rfl rfl (by kernel_rfl) (fun _ _ _ h => h) (Or.inl ⟨by rfl, ?_⟩) ?_ ?_
  rotate_left
  · intro w'
    go_simp
    with_reducible rfl
  rotate_left
  · simp only [Act.put, List.setIfInBounds_toArray, List.set_cons_zero, List.set_cons_succ, i64_w, i32_w]
    rfl
  refine pure_ (i := 18) (N := some 5) (v := ?_) (a' := ?_) #[true, true, true, true, true, true, true, true, true, true, true, true, true, true, true, true, true, true, true] rfl rfl (by kernel_rfl) (fun _ _ _ h => h) (Or.inl ⟨by rfl, ?_⟩) ?_ ?_
  rotate_left
  · intro w'
    go_simp
    with_reducible rfl
  rotate_left
  · simp only [Act.put, List.setIfInBounds_toArray, List.set_cons_zero, List.set_cons_succ, i64_w, i32_w]
    rfl
  refine done_ (by kernel_rfl) ?_

  go_wp2
  go_ret2
  exact ⟨rfl, hpp ▸ HB.out⟩
end
end Go.Proofs.Ytemhmgpihkemjaa.My
