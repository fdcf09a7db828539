/- log.Stands. -/
import Derived.Test.YtoandabafkdgjaaLog2
import Derived.Test.YtoandabafkdgjaaStrE
import Derived.Test.YtoandabafkdgjaaByt
namespace Go.Proofs.Ytoandabafkdgjaa.My
set_option linter.unusedSimpArgs false
set_option linter.unusedVariables false
open Go.RowKit Go.Proofs.YtoandabafkdgjaaW.PrintWords Go.Proofs.YtoandabafkdgjaaW.PrintLast Go.Proofs.Ytoandabafkdgjaa.Pm

/-- What stands from a place on, with so many tries. -/
def standF (b : ByteArray) : Nat → Nat → List ByteArray × Nat
  | 0, p => ([], p)
  | k + 1, p => if oneB (b.extract p b.size) = true then (oneS (b.extract p b.size) :: (standF b k (p + 6 + (oneS (b.extract p b.size)).size)).1, (standF b k (p + 6 + (oneS (b.extract p b.size)).size)).2) else ([], p)
def standS (b : ByteArray) : List ByteArray × Nat := standF b (b.size + 1) 0
theorem oneS_size {c : ByteArray} (h : oneB c = true) : (oneS c).size = val2 c ∧ 1 ≤ val2 c ∧ 6 + val2 c ≤ c.size := by
  have h' := h
  unfold oneB at h'
  simp only [Bool.and_eq_true, decide_eq_true_eq] at h'
  unfold oneS
  rw [if_pos h, ByteArray.size_extract]
  omega
theorem oneS_none {c : ByteArray} (h : oneB c = false) : oneS c = ⟨#[]⟩ := by unfold oneS; rw [h]; rfl
theorem info_strL : (Try.prog.info? 9).map (fun i => (i.zero, i.size, i.bytes)) = some (some (.string ⟨#[]⟩), 1, 16) := by kernel_rfl
abbrev Sls (w : World) (base : Nat) (v : Value) (l : List ByteArray) : Prop := Kd.string.R 9 w base (fun _ => True) v l
theorem sl_slice {w : World} {base : Nat} {v : Value} {l : List ByteArray} (h : Sls w base v l) : ∃ A m c, v = .slice A m c := by
  obtain ⟨A, c, e⟩ := Kd.R_slice h
  exact ⟨A, _, c, e⟩
theorem app_s {ops : Array Oper} {rest : List Oper} {o : Oper} {a : Act} {Q : Exit → Act → World → Prop} {w0 W : World} (base : Nat) (hgd : o.guard = none) (s x : Operand) (v : Value) (xs : List ByteArray) (p : ByteArray)
    (ho : o.op = .call { callee := .builtin .append, args := #[s, x], argTypes := #[45, 45] }) (hs : a.eval s = v) (hx : a.eval x = .slice (some ⟨W.heap.size, 0, none⟩) 1 1)
    (HO : Sls W base v xs) (HB : Below base w0 W) (hbase : base ≤ W.heap.size) (hl : (xs.length + 1) * 16 ≤ 140737488355328)
    (h : ∀ v1 w1, Hid (Sls w1 base v1 (xs ++ [p])) → Hid (Below base w0 w1) → Hid (W.grownBy w1 v.ownBlock) → wpList Try.prog ops Q rest (a.put o.dst v1) w1) :
    wpList Try.prog ops Q (o :: rest) a (W.alloc (.cells #[.string p] 9)) :=
  Kd.R_append Kd.string base hgd s x 45 9 (.string ⟨#[]⟩) 16 ho Try.underlying45 info_strL rfl (by decide) (by omega) v xs p [.string p] (fun _ => True) (fun _ => False) hs hx rfl (fun _ hk => hk.elim) (fun _ _ => trivial) HO HB hbase hl
    (fun v1 w1 h1 h2 h3 _ => h v1 w1 h1 h2 h3)
set_option maxRecDepth 100000 in
set_option maxHeartbeats 8000000 in
theorem stands_any (b : ByteArray) (w : World) (hb : b.size ≤ 1000000) :
    Calls Try.prog 32 #[.agg tab, .string b] w fun e w' => (∃ v, e = .returned (.tuple #[v, .int .i64 ((standS b).2 : Nat)]) ∧ Sls w' w.heap.size v (standS b).1) ∧ (standS b).2 ≤ b.size ∧ Below w.heap.size w w' := by
  have hi1 : (Try.prog.info? 53).map (·.size) = some tab.size := by unfold tab; rw [tabTo_size]; kernel_rfl
  have HI := Lib.hid hi1; clear hi1
  have ON := Lib.hid (fun (c : ByteArray) (h : c.size ≤ 1000000) (w : World) => one_any c w h)
  have K0 := Lib.hid (blk_new w (.cells tab 53 (0, 0)))
  have HB := Lib.hid (below_alloc (Below.refl w.heap.size w) (.cells tab 53))
  have HS := Lib.hid (show standS b = standF b (b.size + 1) 0 from rfl)
  generalize tab = T at *
  generalize standS b = R at *
  obtain ⟨RL, RE⟩ := R
  simp only
  obtain ⟨pp, hpp⟩ : ∃ pp, w.heap.size = pp := ⟨_, rfl⟩
  have hppl : w.heap.size ≤ pp := Nat.le_of_eq hpp
  go_enter Try.func32, Try.ntmps32
  go_wp2
  rw [hpp] at K0
  have HL0 := Lib.hid (Kd.R_nil Kd.string 9 (w.alloc (.cells T 53 (0, 0))) w.heap.size (fun _ => True))
  generalize w.alloc (.cells T 53 (0, 0)) = w0 at *
  go_loopw [7, 6] (fun v7 v6 wr => ∃ (p k : Nat) (l : List ByteArray), v7 = .int .i64 p ∧ p ≤ b.size ∧ b.size - p < k ∧ l.length ≤ p ∧ Hid ((RL, RE) = (l ++ (standF b k p).1, (standF b k p).2)) ∧ Hid (Sls wr w.heap.size v6 l) ∧ Hid (wr.heap[pp]? = some (.cells T 53 (0, 0))) ∧ Hid (Below w.heap.size w wr)) (fun v7 _ _ => b.size - (intOf v7).toNat)
  case atStart => exact ⟨0, b.size + 1, [], rfl, Nat.zero_le _, by omega, Nat.le_refl _, Lib.hid (by rw [HS.out]; rfl), HL0, K0, HB⟩
  case round =>
    clear HL0 K0 HB HS
    obtain ⟨p, k, l, rfl, hp, hk, hll, HR, HL, K0, HB⟩ := hrel
    obtain ⟨k, rfl⟩ : ∃ j, k = j + 1 := ⟨k - 1, by omega⟩
    obtain ⟨A, m, c, rfl⟩ := sl_slice HL.out
    have hc : (b.extract p b.size).size = b.size - p := by rw [ByteArray.size_extract]; omega
    have O1 := Lib.hid (fun w => ON.out (b.extract p b.size) (by omega) w)
    have HF := Lib.hid (show standF b (k + 1) p = if oneB (b.extract p b.size) = true then (oneS (b.extract p b.size) :: (standF b k (p + 6 + (oneS (b.extract p b.size)).size)).1, (standF b k (p + 6 + (oneS (b.extract p b.size)).size)).2) else ([], p) from rfl)
    have HZ := Lib.hid (fun h => oneS_size (c := b.extract p b.size) h)
    have HZ0 := Lib.hid (fun h => oneS_none (c := b.extract p b.size) h)
    have hpi : (p : Int) ≤ (b.size : Int) := by omega
    generalize hcc : b.extract p b.size = cc at *
    have HCC := Lib.hid hcc
    have hbx : b.extract p b.size = cc := hcc
    clear hcc
    go_wp2
    refine start_ (n := 6) (S := fun w' => w'.heap[pp]? = some (.cells T 53 (0, 0))) (ds := []) #[false, false, false, false, false, false] (by kernel_rfl) rfl rfl (blk_drew K0.out) (fun hHeld => ?_)
    have HB := Lib.hid (below_drew HB.out)
    have HL := Lib.hid (Kd.R_below HL.out (below_drew (Below.refl _ _)))
    have K0 := Lib.hid (blk_drew K0.out)
    refine pure_ (i := 1) (N := some 10) (v := ?_) (a' := ?_) #[false, true, false, false, false, false] rfl rfl (by kernel_rfl) (fun _ _ _ h => h) (Or.inl ⟨by rfl, ?_⟩) ?_ ?_
    rotate_left
    · intro w'
      go_simp
      with_reducible rfl
    rotate_left
    · simp only [Act.put, List.setIfInBounds_toArray, List.set_cons_zero, List.set_cons_succ, i64_w, i32_w]
      rfl
    refine pure_ (i := 2) (N := some 11) (v := ?_) (a' := ?_) #[false, true, true, false, false, false] rfl rfl (by kernel_rfl) (fun _ _ _ h => h) (Or.inl ⟨by rfl, ?_⟩) ?_ ?_
    rotate_left
    · intro w'
      go_simp
      with_reducible rfl
    rotate_left
    · simp only [Act.put, List.setIfInBounds_toArray, List.set_cons_zero, List.set_cons_succ, i64_w, i32_w]
      rfl
    refine pure_ (i := 3) (N := some 12) (v := ?_) (a' := ?_) #[false, true, true, true, false, false] rfl rfl (by kernel_rfl) (fun _ _ _ h => h) (Or.inl ⟨by rfl, ?_⟩) ?_ ?_
    rotate_left
    · intro w'
      go_simp
      with_reducible rfl
    rotate_left
    · simp only [Act.put, List.setIfInBounds_toArray, List.set_cons_zero, List.set_cons_succ, i64_w, i32_w]
      rfl
    refine take_ (i := 0) (N := some 9) (v := ?_) (a' := ?_) #[true, true, true, true, false, false] rfl rfl (by kernel_rfl) (fun _ _ _ h => h) (Or.inl ⟨by rfl, ?_⟩) hHeld ?_ ?_
    rotate_left
    · intro w' s0
      refine run_row 53 (.tmp 2) ?_ pp ?_ 53 T (0, 0) _ s0 Try.underlying53 rfl HI.out <;> rfl
    rotate_left
    · simp only [Act.put, List.setIfInBounds_toArray, List.set_cons_zero, List.set_cons_succ, i64_w, i32_w]
      rfl
    refine one_ (i := 4) (N := some 13) #[true, true, true, true, true, false] rfl rfl (by kernel_rfl) (by decide) (fun K hK => ?_)
    refine goes_ Try.func43 (by kernel_rfl) rfl #[.agg T, .string cc] (by rfl) rfl rfl (by (try simp only [List.map_toArray, List.map_cons, List.map_nil]); first | done | rfl) ?_
    with_reducible refine (O1.out _).mono ?_
    rintro e w5 ⟨rfl, hb⟩
    refine ⟨_, rfl, ?_⟩
    have HB := Lib.hid (HB.out.trans (hb.mono HB.out.size))
    have HL := Lib.hid (Kd.R_below HL.out hb)
    have K0 := Lib.hid (blk_below K0.out hb)
    refine hK.out _ _ (blk_below hHeld hb) (fun hHeld => ?_)
    clear hK K
    refine norm_ (a' := ?_) ?_ ?_
    rotate_left
    · show Act.put _ (some 13) _ = _
      simp only [Act.put, List.setIfInBounds_toArray, List.set_cons_zero, List.set_cons_succ, i64_w, i32_w]
      rfl
    refine pure_ (i := 5) (N := some 8) (v := ?_) (a' := ?_) #[true, true, true, true, true, true] rfl rfl (by kernel_rfl) (fun _ _ _ h => h) (Or.inl ⟨by rfl, ?_⟩) ?_ ?_
    rotate_left
    · intro w'
      go_simp
      with_reducible rfl
    rotate_left
    · simp only [Act.put, List.setIfInBounds_toArray, List.set_cons_zero, List.set_cons_succ, i64_w, i32_w]
      rfl
    refine done_ (by kernel_rfl) ?_

    clear hHeld hbx
    cases ho : oneB cc with
    | false =>
      have hr := HF.out
      rw [ho] at hr
      have HR2 := Lib.hid (show (RL, RE) = (l, p) by rw [HR.out, hr]; simp)
      have HE := Lib.hid (HZ0.out ho)
      have e0 : (oneS cc).toList.isEmpty = true := by rw [str_e, HE.out]; rfl
      have e1 : (oneS cc).toList = [] := by rw [str_nil, HE.out]; rfl
      generalize oneS cc = rr at *
      clear hr ho
      go_wp2
      go_ret2
      have h2 := HR2.out
      injection h2 with h3 h4
      subst h3 h4
      exact ⟨⟨_, rfl, HL.out⟩, hp, HB.out⟩
    | true =>
      have hr := HF.out
      rw [ho, if_pos rfl] at hr
      obtain ⟨z1, z2, z3⟩ := HZ.out ho
      have e0 : (oneS cc).toList.isEmpty = false := by rw [str_e]; exact decide_eq_false (by omega)
      have e1 : ¬ (oneS cc).toList = [] := by rw [str_nil]; omega
      have HR2 := Lib.hid (show (RL, RE) = ((l ++ [oneS cc]) ++ (standF b k (p + 6 + (oneS cc).size)).1, (standF b k (p + 6 + (oneS cc).size)).2) by rw [HR.out, hr]; simp)
      have hz : 1 ≤ (oneS cc).size ∧ p + 6 + (oneS cc).size ≤ b.size := by omega
      clear hr ho z1 z2 z3 HF HZ HZ0 HR
      generalize oneS cc = rr at *
      have hl16 : (l.length + 1) * 16 ≤ 140737488355328 := by omega
      have q1 : wrap64 (6 + (rr.size : Int)) = 6 + (rr.size : Int) := wrap64_id (by omega) (by omega)
      have Q1 := Lib.hid q1; clear q1
      have q2 : wrap64 ((p : Int) + (6 + (rr.size : Int))) = ((p + 6 + rr.size : Nat) : Int) := (wrap64_id (by omega) (by omega)).trans (by omega)
      have q1 := Q1.out
      go_wp2_with (at_builtin; refine app_s (w0 := w) w.heap.size rfl (.tmp 18) (.tmp 20) _ l rr rfl rfl rfl HL.out HB.out HB.out.size hl16 ?_; intro v1 w6 HL1 HB1 HG1; have K1 := Lib.hid (blk_grown K0.out HG1.out (Kd.R_ne HL.out K0.out (by decide))); obtain ⟨A1, m1, c1, rfl⟩ := sl_slice HL1.out)
      go_roundw
      case rel => exact ⟨p + 6 + rr.size, k, l ++ [rr], by go_num, hz.2, by clear q1 q2; omega, by rw [List.length_append, List.length_singleton]; clear q1 q2; omega, HR2, HL1, K1, HB1⟩
      case measure => first | (rw [q1, q2]; simp only [intOf]; clear q1 q2; omega) | (rw [q2]; simp only [intOf]; clear q1 q2; omega) | (simp only [intOf]; clear q1 q2; omega)
end Go.Proofs.Ytoandabafkdgjaa.My
