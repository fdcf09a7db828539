/- isoglossref07.Disk: Do's Write. -/
import Derived.Test.YtoandabafkdgjaaRDisk4
namespace Go.Proofs.Ytoandabafkdgjaa.My
set_option linter.unusedSimpArgs false
set_option linter.unusedVariables false
open Go.RowKit Go.Proofs.YtoandabafkdgjaaW.PrintWords Go.Proofs.YtoandabafkdgjaaW.PrintLast Go.Proofs.Ytoandabafkdgjaa.Pm

theorem app_at_step {o : Oper} {ops : Array Oper} {a : Act} {Kc : Act → World → Prop} {Q : Exit → Act → World → Prop} {w0 W : World} (base : Nat) (hw : Region.wanted o (yielded ops a.tmps) = true) (s x : Operand) (v : Value) (xs : List Int) (p : Int)
    (ho : o.op = .call { callee := .builtin .append, args := #[s, x], argTypes := #[44, 44] }) (hs : a.eval s = v) (hx : a.eval x = .slice (some ⟨W.heap.size, 0, none⟩) 1 1)
    (HO : Ats W base v xs) (HB : Below base w0 W) (hbase : base ≤ W.heap.size) (hl : (xs.length + 1) * 8 ≤ 140737488355328)
    (h : ∀ v1 w1, Hid (Ats w1 base v1 (xs ++ [p])) → Hid (Below base w0 w1) → Hid (W.grownBy w1 v.ownBlock) → Kc (a.put o.dst v1) w1) :
    if Region.wanted o (yielded ops a.tmps) = true then Oper.wp Try.prog o a (W.alloc (.cells #[.int .i64 p] 3)) Kc Q else Kc (a.put o.dst undef) (W.alloc (.cells #[.int .i64 p] 3)) := by
  refine Kd.R_append_step (Kd.int .i64) (w0 := w0) base hw s x 44 3 (.int .i64 0) 8 ho Try.underlying44 info_int' rfl (by decide) (by omega) v xs p [.int .i64 p] (fun _ => True) (fun _ => False) hs hx rfl (fun _ hk => hk.elim) (fun _ _ => trivial) HO HB hbase hl ?_
  intro v1 w1 h1 h2 h3 _
  exact h v1 w1 h1 h2 h3
theorem app_b_step {o : Oper} {ops : Array Oper} {a : Act} {Kc : Act → World → Prop} {Q : Exit → Act → World → Prop} {w0 W : World} (base : Nat) (hw : Region.wanted o (yielded ops a.tmps) = true) (s x : Operand) (v : Value) (xs : List ByteArray) (p : ByteArray)
    (ho : o.op = .call { callee := .builtin .append, args := #[s, x], argTypes := #[45, 45] }) (hs : a.eval s = v) (hx : a.eval x = .slice (some ⟨W.heap.size, 0, none⟩) 1 1)
    (HO : Srs W base v xs) (HB : Below base w0 W) (hbase : base ≤ W.heap.size) (hl : (xs.length + 1) * 16 ≤ 140737488355328)
    (h : ∀ v1 w1, Hid (Srs w1 base v1 (xs ++ [p])) → Hid (Below base w0 w1) → Hid (W.grownBy w1 v.ownBlock) → Hid (v1.ownBlock = v.ownBlock ∨ ∃ b, v1.ownBlock = some b ∧ W.heap.size ≤ b) → Kc (a.put o.dst v1) w1) :
    if Region.wanted o (yielded ops a.tmps) = true then Oper.wp Try.prog o a (W.alloc (.cells #[.string p] 9)) Kc Q else Kc (a.put o.dst undef) (W.alloc (.cells #[.string p] 9)) := by
  refine Kd.R_append_step Kd.string (w0 := w0) base hw s x 45 9 (.string ⟨#[]⟩) 16 ho Try.underlying45 info_str' rfl (by decide) (by omega) v xs p [.string p] (fun _ => True) (fun _ => False) hs hx rfl (fun _ hk => hk.elim) (fun _ _ => trivial) HO HB hbase hl ?_
  intro v1 w1 h1 h2 h3 h4
  exact h v1 w1 h1 h2 h3 h4
theorem intNat {i : Int} (h : 0 ≤ i) : ((i.toNat : Nat) : Int) = i := by omega
section
variable {w : World} {base h : Nat} {V1 V2 A B : Value} {o1 o2 : List UInt8} {l : List (Nat × ByteArray)} {left : Int}
theorem RDk.mid_drew {v1 : Value} {la : List Int} {lb : List ByteArray} (x : IsRD w h V1 V2 v1 B left ∧ Byt w base V1 o1 ∧ Byt w base V2 o2 ∧ Ats w base v1 la ∧ Srs w base B lb) : IsRD w.drew h V1 V2 v1 B left ∧ Byt w.drew base V1 o1 ∧ Byt w.drew base V2 o2 ∧ Ats w.drew base v1 la ∧ Srs w.drew base B lb :=
  ⟨blk_drew x.1, x.2.1.below (below_drew (Below.refl _ _)), x.2.2.1.below (below_drew (Below.refl _ _)), Kd.R_below x.2.2.2.1 (below_drew (Below.refl _ _)), Kd.R_below x.2.2.2.2 (below_drew (Below.refl _ _))⟩
set_option maxRecDepth 100000 in
set_option maxHeartbeats 8000000 in
theorem rd_write (k : RDk w base h V1 V2 A B o1 o2 l left) {N : Nat} (ho : o2.length = 64 * N) (hn4 : N ≤ 4096) (hleft : left ≠ 0) (kd : Nat) (hk : kd % 5 = 0) (i : Int) (hi0 : 0 ≤ i) (hi : i < (N : Int)) (n : Int) (b : ByteArray) (hb : b.size = 64) (AF : Option Addr) (m c : Nat) (hl : l.length ≤ 1000000) (hbw : base ≤ w.heap.size) (hlb : left ≤ 9223372036854775807) :
    Calls Try.prog 18 #[.pointer (some ⟨h, 0, none⟩), opV kd i n b AF m c] w fun e w' => e = .returned (.tuple #[.string ⟨#[]⟩, .int .i64 0]) ∧ (∃ A' B', RDk w' base h V1 V2 A' B' o1 (splice o2 (64 * i.toNat) b.data.toList) (l ++ [(i.toNat, b)]) (if 0 < left then left - 1 else left) ∧ (B'.ownBlock = B.ownBlock ∨ ∃ b, B'.ownBlock = some b ∧ w.heap.size ≤ b)) ∧ Below base w w' ∧ Keeps (OwnR h V1 V2 A B) w w' := by
  have HB := Lib.hid ((Below.refl base w).alloc hbw (.cells #[.int .u8 kd, .int .i64 i, .int .i64 n, .string b, .slice AF m c] 40))
  have KP := Lib.hid ((Keeps.refl (OwnR h V1 V2 A B) w).alloc (.cells #[.int .u8 kd, .int .i64 i, .int .i64 n, .string b, .slice AF m c] 40))
  obtain ⟨A2, m2, c2, rfl, hm2, hqq⟩ := rd_facts k ho hn4
  have QQ := Lib.hid hqq; clear hqq
  have HK := Lib.hid (k.alloc (.cells #[.int .u8 kd, .int .i64 i, .int .i64 n, .string b, .slice AF m c] 40))
  have c1 := HK.out.dk.c1
  have c4 := HK.out.dk.c4
  have HP := Lib.hid (blk_new w (.cells #[.int .u8 kd, .int .i64 i, .int .i64 n, .string b, .slice AF m c] 40))
  have p0 := (blk_cell HP.out 0).trans rfl
  have p1 := (blk_cell HP.out 1).trans rfl
  have p3 := (blk_cell HP.out 3).trans rfl
  have y4 : (left == 0) = false := by simpa using hleft
  have hri : (kd : Int) % 5 = 0 := by omega
  have x2 : decide (i < 0) = false := by simp; omega
  have x3 : decide ((N : Int) ≤ i) = false := by simp; omega
  have x5 : ((b.size : Int) != 64) = false := by rw [hb]; rfl
  have x6 : ((b.size : Int) == 64) = true := by rw [hb]; rfl
  obtain ⟨g, c', e, -, hgl, -⟩ := HK.out.s2.form (by rw [ho]; omega)
  clear hgl
  have hA : A2 = some ⟨g, 0, none⟩ := by cases e; rfl
  subst hA
  clear e
  have hcap := HK.out.s2.cap
  have hmo : m2 = o2.length := by rw [ho]; exact hm2
  obtain ⟨q, hq⟩ : ∃ q, 64 * i.toNat = q := ⟨_, rfl⟩
  have hqi : 64 * i = (q : Int) := by omega
  have hq1 : q + 64 ≤ m2 := by omega
  have hqb : q ≤ 1000000 := by omega
  have hq2 : ¬ c2 = q := by omega
  have hq4 : q ≤ m2 := by omega
  have hq5 : (q : Int) ≤ (m2 : Int) := by omega
  have hin := intNat hi0
  have z1 : wrap64 (64 * i) = (q : Int) := by rw [hqi]; exact w64a hqb
  have HN := Lib.hid (And.intro hb (And.intro hq1 (And.intro hmo (And.intro hl (And.intro hin hbw)))))
  have ZZ := Lib.hid (And.intro z1 (And.intro hq2 (And.intro hq4 hq5)))
  rw [hq]
  clear k ho hm2 z1 hq2 hq4 hq5 hqb hq1 hcap hq hqi hb hmo hl hin hbw
  have HLB := Lib.hid hlb; clear hlb
  generalize hlf : (if 0 < left then left - 1 else left) = lf
  have HLF := Lib.hid hlf; clear hlf
  obtain ⟨q1, q2, q3⟩ := QQ.out
  unfold opV
  go_enter Try.func18, Try.ntmps18
  go_wp2
  go_quiet (fail)
  clear c1 c4 p0 p1 p3 q1 q2 q3 x2 x3 x5 x6
  obtain ⟨z1, hq2, hq4, hq5⟩ := ZZ.out
  have HB := Lib.hid (pw_below_drewN HB.out nq)
  have KP := Lib.hid (KP.out.drewN nq)
  have HK := Lib.hid (HK.out.below (pw_below_drewN (Below.refl _ _) nq))
  have HP := Lib.hid (blk_below HP.out (pw_below_drewN (Below.refl _ _) nq))
  generalize (World.drewN _ nq) = w1 at *
  generalize hpp : w.heap.size = pp at *
  have HPB := Lib.hid (show base ≤ pp from HN.out.2.2.2.2.2)
  go_wp2
  refine start_ (n := 11) (S := fun w' => w'.cell? ⟨h, 1, none⟩ = some (.slice (some ⟨g, 0, none⟩) m2 c2) ∧ w'.cell? ⟨pp, 1, none⟩ = some (.int .i64 i) ∧ w'.cell? ⟨pp, 3, none⟩ = some (.string b)) (ds := [10]) #[false, false, false, false, false, false, false, false, false, false, false] (by kernel_rfl) rfl rfl ⟨HK.out.dk.c1, (blk_cell HP.out 1).trans rfl, (blk_cell HP.out 3).trans rfl⟩ (fun hHeld => ?_)
  have HB := Lib.hid (below_drew HB.out)
  have KP := Lib.hid KP.out.drew
  have HK := Lib.hid HK.out.drew
  have HP := Lib.hid (blk_drew HP.out)
  refine pure_ (i := 0) (N := some 52) (v := ?_) (a' := ?_) #[true, false, false, false, false, false, false, false, false, false, false] rfl rfl (by kernel_rfl) (fun _ _ _ h => h) (Or.inl ⟨by rfl, ?_⟩) ?_ ?_
  rotate_left
  · intro w'
    go_simp
    with_reducible rfl
  rotate_left
  · simp only [Act.put, List.setIfInBounds_toArray, List.set_cons_zero, List.set_cons_succ, i64_w, i32_w]
    rfl
  refine pure_ (i := 1) (N := some 53) (v := ?_) (a' := ?_) #[true, true, false, false, false, false, false, false, false, false, false] rfl rfl (by kernel_rfl) (fun _ _ _ h => h) (Or.inl ⟨by rfl, ?_⟩) ?_ ?_
  rotate_left
  · intro w'
    go_simp
    with_reducible rfl
  rotate_left
  · simp only [Act.put, List.setIfInBounds_toArray, List.set_cons_zero, List.set_cons_succ, i64_w, i32_w]
    rfl
  refine pure_ (i := 2) (N := some 54) (v := ?_) (a' := ?_) #[true, true, true, false, false, false, false, false, false, false, false] rfl rfl (by kernel_rfl) (fun _ _ _ h => h) (Or.inl ⟨by rfl, ?_⟩) ?_ ?_
  rotate_left
  · intro w'
    go_simp
    with_reducible rfl
  rotate_left
  · simp only [Act.put, List.setIfInBounds_toArray, List.set_cons_zero, List.set_cons_succ, i64_w, i32_w]
    rfl
  refine pure_ (i := 4) (N := some 56) (v := ?_) (a' := ?_) #[true, true, true, false, true, false, false, false, false, false, false] rfl rfl (by kernel_rfl) (fun _ _ _ h => h) (Or.inl ⟨by rfl, ?_⟩) ?_ ?_
  rotate_left
  · intro w'
    go_simp
    with_reducible rfl
  rotate_left
  · simp only [Act.put, List.setIfInBounds_toArray, List.set_cons_zero, List.set_cons_succ, i64_w, i32_w]
    rfl
  refine pure_ (i := 8) (N := some 60) (v := ?_) (a' := ?_) #[true, true, true, false, true, false, false, false, true, false, false] rfl rfl (by kernel_rfl) (fun _ _ _ h => h) (Or.inl ⟨by rfl, ?_⟩) ?_ ?_
  rotate_left
  · intro w'
    go_simp
    with_reducible rfl
  rotate_left
  · simp only [Act.put, List.setIfInBounds_toArray, List.set_cons_zero, List.set_cons_succ, i64_w, i32_w]
    rfl
  refine take_ (i := 3) (N := some 55) (v := ?_) (a' := ?_) #[true, true, true, true, true, false, false, false, true, false, false] rfl rfl (by kernel_rfl) (fun _ _ _ h => h) (Or.inl ⟨by rfl, ?_⟩) hHeld ?_ ?_
  rotate_left
  · rintro w' ⟨s0, s1, s2⟩
    go_simp
    with_reducible rfl
  rotate_left
  · simp only [Act.put, List.setIfInBounds_toArray, List.set_cons_zero, List.set_cons_succ, i64_w, i32_w]
    rfl
  refine take_ (i := 5) (N := some 57) (v := ?_) (a' := ?_) #[true, true, true, true, true, true, false, false, true, false, false] rfl rfl (by kernel_rfl) (fun _ _ _ h => h) (Or.inl ⟨by rfl, ?_⟩) hHeld ?_ ?_
  rotate_left
  · rintro w' ⟨s0, s1, s2⟩
    go_simp
    with_reducible rfl
  rotate_left
  · simp only [Act.put, List.setIfInBounds_toArray, List.set_cons_zero, List.set_cons_succ, i64_w, i32_w]
    rfl
  refine pure_ (i := 6) (N := some 58) (v := ?_) (a' := ?_) #[true, true, true, true, true, true, true, false, true, false, false] rfl rfl (by kernel_rfl) (fun _ _ _ h => h) (Or.inl ⟨by rfl, ?_⟩) ?_ ?_
  rotate_left
  · intro w'
    go_simp
    with_reducible rfl
  rotate_left
  · simp only [Act.put, List.setIfInBounds_toArray, List.set_cons_zero, List.set_cons_succ, i64_w, i32_w]
    rfl
  refine pure_ (i := 7) (N := some 59) (v := ?_) (a' := ?_) #[true, true, true, true, true, true, true, true, true, false, false] rfl rfl (by kernel_rfl) (fun _ _ _ h => h) (Or.inl ⟨by rfl, ?_⟩) ?_ ?_
  rotate_left
  · intro w'
    go_simp
    with_reducible rfl
  rotate_left
  · simp only [Act.put, List.setIfInBounds_toArray, List.set_cons_zero, List.set_cons_succ, i64_w, i32_w]
    rfl
  refine take_ (i := 9) (N := some 61) (v := ?_) (a' := ?_) #[true, true, true, true, true, true, true, true, true, true, false] rfl rfl (by kernel_rfl) (fun _ _ _ h => h) (Or.inl ⟨by rfl, ?_⟩) hHeld ?_ ?_
  rotate_left
  · rintro w' ⟨s0, s1, s2⟩
    go_simp
    with_reducible rfl
  rotate_left
  · simp only [Act.put, List.setIfInBounds_toArray, List.set_cons_zero, List.set_cons_succ, i64_w, i32_w]
    rfl
  refine last_ (i := 10) (N := some 62) #[true, true, true, true, true, true, true, true, true, true, true] rfl rfl (by kernel_rfl) (by decide) (fun K hK => ?_)
  refine copy_str_step (w0 := w) base (by rfl) (.tmp 59) (.tmp 61) rfl g c2 q _ _ b rfl rfl o2 (by rw [← HN.out.2.2.1]; exact HK.out.s2) (by have := HN.out; omega) (by have := HN.out; omega) HB.out ?_
  intro w5 HO1 HB1 HG1
  refine hK.out _ _ ?_
  clear hK K
  refine norm_ (a' := ?_) ?_ ?_
  rotate_left
  · show Act.put _ (some 62) _ = _
    simp only [Act.put, List.setIfInBounds_toArray, List.set_cons_zero, List.set_cons_succ, i64_w, i32_w]
    rfl
  refine done_ (by kernel_rfl) ?_

  clear hHeld z1 hq2 hq4 hq5
  have HP := Lib.hid (blk_grown HP.out HG1.out (HK.out.s2.ne HP.out (by decide)))
  have HK := Lib.hid (HK.out.seen HG1.out (o := splice o2 q b.data.toList) (by have := HO1.out; rw [← HN.out.2.2.1] at this; exact this))
  have HB := HB1
  have KP := Lib.hid (KP.out.grown HG1.out (fun k e => .inl (.inr (.inr (.inl e)))))
  clear HO1 HG1 HB1
  generalize hs3 : splice o2 q b.data.toList = o3 at *
  have HS3 := Lib.hid hs3; clear hs3
  generalize hv2 : Value.slice (some ⟨g, 0, none⟩) m2 c2 = V2 at *
  have HV2 := Lib.hid hv2; clear hv2
  obtain ⟨Aa, ma, ca, rfl⟩ := r_slice3 HK.out.ats
  have hl8 : ((l.map fun p => (p.1 : Int)).length + 1) * 8 ≤ 140737488355328 := by rw [List.length_map]; have := HN.out; omega
  have hl16 : ((l.map Prod.snd).length + 1) * 16 ≤ 140737488355328 := by rw [List.length_map]; have := HN.out; omega
  go_wp2
  refine start_ (n := 12) (S := fun w' => w'.cell? ⟨h, 2, none⟩ = some (.slice Aa ma ca) ∧ w'.cell? ⟨pp, 1, none⟩ = some (.int .i64 i)) (ds := [8, 11]) #[false, false, false, false, false, false, false, false, false, false, false, false] (by kernel_rfl) rfl rfl ⟨HK.out.dk.c2, (blk_cell HP.out 1).trans rfl⟩ (fun hHeld => ?_)
  have HB := Lib.hid (below_drew HB.out)
  have KP := Lib.hid KP.out.drew
  have HK := Lib.hid HK.out.drew
  have HP := Lib.hid (blk_drew HP.out)
  refine pure_ (i := 0) (N := some 63) (v := ?_) (a' := ?_) #[true, false, false, false, false, false, false, false, false, false, false, false] rfl rfl (by kernel_rfl) (fun _ _ _ h => h) (Or.inl ⟨by rfl, ?_⟩) ?_ ?_
  rotate_left
  · intro w'
    go_simp
    with_reducible rfl
  rotate_left
  · simp only [Act.put, List.setIfInBounds_toArray, List.set_cons_zero, List.set_cons_succ, i64_w, i32_w]
    rfl
  refine pure_ (i := 1) (N := some 64) (v := ?_) (a' := ?_) #[true, true, false, false, false, false, false, false, false, false, false, false] rfl rfl (by kernel_rfl) (fun _ _ _ h => h) (Or.inl ⟨by rfl, ?_⟩) ?_ ?_
  rotate_left
  · intro w'
    go_simp
    with_reducible rfl
  rotate_left
  · simp only [Act.put, List.setIfInBounds_toArray, List.set_cons_zero, List.set_cons_succ, i64_w, i32_w]
    rfl
  refine pure_ (i := 2) (N := some 65) (v := ?_) (a' := ?_) #[true, true, true, false, false, false, false, false, false, false, false, false] rfl rfl (by kernel_rfl) (fun _ _ _ h => h) (Or.inl ⟨by rfl, ?_⟩) ?_ ?_
  rotate_left
  · intro w'
    go_simp
    with_reducible rfl
  rotate_left
  · simp only [Act.put, List.setIfInBounds_toArray, List.set_cons_zero, List.set_cons_succ, i64_w, i32_w]
    rfl
  refine pure_ (i := 3) (N := some 66) (v := ?_) (a' := ?_) #[true, true, true, true, false, false, false, false, false, false, false, false] rfl rfl (by kernel_rfl) (fun _ _ _ h => h) (Or.inl ⟨by rfl, ?_⟩) ?_ ?_
  rotate_left
  · intro w'
    go_simp
    with_reducible rfl
  rotate_left
  · simp only [Act.put, List.setIfInBounds_toArray, List.set_cons_zero, List.set_cons_succ, i64_w, i32_w]
    rfl
  refine pure_ (i := 5) (N := some 68) (v := ?_) (a' := ?_) #[true, true, true, true, false, true, false, false, false, false, false, false] rfl rfl (by kernel_rfl) (fun _ _ _ h => h) (Or.inl ⟨by rfl, ?_⟩) ?_ ?_
  rotate_left
  · intro w'
    go_simp
    with_reducible rfl
  rotate_left
  · simp only [Act.put, List.setIfInBounds_toArray, List.set_cons_zero, List.set_cons_succ, i64_w, i32_w]
    rfl
  refine take_ (i := 4) (N := some 67) (v := ?_) (a' := ?_) #[true, true, true, true, true, true, false, false, false, false, false, false] rfl rfl (by kernel_rfl) (fun _ _ _ h => h) (Or.inl ⟨by rfl, ?_⟩) hHeld ?_ ?_
  rotate_left
  · rintro w' ⟨s0, s1⟩
    go_simp
    with_reducible rfl
  rotate_left
  · simp only [Act.put, List.setIfInBounds_toArray, List.set_cons_zero, List.set_cons_succ, i64_w, i32_w]
    rfl
  refine take_ (i := 6) (N := some 69) (v := ?_) (a' := ?_) #[true, true, true, true, true, true, true, false, false, false, false, false] rfl rfl (by kernel_rfl) (fun _ _ _ h => h) (Or.inl ⟨by rfl, ?_⟩) hHeld ?_ ?_
  rotate_left
  · rintro w' ⟨s0, s1⟩
    go_simp
    with_reducible rfl
  rotate_left
  · simp only [Act.put, List.setIfInBounds_toArray, List.set_cons_zero, List.set_cons_succ, i64_w, i32_w]
    rfl
  refine one_ (i := 7) (N := some 70) #[true, true, true, true, true, true, true, true, false, false, false, false] rfl rfl (by kernel_rfl) (by decide) (fun K hK => ?_)
  refine value_ (w1 := ?_) (v := ?_) (by rfl) rfl ?_ ?_
  rotate_left 2
  · go_simp
    constructor
    · rfl
    · rfl
  refine hK.out _ _ ⟨pw_cell_below (below_alloc (Below.refl _ _) _) hHeld.1, pw_cell_below (below_alloc (Below.refl _ _) _) hHeld.2⟩ (fun hHeld => ?_)
  clear hK K
  refine norm_ (a' := ?_) ?_ ?_
  rotate_left
  · show Act.put _ (some 70) _ = _
    simp only [Act.put, List.setIfInBounds_toArray, List.set_cons_zero, List.set_cons_succ, i64_w, i32_w]
    rfl
  refine last_ (i := 8) (N := some 71) #[true, true, true, true, true, true, true, true, true, false, false, false] rfl rfl (by kernel_rfl) (by decide) (fun K hK => ?_)
  refine app_at_step (w0 := w) base (by rfl) (.tmp 67) (.tmp 70) _ (l.map fun p => (p.1 : Int)) i rfl rfl rfl HK.out.ats HB.out (Nat.le_trans HPB.out (Nat.le_of_lt (blk_lt HP.out))) hl8 ?_
  intro v1 w6 HO2 HB2 HG2
  refine hK.out _ _ ?_
  clear hK K
  refine norm_ (a' := ?_) ?_ ?_
  rotate_left
  · show Act.put _ (some 71) _ = _
    simp only [Act.put, List.setIfInBounds_toArray, List.set_cons_zero, List.set_cons_succ, i64_w, i32_w]
    rfl
  refine pure_ (i := 9) (N := some 72) (v := ?_) (a' := ?_) #[true, true, true, true, true, true, true, true, true, true, false, false] rfl rfl (by kernel_rfl) (fun _ _ _ h => h) (Or.inl ⟨by rfl, ?_⟩) ?_ ?_
  rotate_left
  · intro w'
    go_simp
    with_reducible rfl
  rotate_left
  · simp only [Act.put, List.setIfInBounds_toArray, List.set_cons_zero, List.set_cons_succ, i64_w, i32_w]
    rfl
  refine pure_ (i := 10) (N := some 73) (v := ?_) (a' := ?_) #[true, true, true, true, true, true, true, true, true, true, true, false] rfl rfl (by kernel_rfl) (fun _ _ _ h => h) (Or.inl ⟨by rfl, ?_⟩) ?_ ?_
  rotate_left
  · intro w'
    go_simp
    with_reducible rfl
  rotate_left
  · simp only [Act.put, List.setIfInBounds_toArray, List.set_cons_zero, List.set_cons_succ, i64_w, i32_w]
    rfl
  refine last_ (i := 11) (N := none) #[true, true, true, true, true, true, true, true, true, true, true, true] rfl rfl (by kernel_rfl) (by decide) (fun K hK => ?_)
  have hx6 : IsRD w6 h V1 V2 (.slice Aa ma ca) B left := blk_grown HK.out.dk HG2.out (Kd.R_ne HK.out.ats HK.out.dk (by decide))
  refine skip_ (w1 := _) (by rfl) rfl (run_stcell 44 (.tmp 73) (.tmp 71) rfl h 2 v1 rfl rfl (by obtain ⟨A1, m1, c1, rfl⟩ := r_slice3 HO2.out; rfl) (by kernel_rfl) (by rw [hx6.c2]; rfl) (hx6.f 2)) ?_
  refine hK.out _ _ ?_
  clear hK K
  refine done_ (by kernel_rfl) ?_

  clear hHeld
  have hne : h ≠ pp := (blk_ne HP.out HK.out.dk (by decide)).symm
  have HP := Lib.hid (blk_far (blk_grown HP.out HG2.out (Kd.R_ne HK.out.ats HP.out (by decide))) (p := ⟨h, 2, none⟩) hne.symm v1)
  have HX := Lib.hid (HK.out.puta (p := (i.toNat, b)) HG2.out (by have := HO2.out; rw [← HN.out.2.2.2.2.1] at this; exact this))
  have HB := Lib.hid (below_setc (p := ⟨h, 2, none⟩) HB2.out HK.out.hb v1)
  have HKN := Lib.hid (And.intro HK.out.ne HK.out.hb)
  have KP := Lib.hid ((KP.out.grown HG2.out (fun k e => .inl (.inr (.inr (.inr (.inl e)))))).set (p := ⟨h, 2, none⟩) (.inl (.inl rfl)) v1)
  clear HO2 HB2 HG2 HK
  generalize w6.setCell ⟨h, 2, none⟩ v1 = w7 at *
  obtain ⟨Ab, mb, cb, rfl⟩ := r_slice3 HX.out.2.2.2.2
  go_wp2
  refine start_ (n := 12) (S := fun w' => w'.cell? ⟨h, 3, none⟩ = some (.slice Ab mb cb) ∧ w'.cell? ⟨pp, 3, none⟩ = some (.string b)) (ds := [8, 11]) #[false, false, false, false, false, false, false, false, false, false, false, false] (by kernel_rfl) rfl rfl ⟨HX.out.1.c3, (blk_cell HP.out 3).trans rfl⟩ (fun hHeld => ?_)
  have HB := Lib.hid (below_drew HB.out)
  have KP := Lib.hid KP.out.drew
  have HP := Lib.hid (blk_drew HP.out)
  have HX := Lib.hid (RDk.mid_drew HX.out)
  refine pure_ (i := 0) (N := some 74) (v := ?_) (a' := ?_) #[true, false, false, false, false, false, false, false, false, false, false, false] rfl rfl (by kernel_rfl) (fun _ _ _ h => h) (Or.inl ⟨by rfl, ?_⟩) ?_ ?_
  rotate_left
  · intro w'
    go_simp
    with_reducible rfl
  rotate_left
  · simp only [Act.put, List.setIfInBounds_toArray, List.set_cons_zero, List.set_cons_succ, i64_w, i32_w]
    rfl
  refine pure_ (i := 1) (N := some 75) (v := ?_) (a' := ?_) #[true, true, false, false, false, false, false, false, false, false, false, false] rfl rfl (by kernel_rfl) (fun _ _ _ h => h) (Or.inl ⟨by rfl, ?_⟩) ?_ ?_
  rotate_left
  · intro w'
    go_simp
    with_reducible rfl
  rotate_left
  · simp only [Act.put, List.setIfInBounds_toArray, List.set_cons_zero, List.set_cons_succ, i64_w, i32_w]
    rfl
  refine pure_ (i := 2) (N := some 76) (v := ?_) (a' := ?_) #[true, true, true, false, false, false, false, false, false, false, false, false] rfl rfl (by kernel_rfl) (fun _ _ _ h => h) (Or.inl ⟨by rfl, ?_⟩) ?_ ?_
  rotate_left
  · intro w'
    go_simp
    with_reducible rfl
  rotate_left
  · simp only [Act.put, List.setIfInBounds_toArray, List.set_cons_zero, List.set_cons_succ, i64_w, i32_w]
    rfl
  refine pure_ (i := 3) (N := some 77) (v := ?_) (a' := ?_) #[true, true, true, true, false, false, false, false, false, false, false, false] rfl rfl (by kernel_rfl) (fun _ _ _ h => h) (Or.inl ⟨by rfl, ?_⟩) ?_ ?_
  rotate_left
  · intro w'
    go_simp
    with_reducible rfl
  rotate_left
  · simp only [Act.put, List.setIfInBounds_toArray, List.set_cons_zero, List.set_cons_succ, i64_w, i32_w]
    rfl
  refine pure_ (i := 5) (N := some 79) (v := ?_) (a' := ?_) #[true, true, true, true, false, true, false, false, false, false, false, false] rfl rfl (by kernel_rfl) (fun _ _ _ h => h) (Or.inl ⟨by rfl, ?_⟩) ?_ ?_
  rotate_left
  · intro w'
    go_simp
    with_reducible rfl
  rotate_left
  · simp only [Act.put, List.setIfInBounds_toArray, List.set_cons_zero, List.set_cons_succ, i64_w, i32_w]
    rfl
  refine take_ (i := 4) (N := some 78) (v := ?_) (a' := ?_) #[true, true, true, true, true, true, false, false, false, false, false, false] rfl rfl (by kernel_rfl) (fun _ _ _ h => h) (Or.inl ⟨by rfl, ?_⟩) hHeld ?_ ?_
  rotate_left
  · rintro w' ⟨s0, s1⟩
    go_simp
    with_reducible rfl
  rotate_left
  · simp only [Act.put, List.setIfInBounds_toArray, List.set_cons_zero, List.set_cons_succ, i64_w, i32_w]
    rfl
  refine take_ (i := 6) (N := some 80) (v := ?_) (a' := ?_) #[true, true, true, true, true, true, true, false, false, false, false, false] rfl rfl (by kernel_rfl) (fun _ _ _ h => h) (Or.inl ⟨by rfl, ?_⟩) hHeld ?_ ?_
  rotate_left
  · rintro w' ⟨s0, s1⟩
    go_simp
    with_reducible rfl
  rotate_left
  · simp only [Act.put, List.setIfInBounds_toArray, List.set_cons_zero, List.set_cons_succ, i64_w, i32_w]
    rfl
  refine one_ (i := 7) (N := some 81) #[true, true, true, true, true, true, true, true, false, false, false, false] rfl rfl (by kernel_rfl) (by decide) (fun K hK => ?_)
  refine value_ (w1 := ?_) (v := ?_) (by rfl) rfl ?_ ?_
  rotate_left 2
  · go_simp
    constructor
    · rfl
    · rfl
  refine hK.out _ _ ⟨pw_cell_below (below_alloc (Below.refl _ _) _) hHeld.1, pw_cell_below (below_alloc (Below.refl _ _) _) hHeld.2⟩ (fun hHeld => ?_)
  clear hK K
  refine norm_ (a' := ?_) ?_ ?_
  rotate_left
  · show Act.put _ (some 81) _ = _
    simp only [Act.put, List.setIfInBounds_toArray, List.set_cons_zero, List.set_cons_succ, i64_w, i32_w]
    rfl
  refine last_ (i := 8) (N := some 82) #[true, true, true, true, true, true, true, true, true, false, false, false] rfl rfl (by kernel_rfl) (by decide) (fun K hK => ?_)
  refine app_b_step (w0 := w) base (by rfl) (.tmp 78) (.tmp 81) _ (l.map Prod.snd) b rfl rfl rfl HX.out.2.2.2.2 HB.out (Nat.le_trans HPB.out (Nat.le_of_lt (blk_lt HP.out))) hl16 ?_
  intro v2 w8 HO3 HB3 HG3 HN3
  have HN3 := Lib.hid (show Value.ownBlock v2 = (Value.slice Ab mb cb).ownBlock ∨ ∃ b, Value.ownBlock v2 = some b ∧ w.heap.size ≤ b from HN3.out.imp id (fun ⟨b, e, hb⟩ => ⟨b, e, Nat.le_trans KP.out.size hb⟩))
  refine hK.out _ _ ?_
  clear hK K
  refine norm_ (a' := ?_) ?_ ?_
  rotate_left
  · show Act.put _ (some 82) _ = _
    simp only [Act.put, List.setIfInBounds_toArray, List.set_cons_zero, List.set_cons_succ, i64_w, i32_w]
    rfl
  refine pure_ (i := 9) (N := some 83) (v := ?_) (a' := ?_) #[true, true, true, true, true, true, true, true, true, true, false, false] rfl rfl (by kernel_rfl) (fun _ _ _ h => h) (Or.inl ⟨by rfl, ?_⟩) ?_ ?_
  rotate_left
  · intro w'
    go_simp
    with_reducible rfl
  rotate_left
  · simp only [Act.put, List.setIfInBounds_toArray, List.set_cons_zero, List.set_cons_succ, i64_w, i32_w]
    rfl
  refine pure_ (i := 10) (N := some 84) (v := ?_) (a' := ?_) #[true, true, true, true, true, true, true, true, true, true, true, false] rfl rfl (by kernel_rfl) (fun _ _ _ h => h) (Or.inl ⟨by rfl, ?_⟩) ?_ ?_
  rotate_left
  · intro w'
    go_simp
    with_reducible rfl
  rotate_left
  · simp only [Act.put, List.setIfInBounds_toArray, List.set_cons_zero, List.set_cons_succ, i64_w, i32_w]
    rfl
  refine last_ (i := 11) (N := none) #[true, true, true, true, true, true, true, true, true, true, true, true] rfl rfl (by kernel_rfl) (by decide) (fun K hK => ?_)
  have hx8 : IsRD w8 h V1 V2 v1 (.slice Ab mb cb) left := blk_grown HX.out.1 HG3.out (Kd.R_ne HX.out.2.2.2.2 HX.out.1 (by decide))
  refine skip_ (w1 := _) (by rfl) rfl (run_stcell 45 (.tmp 84) (.tmp 82) rfl h 3 v2 rfl rfl (by obtain ⟨A1, m1, c1, rfl⟩ := r_slice3 HO3.out; rfl) (by kernel_rfl) (by rw [hx8.c3]; rfl) (hx8.f 3)) ?_
  refine hK.out _ _ ?_
  clear hK K
  refine done_ (by kernel_rfl) ?_

  clear hHeld
  have HK := Lib.hid (RDk.putb (p := (i.toNat, b)) HX.out.1 HX.out.2.1 HX.out.2.2.1 HKN.out.1 HX.out.2.2.2.1 HX.out.2.2.2.2 HKN.out.2 HG3.out HO3.out)
  have HB := Lib.hid (below_setc (p := ⟨h, 3, none⟩) HB3.out HKN.out.2 v2)
  have KP := Lib.hid ((KP.out.grown HG3.out (fun k e => .inl (.inr (.inr (.inr (.inr e)))))).set (p := ⟨h, 3, none⟩) (.inl (.inl rfl)) v2)
  clear HO3 HB3 HG3 HX
  generalize w8.setCell ⟨h, 3, none⟩ v2 = w9 at *
  have c4 := HK.out.dk.c4
  have f4 := HK.out.dk.f 4
  by_cases hp : 0 < left
  · have y5 : decide (0 < left) = true := decide_eq_true hp
    have y6 : wrap64 (left - 1) = left - 1 := wrap64_id (by omega) (by have := HLB.out; omega)
    have HPO := Lib.hid hp; clear hp
    go_wp2
    go_ret2
    rw [HV2.out, HS3.out, ← HLF.out, if_pos HPO.out]
    exact ⟨rfl, ⟨_, _, HK.out.set4 _, by rw [hpp] at HN3 ⊢; exact HN3.out⟩, below_setc (p := ⟨h, 4, none⟩) HB.out HK.out.hb _, KP.out.set (p := ⟨h, 4, none⟩) (.inl (.inl rfl)) _⟩
  · have y5 : decide (0 < left) = false := decide_eq_false hp
    have HPO := Lib.hid (show (0 < left) = False from eq_false hp); clear hp
    go_wp2
    go_ret2
    rw [HV2.out, HS3.out, ← HLF.out, if_neg (fun hx => by rw [HPO.out] at hx; exact hx)]
    exact ⟨rfl, ⟨_, _, HK.out, by rw [hpp] at HN3 ⊢; exact HN3.out⟩, HB.out, KP.out⟩
end
end Go.Proofs.Ytoandabafkdgjaa.My
