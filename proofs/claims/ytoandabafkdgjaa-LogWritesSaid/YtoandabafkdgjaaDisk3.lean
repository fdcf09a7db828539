/- disk.Disk: Write, Sync, Fuse. -/
import Derived.Test.YtoandabafkdgjaaDisk2
namespace Go.Proofs.Ytoandabafkdgjaa.My
set_option linter.unusedSimpArgs false
set_option linter.unusedVariables false
open Go.RowKit Go.Proofs.YtoandabafkdgjaaW.PrintWords Go.Proofs.YtoandabafkdgjaaW.PrintLast Go.Proofs.Ytoandabafkdgjaa.Pm

theorem succ_w {i len : Nat} (hi : i < len) (hl : len ≤ 140737488351232) : wrap64 ((i : Int) + 1) = ((i + 1 : Nat) : Int) := wrap64_id (by omega) (by omega)
theorem up_w {j n : Nat} (h : j < n) (hw : wrap64 ((j : Int) + 1) = ((j + 1 : Nat) : Int)) : n - (intOf (.int .i64 (wrap64 ((j : Int) + 1)))).toNat < n - (intOf (.int .i64 (j : Int))).toNat := by
  rw [hw]
  simp only [intOf]
  omega
theorem up_w2 {j n : Nat} (h : j < n) : n - (intOf (.int .i64 ((j : Int) + 1))).toNat < n - (intOf (.int .i64 (j : Int))).toNat := by
  simp only [intOf]
  omega
theorem info_w : (Try.prog.info? 73).map (fun i => (i.zero, i.size, i.bytes)) = some (some (.agg #[.int .i64 0, .string ⟨#[]⟩]), 2, 24) := by kernel_rfl
theorem app_w {ops : Array Oper} {rest : List Oper} {o : Oper} {a : Act} {Q : Exit → Act → World → Prop} {w0 W : World} (base : Nat) (hgd : o.guard = none) (s x : Operand) (v : Value) (xs : List (Nat × ByteArray)) (p : Nat × ByteArray)
    (ho : o.op = .call { callee := .builtin .append, args := #[s, x], argTypes := #[68, 68] }) (hs : a.eval s = v) (hx : a.eval x = .slice (some ⟨W.heap.size, 0, none⟩) 1 1)
    (HO : Wts W base v xs) (HB : Below base w0 W) (hbase : base ≤ W.heap.size) (hl : (xs.length + 1) * 24 ≤ 140737488355328)
    (h : ∀ v1 w1, Hid (Wts w1 base v1 (xs ++ [p])) → Hid (Below base w0 w1) → Hid (W.grownBy w1 v.ownBlock) → wpList Try.prog ops Q rest (a.put o.dst v1) w1) :
    wpList Try.prog ops Q (o :: rest) a (W.alloc (.cells #[.int .i64 (p.1 : Int), .string p.2] 73)) :=
  Kd.R_append kW base hgd s x 68 73 (.agg #[.int .i64 0, .string ⟨#[]⟩]) 24 ho Try.underlying68 info_w rfl (by decide) (by omega) v xs p [.int .i64 (p.1 : Int), .string p.2] (fun _ => True) (fun _ => False) hs hx (kW_mkM _ _ _ p) (fun _ hk => hk.elim) (fun _ _ => trivial) HO HB hbase hl
    (fun v1 w1 h1 h2 h3 _ => h v1 w1 h1 h2 h3)
/-- The waits' row has been written; its new value is stored. -/
theorem Dk.putw {w w1 : World} {base h : Nat} {V W v1 : Value} {d : DkS} {l : List (Nat × ByteArray)} (k : Dk w base h V W d) (hg : w.grownBy w1 W.ownBlock) (hw : Wts w1 base v1 l) : Dk (w1.setCell ⟨h, 1, none⟩ v1) base h V v1 ⟨d.sure, l, d.fuse, d.gone⟩ := by
  have h1 : IsDk w1 h V W d.fuse d.gone := blk_grown k.dk hg (Kd.R_ne k.wt k.dk (by decide))
  have h2 : Srs w1 base V d.sure := Kd.R_over k.sr k.wt (fun q hq => by rw [string_E] at hq; rw [List.mem_singleton.1 hq]; decide) hg
  exact ⟨blk_set h1 1 v1, Kd.R_set h2 h1 (fun q hq => by rw [string_E] at hq; rw [List.mem_singleton.1 hq]; decide) 1 _, Kd.R_set hw h1 (fun q hq => by rw [kW_E] at hq; rw [List.mem_singleton.1 hq]; decide) 1 _, k.hb⟩
/-- The blocks of a disk. -/
def OwnD (h : Nat) (V W : Value) : Nat → Prop := fun k => k = h ∨ V.ownBlock = some k ∨ W.ownBlock = some k
theorem Keeps.grown {S : Nat → Prop} {a b c : World} (h : Keeps S a b) {row : Option Nat} (hg : b.grownBy c row) (hs : ∀ k, row = some k → S k ∨ a.heap.size ≤ k) : Keeps S a c :=
  ⟨hg.os.trans h.os, hg.tape.trans h.tape, hg.output.trans h.output, Nat.le_trans h.size hg.size, fun k hk hn =>
    (hg.block k (Nat.lt_of_lt_of_le hk h.size) (fun e => (hs k e.symm).elim hn (fun x => by omega))).trans (h.block k hk hn)⟩
def writeS (d : DkS) (i : Nat) (b : ByteArray) : DkS := ⟨d.sure, d.waits ++ [(i, b)], if 0 < d.fuse then d.fuse - 1 else d.fuse, if 0 < d.fuse then decide (d.fuse - 1 = 0) else d.gone⟩
def writeE (d : DkS) (i : Int) (b : ByteArray) : Nat := if mayS d i ≠ 0 then mayS d i else if b.size ≠ 64 then 1 else 0
theorem writeS_ok {d : DkS} (h : d.Ok) {i : Nat} {b : ByteArray} (hi : i < d.sure.length) (hb : b.size = 64) : (writeS d i b).Ok :=
  ⟨h.len, h.size, fun p hp => by
    rcases List.mem_append.1 hp with hp | hp
    · exact h.wait p hp
    · rw [List.mem_singleton.1 hp]; exact ⟨hi, hb⟩, by have := h.fuse; simp only [writeS]; split <;> omega⟩
set_option maxRecDepth 100000 in
set_option maxHeartbeats 4000000 in
theorem dk_write_bad {w : World} {base h : Nat} {V W : Value} {d : DkS} (k : Dk w base h V W d) (i : Int) (b : ByteArray) (he : writeE d i b ≠ 0) : Calls Try.prog 10 #[.pointer (some ⟨h, 0, none⟩), .int .i64 i, .string b] w fun e w' => e = .returned (.int .i64 (writeE d i b)) ∧ w = w' := by
  have M := Lib.hid (dk_may k i)
  unfold writeE at he ⊢
  by_cases hm : mayS d i = 0
  · rw [if_neg (by simpa using hm)] at he ⊢
    have hb : b.size ≠ 64 := fun e => by rw [if_neg (by simpa using e)] at he; exact he rfl
    rw [if_pos hb]
    rw [hm] at M
    have x1 : ((b.size : Int) == 64) = false := beq_eq_false_iff_ne.2 (by omega)
    have x2 : ((b.size : Int) != 64) = true := by rw [bne, x1]; rfl
    have x3 : ¬ b.size = 64 := hb
    clear he hb hm
    go_enter Try.func10, Try.ntmps10
    go_wp2_with fail
    refine M.out.mono ?_
    rintro e w1 ⟨rfl, rfl⟩
    go_wp2
    go_ret
    exact ⟨rfl, rfl⟩
  · rw [if_pos hm]
    generalize mayS d i = m at *
    have x1 : ((m : Int) == 0) = false := beq_eq_false_iff_ne.2 (by omega)
    have x2 : ((m : Int) != 0) = true := by rw [bne, x1]; rfl
    have x3 : ¬ (m : Int) = 0 := by omega
    clear he hm
    go_enter Try.func10, Try.ntmps10
    go_wp2_with fail
    refine M.out.mono ?_
    rintro e w1 ⟨rfl, rfl⟩
    go_wp2
    go_ret
    exact ⟨rfl, rfl⟩
set_option maxRecDepth 100000 in
set_option maxHeartbeats 4000000 in
theorem dk_writeK {w : World} {base h : Nat} {V W : Value} {d : DkS} (k : Dk w base h V W d) (ho : d.Ok) (i : Nat) (b : ByteArray) (hm : mayS d i = 0) (hb : b.size = 64) (hl : d.waits.length ≤ 1000000) (hbw : base ≤ w.heap.size) :
    Calls Try.prog 10 #[.pointer (some ⟨h, 0, none⟩), .int .i64 i, .string b] w fun e w' => e = .returned (.int .i64 0) ∧ (∃ W', Dk w' base h V W' (writeS d i b)) ∧ Below base w w' ∧ Keeps (OwnD h V W) w w' := by
  have M := Lib.hid (dk_may k i)
  rw [hm] at M
  have hfu := ho.fuse
  have hgo := (mayS_ok hm).1
  have HK := Lib.hid k
  have HB := Lib.hid (Below.refl base w)
  have c1 := k.dk.c1
  have c2 := k.dk.c2
  have c3 := k.dk.c3
  have f1 := k.dk.f 1
  have f2 := k.dk.f 2
  have f3 := k.dk.f 3
  clear k ho hm
  have x1 : ((b.size : Int) == 64) = true := by rw [hb]; rfl
  have x2 : ((b.size : Int) != 64) = false := by rw [bne, x1]; rfl
  have x3 : b.size = 64 := hb
  have HX := Lib.hid x3; clear x3 hb
  obtain ⟨A, m, c, rfl⟩ := r_slice3 HK.out.wt
  have hl24 : (d.waits.length + 1) * 24 ≤ 140737488355328 := by omega
  unfold writeS
  obtain ⟨sure, waits, fuse, gone⟩ := d
  simp only at *
  subst hgo
  have APP : ∀ v1 w1, Wts w1 base v1 (waits ++ [(i, b)]) → w.grownBy w1 (Value.slice A m c).ownBlock → IsDk w1 h V (.slice A m c) fuse false ∧ Dk (w1.setCell ⟨h, 1, none⟩ v1) base h V v1 ⟨sure, waits ++ [(i, b)], fuse, false⟩ := fun v1 w1 hw hg =>
    ⟨blk_grown HK.out.dk hg (Kd.R_ne HK.out.wt HK.out.dk (by decide)), HK.out.putw hg hw⟩
  have APP2 := Lib.hid APP
  clear APP
  by_cases hf : 0 < fuse
  · have y0 : decide (0 < fuse) = true := by simp; omega
    have y1 : wrap64 (fuse - 1) = fuse - 1 := wrap64_id (by omega) (by omega)
    rw [if_pos hf, if_pos hf]
    obtain ⟨f2', hf2⟩ : ∃ x, fuse - 1 = x := ⟨_, rfl⟩
    rw [hf2] at y1 ⊢
    have HD := Lib.hid (show decide (f2' = 0) = (f2' == 0) by by_cases e : f2' = 0 <;> simp [e])
    have HF := Lib.hid hf
    clear hfu hf
    go_enter Try.func10, Try.ntmps10
    go_wp2_with fail
    refine M.out.mono ?_
    rintro e w1 ⟨rfl, rfl⟩
    go_wp2_with (at_builtin; refine app_w (w0 := w) base rfl (.tmp 25) (.tmp 29) _ waits (i, b) rfl rfl rfl HK.out.wt HB.out hbw hl24 ?_; intro v1 w2 HW1 HB1 HG1; obtain ⟨HI, HD1⟩ := APP2.out v1 w2 HW1.out HG1.out; have c1' := HI.c1; have f1' := HI.f 1; have c2' := HI.c2; have f2' := HI.f 2; have c3' := HI.c3; have f3' := HI.f 3; have HD1 := Lib.hid HD1; clear HI c1 c2 c3 f1 f2 f3; obtain ⟨A1, m1, c1, rfl⟩ := r_slice3 HW1.out)
    go_ret
    refine ⟨rfl, ⟨.slice A1 m1 c1, ?_⟩, ?_, ?_⟩
    · first | exact (HD1.out.set2 _).set3 _ | (rw [HD.out]; exact (HD1.out.set2 _).set3 _)
    · exact below_setc (p := ⟨h, 3, none⟩) (below_setc (p := ⟨h, 2, none⟩) (below_setc (p := ⟨h, 1, none⟩) HB1.out HK.out.hb _) HK.out.hb _) HK.out.hb _
    · exact (((((Keeps.refl _ w).grown HG1.out (fun k e => .inl (.inr (.inr e)))).set (p := ⟨h, 1, none⟩) (.inl (.inl rfl)) _).set (p := ⟨h, 2, none⟩) (.inl (.inl rfl)) _).set (p := ⟨h, 3, none⟩) (.inl (.inl rfl)) _)
  · have y0 : decide (0 < fuse) = false := by simp; omega
    rw [if_neg hf, if_neg hf]
    clear hfu hf
    go_enter Try.func10, Try.ntmps10
    go_wp2_with fail
    refine M.out.mono ?_
    rintro e w1 ⟨rfl, rfl⟩
    go_wp2_with (at_builtin; refine app_w (w0 := w) base rfl (.tmp 25) (.tmp 29) _ waits (i, b) rfl rfl rfl HK.out.wt HB.out hbw hl24 ?_; intro v1 w2 HW1 HB1 HG1; obtain ⟨HI, HD1⟩ := APP2.out v1 w2 HW1.out HG1.out; have c1' := HI.c1; have f1' := HI.f 1; have c2' := HI.c2; have f2' := HI.f 2; have c3' := HI.c3; have f3' := HI.f 3; have HD1 := Lib.hid HD1; clear HI c1 c2 c3 f1 f2 f3; obtain ⟨A1, m1, c1, rfl⟩ := r_slice3 HW1.out)
    go_ret
    exact ⟨rfl, ⟨_, HD1.out⟩, below_setc (p := ⟨h, 1, none⟩) HB1.out HK.out.hb _, ((Keeps.refl _ w).grown HG1.out (fun k e => .inl (.inr (.inr e)))).set (p := ⟨h, 1, none⟩) (.inl (.inl rfl)) _⟩
theorem dk_write {w : World} {base h : Nat} {V W : Value} {d : DkS} (k : Dk w base h V W d) (ho : d.Ok) (i : Nat) (b : ByteArray) (hm : mayS d i = 0) (hb : b.size = 64) (hl : d.waits.length ≤ 1000000) (hbw : base ≤ w.heap.size) :
    Calls Try.prog 10 #[.pointer (some ⟨h, 0, none⟩), .int .i64 i, .string b] w fun e w' => e = .returned (.int .i64 0) ∧ (∃ W', Dk w' base h V W' (writeS d i b)) ∧ Below base w w' :=
  (dk_writeK k ho i b hm hb hl hbw).mono fun e w' ⟨h1, h2, h3, _⟩ => ⟨h1, h2, h3⟩

def syncL (sure : List ByteArray) (l : List (Nat × ByteArray)) : List ByteArray := l.foldl (fun s p => s.set p.1 p.2) sure
theorem syncL_len (l : List (Nat × ByteArray)) : ∀ sure, (syncL sure l).length = sure.length := by
  induction l with
  | nil => intro sure; rfl
  | cons p l ih => intro sure; unfold syncL at *; rw [List.foldl_cons, ih, List.length_set]
theorem syncL_snoc (l : List (Nat × ByteArray)) (p : Nat × ByteArray) (sure : List ByteArray) : syncL sure (l ++ [p]) = (syncL sure l).set p.1 p.2 := by unfold syncL; rw [List.foldl_append]; rfl
theorem syncL_size (l : List (Nat × ByteArray)) : ∀ sure, (∀ s ∈ sure, s.size = 0 ∨ s.size = 64) → (∀ p ∈ l, p.2.size = 64) → ∀ s ∈ syncL sure l, s.size = 0 ∨ s.size = 64 := by
  induction l with
  | nil => intro sure h _; exact h
  | cons p l ih =>
    intro sure h hp
    refine ih (sure.set p.1 p.2) (fun s hs => ?_) (fun q hq => hp q (List.mem_cons_of_mem _ hq))
    rcases List.mem_or_eq_of_mem_set hs with hs | rfl
    · exact h s hs
    · exact .inr (hp p List.mem_cons_self)
def syncS (d : DkS) : DkS := ⟨syncL d.sure d.waits, [], d.fuse, d.gone⟩
theorem syncS_ok {d : DkS} (h : d.Ok) : (syncS d).Ok := ⟨by simp only [syncS, syncL_len]; exact h.len, syncL_size _ _ h.size (fun p hp => (h.wait p hp).2), fun p hp => absurd hp (by simp [syncS]), h.fuse⟩
set_option maxRecDepth 100000 in
theorem dk_sync_lost {w : World} {base h : Nat} {V W : Value} {d : DkS} (k : Dk w base h V W d) (hg : d.gone = true) : Calls Try.prog 12 #[.pointer (some ⟨h, 0, none⟩)] w fun e w' => e = .returned (.int .i64 6) ∧ w = w' := by
  have c3 := k.dk.c3
  rw [hg] at c3
  clear k hg
  go_enter Try.func12, Try.ntmps12
  go_wp2
  go_ret
  exact ⟨rfl, rfl⟩
set_option maxRecDepth 100000 in
set_option maxHeartbeats 8000000 in
theorem dk_syncK {w : World} {base h : Nat} {V W : Value} {d : DkS} (k : Dk w base h V W d) (ho : d.Ok) (hgo : d.gone = false) (hl : d.waits.length ≤ 1000000) (hbw : base ≤ w.heap.size) :
    Calls Try.prog 12 #[.pointer (some ⟨h, 0, none⟩)] w fun e w' => e = .returned (.int .i64 0) ∧ Dk w' base h V (.slice none 0 0) (syncS d) ∧ Below base w w' ∧ Keeps (OwnD h V W) w w' := by
  have HK := Lib.hid k
  have HO := Lib.hid ho
  have HB := Lib.hid (Below.refl base w)
  have KP := Lib.hid (Keeps.refl (OwnD h V W) w)
  have c1 := k.dk.c1
  have c3 := k.dk.c3
  rw [hgo] at c3
  obtain ⟨A, m, c, rfl⟩ := r_slice3 k.wt
  have hm : m = d.waits.length := by
    obtain ⟨A', c', e⟩ := Kd.R_slice k.wt
    cases e
    rfl
  obtain ⟨AV, mV, cV, rfl⟩ := r_slice3 k.sr
  clear k ho
  have HM := Lib.hid hm; clear hm
  have HG := Lib.hid hgo; clear hgo
  have hml : m ≤ 140737488351232 := by rw [HM.out]; omega
  go_enter Try.func12, Try.ntmps12
  go_wp2
  clear c1 c3
  go_loopw [14] (fun v14 wr => ∃ i : Nat, v14 = .int .i64 i ∧ i ≤ m ∧ Hid (Dk wr base h (.slice AV mV cV) (.slice A m c) ⟨syncL d.sure (d.waits.take i), d.waits, d.fuse, d.gone⟩) ∧ Hid (Below base w wr) ∧ Hid (Keeps (OwnD h (.slice AV mV cV) (.slice A m c)) w wr)) (fun v14 _ => m - (intOf v14).toNat)
  case atStart => exact ⟨0, rfl, Nat.zero_le _, HK, HB, KP⟩
  case round =>
    clear HK HB KP
    obtain ⟨i, rfl, hi, HK, HB, KP⟩ := hrel
    by_cases hlt : i < m
    · have hil : i < d.waits.length := by rw [← HM.out]; exact hlt
      obtain ⟨g2, c2', e, hg2, hg2l, hcs2, d0, d1⟩ := HK.out.wait_cell i hil
      have hwk := HO.out.wait _ (List.getElem_mem hil)
      have htk : d.waits.take (i + 1) = d.waits.take i ++ [d.waits[i]] := List.take_succ_eq_append_getElem hil
      simp only at d0 d1
      generalize hp : d.waits[i] = p at *
      obtain ⟨at_, b⟩ := p
      simp only at d0 d1 hwk
      have hal : at_ < (syncL d.sure (d.waits.take i)).length := by rw [syncL_len]; exact hwk.1
      have HSN := Lib.hid (show syncL d.sure (d.waits.take (i + 1)) = (syncL d.sure (d.waits.take i)).set at_ b by rw [htk, syncL_snoc])
      clear htk hp hwk
      generalize hsu : syncL d.sure (d.waits.take i) = su at *
      have HSU := Lib.hid hsu; clear hsu
      have hA : A = some ⟨g2, 0, none⟩ := by cases e; rfl
      subst hA
      clear e
      have hw := succ_w hlt hml
      have HW := Lib.hid hw; clear hw
      go_wp2
      have HK := Lib.hid (HK.out.alloc (.cells #[.int .i64 at_, .string b] 73))
      have HC := Lib.hid (blk_new wr (.cells #[.int .i64 at_, .string b] 73))
      have HB := Lib.hid (HB.out.alloc (Nat.le_trans hbw HB.out.size) (.cells #[.int .i64 at_, .string b] 73))
      have KP := Lib.hid (KP.out.alloc (.cells #[.int .i64 at_, .string b] 73))
      clear d0 d1 hcs2 hg2l
      generalize wr.alloc (.cells #[.int .i64 at_, .string b] 73) = w1 at *
      generalize wr.heap.size = bb at *
      obtain ⟨g, cv, e, hg, hgl, hcc, hff⟩ := HK.out.sure_cell at_ hal
      cases e
      simp only at hcc hff
      have hai : (0 : Int) ≤ (at_ : Int) ∧ (at_ : Int) < (su.length : Int) := by omega
      refine start_ (n := 10) (S := fun w' => w'.cell? ⟨h, 0, none⟩ = some (.slice (some ⟨g, 0, none⟩) su.length cV) ∧ w'.cell? ⟨bb, 0, none⟩ = some (.int .i64 at_) ∧ w'.cell? ⟨bb, 1, none⟩ = some (.string b)) (ds := [9]) #[false, false, false, false, false, false, false, false, false, false] (by kernel_rfl) rfl rfl ⟨HK.out.dk.c0, (blk_cell HC.out 0).trans rfl, (blk_cell HC.out 1).trans rfl⟩ (fun hHeld => ?_)
      have HB := Lib.hid (below_drew HB.out)
      have KP := Lib.hid KP.out.drew
      have HK := Lib.hid HK.out.drew
      have HC := Lib.hid (blk_drew HC.out)
      refine pure_ (i := 0) (N := some 18) (v := ?_) (a' := ?_) #[true, false, false, false, false, false, false, false, false, false] rfl rfl (by kernel_rfl) (fun _ _ _ h => h) (Or.inl ⟨by rfl, ?_⟩) ?_ ?_
      rotate_left
      · intro w'
        go_simp
        with_reducible rfl
      rotate_left
      · simp only [Act.put, List.setIfInBounds_toArray, List.set_cons_zero, List.set_cons_succ, i64_w, i32_w]
        rfl
      refine pure_ (i := 1) (N := some 19) (v := ?_) (a' := ?_) #[true, true, false, false, false, false, false, false, false, false] rfl rfl (by kernel_rfl) (fun _ _ _ h => h) (Or.inl ⟨by rfl, ?_⟩) ?_ ?_
      rotate_left
      · intro w'
        go_simp
        with_reducible rfl
      rotate_left
      · simp only [Act.put, List.setIfInBounds_toArray, List.set_cons_zero, List.set_cons_succ, i64_w, i32_w]
        rfl
      refine pure_ (i := 2) (N := some 20) (v := ?_) (a' := ?_) #[true, true, true, false, false, false, false, false, false, false] rfl rfl (by kernel_rfl) (fun _ _ _ h => h) (Or.inl ⟨by rfl, ?_⟩) ?_ ?_
      rotate_left
      · intro w'
        go_simp
        with_reducible rfl
      rotate_left
      · simp only [Act.put, List.setIfInBounds_toArray, List.set_cons_zero, List.set_cons_succ, i64_w, i32_w]
        rfl
      refine pure_ (i := 4) (N := some 22) (v := ?_) (a' := ?_) #[true, true, true, false, true, false, false, false, false, false] rfl rfl (by kernel_rfl) (fun _ _ _ h => h) (Or.inl ⟨by rfl, ?_⟩) ?_ ?_
      rotate_left
      · intro w'
        go_simp
        with_reducible rfl
      rotate_left
      · simp only [Act.put, List.setIfInBounds_toArray, List.set_cons_zero, List.set_cons_succ, i64_w, i32_w]
        rfl
      refine pure_ (i := 6) (N := some 24) (v := ?_) (a' := ?_) #[true, true, true, false, true, false, true, false, false, false] rfl rfl (by kernel_rfl) (fun _ _ _ h => h) (Or.inl ⟨by rfl, ?_⟩) ?_ ?_
      rotate_left
      · intro w'
        go_simp
        with_reducible rfl
      rotate_left
      · simp only [Act.put, List.setIfInBounds_toArray, List.set_cons_zero, List.set_cons_succ, i64_w, i32_w]
        rfl
      refine take_ (i := 3) (N := some 21) (v := ?_) (a' := ?_) #[true, true, true, true, true, false, true, false, false, false] rfl rfl (by kernel_rfl) (fun _ _ _ h => h) (Or.inl ⟨by rfl, ?_⟩) hHeld ?_ ?_
      rotate_left
      · rintro w' ⟨s0, s1, s2⟩
        go_simp
        with_reducible rfl
      rotate_left
      · simp only [Act.put, List.setIfInBounds_toArray, List.set_cons_zero, List.set_cons_succ, i64_w, i32_w]
        rfl
      refine take_ (i := 5) (N := some 23) (v := ?_) (a' := ?_) #[true, true, true, true, true, true, true, false, false, false] rfl rfl (by kernel_rfl) (fun _ _ _ h => h) (Or.inl ⟨by rfl, ?_⟩) hHeld ?_ ?_
      rotate_left
      · rintro w' ⟨s0, s1, s2⟩
        go_simp
        with_reducible rfl
      rotate_left
      · simp only [Act.put, List.setIfInBounds_toArray, List.set_cons_zero, List.set_cons_succ, i64_w, i32_w]
        rfl
      refine take_ (i := 7) (N := some 25) (v := ?_) (a' := ?_) #[true, true, true, true, true, true, true, true, false, false] rfl rfl (by kernel_rfl) (fun _ _ _ h => h) (Or.inl ⟨by rfl, ?_⟩) hHeld ?_ ?_
      rotate_left
      · rintro w' ⟨s0, s1, s2⟩
        go_simp
        with_reducible rfl
      rotate_left
      · simp only [Act.put, List.setIfInBounds_toArray, List.set_cons_zero, List.set_cons_succ, i64_w, i32_w]
        rfl
      refine pure_ (i := 8) (N := some 26) (v := ?_) (a' := ?_) #[true, true, true, true, true, true, true, true, true, false] rfl rfl (by kernel_rfl) (fun _ _ _ h => h) (Or.inl ⟨by rfl, ?_⟩) ?_ ?_
      rotate_left
      · intro w'
        go_simp
        with_reducible rfl
      rotate_left
      · simp only [Act.put, List.setIfInBounds_toArray, List.set_cons_zero, List.set_cons_succ, i64_w, i32_w]
        rfl
      refine last_ (i := 9) (N := none) #[true, true, true, true, true, true, true, true, true, true] rfl rfl (by kernel_rfl) (by decide) (fun K hK => ?_)
      refine skip_ (w1 := ?_) (by rfl) rfl ?_ ?_
      rotate_left
      · go_simp
        rfl
      refine hK.out _ _ ?_
      clear hK K
      refine done_ (by kernel_rfl) ?_

      have HK := Lib.hid (show Dk ((w1.setCell ⟨g, at_, none⟩ (.string b)).drew) base h (.slice (some ⟨g, 0, none⟩) su.length cV) (.slice (some ⟨g2, 0, none⟩) m c) ⟨su.set at_ b, d.waits, d.fuse, d.gone⟩ from HK.out.put (d := ⟨su, d.waits, d.fuse, d.gone⟩) at_ hal b)
      have HB := Lib.hid (show Below base w ((w1.setCell ⟨g, at_, none⟩ (.string b)).drew) from below_setc (p := ⟨g, at_, none⟩) HB.out hg _)
      have KP := Lib.hid (show Keeps _ w ((w1.setCell ⟨g, at_, none⟩ (.string b)).drew) from KP.out.set (p := ⟨g, at_, none⟩) (.inl (.inr (.inl rfl))) _)
      generalize (w1.setCell ⟨g, at_, none⟩ (Value.string b)).drew = w2 at *
      clear hHeld hcc hff hai
      have hw := HW.out
      go_wp2
      go_roundw
      case rel => exact ⟨i + 1, by go_num, hlt, by rw [HSN.out]; exact HK, HB, KP⟩
      case measure => first | exact up_w hlt hw | exact up_w2 hlt
    · obtain rfl : i = m := by omega
      have ht : d.waits.take i = d.waits := List.take_of_length_le (by rw [HM.out]; exact Nat.le_refl _)
      rw [ht] at HK
      clear ht
      have c1 := HK.out.dk.c1
      have f1 := HK.out.dk.f 1
      go_wp2
      go_ret
      exact ⟨rfl, HK.out.none1, below_setc (p := ⟨h, 1, none⟩) HB.out HK.out.hb _, KP.out.set (p := ⟨h, 1, none⟩) (.inl (.inl rfl)) _⟩
theorem dk_sync {w : World} {base h : Nat} {V W : Value} {d : DkS} (k : Dk w base h V W d) (ho : d.Ok) (hgo : d.gone = false) (hl : d.waits.length ≤ 1000000) (hbw : base ≤ w.heap.size) :
    Calls Try.prog 12 #[.pointer (some ⟨h, 0, none⟩)] w fun e w' => e = .returned (.int .i64 0) ∧ Dk w' base h V (.slice none 0 0) (syncS d) ∧ Below base w w' :=
  (dk_syncK k ho hgo hl hbw).mono fun e w' ⟨h1, h2, h3, _⟩ => ⟨h1, h2, h3⟩
def fuseS (d : DkS) (n : Int) : DkS := if d.gone = true then d else ⟨d.sure, d.waits, max n (-1), decide (n = 0)⟩
theorem fuseS_ok {d : DkS} (h : d.Ok) {n : Int} (hn : n ≤ 9223372036854775807) : (fuseS d n).Ok := by
  unfold fuseS
  split
  · exact h
  · exact ⟨h.len, h.size, h.wait, by simp only; omega⟩
set_option maxRecDepth 100000 in
theorem dk_fuseK {w : World} {base h : Nat} {V W : Value} {d : DkS} (k : Dk w base h V W d) (n : Int) :
    Calls Try.prog 17 #[.pointer (some ⟨h, 0, none⟩), .int .i64 n] w fun e w' => e = .returned (.tuple #[]) ∧ Dk w' base h V W (fuseS d n) ∧ Below base w w' ∧ Keeps (OwnD h V W) w w' := by
  have HK := Lib.hid k
  have c2 := k.dk.c2
  have c3 := k.dk.c3
  have f2 := k.dk.f 2
  have f3 := k.dk.f 3
  clear k
  unfold fuseS
  cases hg : d.gone with
  | true =>
    rw [hg] at c3
    rw [if_pos rfl]
    clear hg
    go_enter Try.func17, Try.ntmps17
    go_wp2
    go_end0
    exact ⟨rfl, HK.out, Below.refl _ _, Keeps.refl _ _⟩
  | false =>
    rw [hg] at c3
    rw [if_neg (by decide)]
    clear hg
    have HD := Lib.hid (show decide (n = 0) = (n == 0) by by_cases e : n = 0 <;> simp [e])
    go_enter Try.func17, Try.ntmps17
    go_wp2
    go_end0
    refine ⟨rfl, ?_, ?_, ?_⟩
    · first | exact (HK.out.set2 _).set3 _ | (rw [HD.out]; exact (HK.out.set2 _).set3 _)
    · exact below_setc (p := ⟨h, 3, none⟩) (below_setc (p := ⟨h, 2, none⟩) (Below.refl _ _) HK.out.hb _) HK.out.hb _
    · exact ((Keeps.refl _ w).set (p := ⟨h, 2, none⟩) (.inl (.inl rfl)) _).set (p := ⟨h, 3, none⟩) (.inl (.inl rfl)) _
theorem dk_fuse {w : World} {base h : Nat} {V W : Value} {d : DkS} (k : Dk w base h V W d) (n : Int) :
    Calls Try.prog 17 #[.pointer (some ⟨h, 0, none⟩), .int .i64 n] w fun e w' => e = .returned (.tuple #[]) ∧ Dk w' base h V W (fuseS d n) ∧ Below base w w' :=
  (dk_fuseK k n).mono fun e w' ⟨h1, h2, h3, _⟩ => ⟨h1, h2, h3⟩
end Go.Proofs.Ytoandabafkdgjaa.My
