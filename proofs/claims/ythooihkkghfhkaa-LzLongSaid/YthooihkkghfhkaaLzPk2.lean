/- lz: packer in memory; note, copy. -/
import Derived.Test.YthooihkkghfhkaaLzPk
import Derived.Carry
namespace Go.Proofs.Ythooihkkghfhkaa.My
set_option linter.unusedSimpArgs false
set_option linter.unusedVariables false
open Go.RowKit Go.Proofs.YthooihkkghfhkaaW.PrintWords Go.Proofs.YthooihkkghfhkaaW.PrintLast Go.Proofs.Ythooihkkghfhkaa.Pm
open Go.Maps (Keyed)

theorem run_mapup {P : Program} {o : Oper} {a : Act} {w w' : World} (t : TypeId) (m x v : Operand) (ho : o.op = .mapUpdate t m x v) (b : Nat) (key val : Value) (hm : a.eval m = .map (some b)) (hx : a.eval x = key) (hv : a.eval v = val)
    (h : (Instr.mapUpdate t (.map (some b)) key val).run P w = .ok () w') : (execOp a.eval o).run P w = .ok .skip w' := by
  unfold execOp
  simp [ho, hm, hx, hv, Sem.run_bind, h, Result.andThen_ok]
theorem run_look {P : Program} {o : Oper} {a : Act} {w : World} (t : TypeId) (m x : Operand) (c : Bool) (ho : o.op = .lookup t m x c) (b : Nat) (key r : Value) (hm : a.eval m = .map (some b)) (hx : a.eval x = key)
    (h : (Instr.lookup t (.map (some b)) key c).run P w = .ok r w) : (execOp a.eval o).run P w = .ok (.value r) w := by
  unfold execOp
  simp [ho, hm, hx, Sem.run_bind, h, Result.andThen_ok]
/-- A packer in memory. -/
def IsPk (w : World) (h : Nat) (s : ByteArray) (mb : Nat) (v : Value) (pl : Nat) : Prop := w.heap[h]? = some (.cells #[.string s, .map (some mb), v, .int .i64 pl] 72 (0, 0))
section
variable {w : World} {h mb pl : Nat} {s : ByteArray} {v : Value}
theorem IsPk.c0 (k : IsPk w h s mb v pl) : w.cell? ⟨h, 0, none⟩ = some (.string s) := (blk_cell k 0).trans rfl
theorem IsPk.c1 (k : IsPk w h s mb v pl) : w.cell? ⟨h, 1, none⟩ = some (.map (some mb)) := (blk_cell k 1).trans rfl
theorem IsPk.c2 (k : IsPk w h s mb v pl) : w.cell? ⟨h, 2, none⟩ = some v := (blk_cell k 2).trans rfl
theorem IsPk.c3 (k : IsPk w h s mb v pl) : w.cell? ⟨h, 3, none⟩ = some (.int .i64 pl) := (blk_cell k 3).trans rfl
theorem IsPk.f (k : IsPk w h s mb v pl) (i : Nat) : w.frozen? ⟨h, i, none⟩ = false := blk_frozen k i
end
/-- All that a packer holds: its bytes, what is noted, the out. -/
structure Pk (w : World) (base h mb : Nat) (s : ByteArray) (v : Value) (o : List UInt8) (pl hi : Nat) : Prop where
  pk : IsPk w h s mb v pl
  mp : ∃ f, MapIs Try.prog 75 w mb f ∧ Noted s hi f
  out : Byt w base v o
  hb : base ≤ h
  gb : base ≤ mb
section
variable {w w1 : World} {base h mb pl hi : Nat} {s : ByteArray} {v : Value} {o : List UInt8}
theorem Pk.below (k : Pk w base h mb s v o pl hi) (hb : Below w.heap.size w w1) : Pk w1 base h mb s v o pl hi := by
  obtain ⟨f, h1, h2⟩ := k.mp
  exact ⟨blk_below k.pk hb, ⟨f, h1.below hb, h2⟩, k.out.below hb, k.hb, k.gb⟩
theorem Pk.drew (k : Pk w base h mb s v o pl hi) : Pk w.drew base h mb s v o pl hi := k.below (below_drew (Below.refl _ _))
theorem Byt.nemap {base b : Nat} {v : Value} {o : List UInt8} {f : Value → Option Value} {kt : TypeId} (h : Byt w base v o) (m : MapIs Try.prog kt w b f) : some b ≠ v.ownBlock := fun e => by
  obtain ⟨cells, hc⟩ := own_typed h b e.symm
  exact m.ne hc rfl
/-- The map has been turned. -/
theorem Pk.noted (k : Pk w base h mb s v o pl hi) {f : Value → Option Value} {hi' : Nat} (hm : MapIs Try.prog 75 w1 mb f) (hn : Noted s hi' f) (hk : Keeps (Only mb) w w1) : Pk w1 base h mb s v o pl hi' := by
  obtain ⟨f0, m0, -⟩ := k.mp
  exact ⟨hk.blk k.pk (fun e => m0.ne k.pk e.symm), ⟨f, hm, hn⟩, k.out.keeps hk (fun i hi hlt => by cases hi; exact k.out.nemap m0), k.hb, k.gb⟩
/-- The out's row has been written, its new value is stored. -/
theorem Pk.put {o' : List UInt8} {v' : Value} (k : Pk w base h mb s v o pl hi) (hg : w.grownBy w1 v.ownBlock) (ho : Byt w1 base v' o') : Pk (w1.setCell ⟨h, 2, none⟩ v') base h mb s v' o' pl hi := by
  obtain ⟨f, m0, hn⟩ := k.mp
  have h1 : IsPk w1 h s mb v pl := blk_grown k.pk hg (k.out.ne k.pk (by decide))
  have h2 := m0.grown hg (k.out.nemap m0)
  exact ⟨blk_set h1 2 v', ⟨f, h2.far (p := ⟨h, 2, none⟩) (m0.ne k.pk) _, hn⟩, ho.set h1 (by decide) 2 _, k.hb, k.gb⟩
theorem Pk.set3 (k : Pk w base h mb s v o pl hi) (n : Nat) : Pk (w.setCell ⟨h, 3, none⟩ (.int .i64 n)) base h mb s v o n hi := by
  obtain ⟨f, m0, hn⟩ := k.mp
  exact ⟨blk_set k.pk 3 _, ⟨f, m0.far (p := ⟨h, 3, none⟩) (m0.ne k.pk) _, hn⟩, k.out.set k.pk (by decide) 3 _, k.hb, k.gb⟩
theorem Pk.mono (k : Pk w base h mb s v o pl hi) {hi' : Nat} (hh : hi ≤ hi') : Pk w base h mb s v o pl hi' := by
  obtain ⟨f, m0, hn⟩ := k.mp
  exact ⟨k.pk, ⟨f, m0, hn.mono hh⟩, k.out, k.hb, k.gb⟩
end
theorem plus4 {i : Nat} (h : i ≤ 140737488351232) : wrap64 ((i : Int) + 4) = ((i + 4 : Nat) : Int) ∧ IntKind.i64.wrap ((i : Int) + 4) = ((i + 4 : Nat) : Int) := by
  have h1 : wrap64 ((i : Int) + 4) = ((i + 4 : Nat) : Int) := by rw [wrap64_id (by omega) (by omega)]; omega
  exact ⟨h1, (i64_w _).trans h1⟩
set_option maxRecDepth 100000 in
set_option maxHeartbeats 8000000 in
theorem pk_note (w : World) (base h mb fr tt pl : Nat) (s : ByteArray) (v : Value) (o : List UInt8) (K : Pk w base h mb s v o pl fr) (hft : fr ≤ tt) (ht : tt ≤ s.size) (hs : s.size ≤ 140737488351232) (hbw : base ≤ w.heap.size) :
    Calls Try.prog 40 #[.pointer (some ⟨h, 0, none⟩), .int .i64 fr, .int .i64 tt] w fun e w' => e = .returned (.tuple #[]) ∧ Pk w' base h mb s v o pl tt ∧ Below base w w' := by
  have HU := Lib.hid K; clear K
  have HB := Lib.hid (Below.refl base w)
  go_enter Try.func40, Try.ntmps40
  go_wp2
  go_loopw [6] (fun v6 wr => ∃ i : Nat, v6 = .int .i64 i ∧ i ≤ tt ∧ Hid (Pk wr base h mb s v o pl i) ∧ Hid (Below base w wr)) (fun v6 _ => tt - (intOf v6).toNat)
  case atStart => exact ⟨fr, rfl, hft, HU, HB⟩
  case round =>
    clear HU HB
    obtain ⟨i, rfl, hi, HU, HB⟩ := hrel
    have c0 := HU.out.pk.c0
    have c1 := HU.out.pk.c1
    have his : i ≤ 140737488351232 := by omega
    by_cases hlt : i < tt
    · have x0 : decide ((i : Int) < (tt : Int)) = true := by simp; omega
      have x0n : decide (i < tt) = true := by simp; omega
      by_cases h4 : i + 4 ≤ s.size
      · have x1 : decide ((i + 4 : Nat) ≤ s.size) = true := by simp; omega
        have x2 : decide ((i : Int) + 4 ≤ (s.size : Int)) = true := by simp; omega
        have x3 : (i : Int) + 4 ≤ (s.size : Int) := by omega
        have x4 : decide (((i + 4 : Nat) : Int) ≤ (s.size : Int)) = true := by simp; omega
        have hw := succ_wrap' hlt (show tt ≤ 140737488351232 by omega)
        have HW := Lib.hid hw; clear hw
        obtain ⟨e4, e4'⟩ := plus4 his
        have LA := Lib.hid (fun w => lz_at s i w h4 hs)
        obtain ⟨kl, hkl⟩ := k4_key s i
        have HKL := Lib.hid hkl; clear hkl
        generalize hk4 : k4 s i = key at *
        have HK4 := Lib.hid hk4; clear hk4
        go_wp2
        clear e4 e4' x1 x2 x3 x4
        refine start_ (n := 12) (S := fun w' => w'.cell? ⟨h, 0, none⟩ = some (.string s) ∧ w'.cell? ⟨h, 1, none⟩ = some (.map (some mb))) (ds := [11]) #[false, false, false, false, false, false, false, false, false, false, false, false] (by kernel_rfl) rfl rfl ⟨HU.out.pk.c0, HU.out.pk.c1⟩ (fun hHeld => ?_)
        have HB := Lib.hid (below_drew HB.out)
        have HU := Lib.hid HU.out.drew
        refine pure_ (i := 0) (N := some 23) (v := ?_) (a' := ?_) #[true, false, false, false, false, false, false, false, false, false, false, false] rfl rfl (by kernel_rfl) (fun _ _ _ h => h) (Or.inl ⟨by rfl, ?_⟩) ?_ ?_
        rotate_left
        · intro w'
          go_simp
          with_reducible rfl
        rotate_left
        · simp only [Act.put, List.setIfInBounds_toArray, List.set_cons_zero, List.set_cons_succ, i64_w, i32_w]
          rfl
        refine pure_ (i := 1) (N := some 24) (v := ?_) (a' := ?_) #[true, true, false, false, false, false, false, false, false, false, false, false] rfl rfl (by kernel_rfl) (fun _ _ _ h => h) (Or.inl ⟨by rfl, ?_⟩) ?_ ?_
        rotate_left
        · intro w'
          go_simp
          with_reducible rfl
        rotate_left
        · simp only [Act.put, List.setIfInBounds_toArray, List.set_cons_zero, List.set_cons_succ, i64_w, i32_w]
          rfl
        refine pure_ (i := 2) (N := some 25) (v := ?_) (a' := ?_) #[true, true, true, false, false, false, false, false, false, false, false, false] rfl rfl (by kernel_rfl) (fun _ _ _ h => h) (Or.inl ⟨by rfl, ?_⟩) ?_ ?_
        rotate_left
        · intro w'
          go_simp
          with_reducible rfl
        rotate_left
        · simp only [Act.put, List.setIfInBounds_toArray, List.set_cons_zero, List.set_cons_succ, i64_w, i32_w]
          rfl
        refine pure_ (i := 4) (N := some 27) (v := ?_) (a' := ?_) #[true, true, true, false, true, false, false, false, false, false, false, false] rfl rfl (by kernel_rfl) (fun _ _ _ h => h) (Or.inl ⟨by rfl, ?_⟩) ?_ ?_
        rotate_left
        · intro w'
          go_simp
          with_reducible rfl
        rotate_left
        · simp only [Act.put, List.setIfInBounds_toArray, List.set_cons_zero, List.set_cons_succ, i64_w, i32_w]
          rfl
        refine pure_ (i := 5) (N := some 28) (v := ?_) (a' := ?_) #[true, true, true, false, true, true, false, false, false, false, false, false] rfl rfl (by kernel_rfl) (fun _ _ _ h => h) (Or.inl ⟨by rfl, ?_⟩) ?_ ?_
        rotate_left
        · intro w'
          go_simp
          with_reducible rfl
        rotate_left
        · simp only [Act.put, List.setIfInBounds_toArray, List.set_cons_zero, List.set_cons_succ, i64_w, i32_w]
          rfl
        refine pure_ (i := 6) (N := some 29) (v := ?_) (a' := ?_) #[true, true, true, false, true, true, true, false, false, false, false, false] rfl rfl (by kernel_rfl) (fun _ _ _ h => h) (Or.inl ⟨by rfl, ?_⟩) ?_ ?_
        rotate_left
        · intro w'
          go_simp
          with_reducible rfl
        rotate_left
        · simp only [Act.put, List.setIfInBounds_toArray, List.set_cons_zero, List.set_cons_succ, i64_w, i32_w]
          rfl
        refine pure_ (i := 8) (N := some 31) (v := ?_) (a' := ?_) #[true, true, true, false, true, true, true, false, true, false, false, false] rfl rfl (by kernel_rfl) (fun _ _ _ h => h) (Or.inl ⟨by rfl, ?_⟩) ?_ ?_
        rotate_left
        · intro w'
          go_simp
          with_reducible rfl
        rotate_left
        · simp only [Act.put, List.setIfInBounds_toArray, List.set_cons_zero, List.set_cons_succ, i64_w, i32_w]
          rfl
        refine pure_ (i := 10) (N := some 33) (v := ?_) (a' := ?_) #[true, true, true, false, true, true, true, false, true, false, true, false] rfl rfl (by kernel_rfl) (fun _ _ _ h => h) (Or.inl ⟨by rfl, ?_⟩) ?_ ?_
        rotate_left
        · intro w'
          go_simp
          with_reducible rfl
        rotate_left
        · simp only [Act.put, List.setIfInBounds_toArray, List.set_cons_zero, List.set_cons_succ, i64_w, i32_w]
          rfl
        refine take_ (i := 3) (N := some 26) (v := ?_) (a' := ?_) #[true, true, true, true, true, true, true, false, true, false, true, false] rfl rfl (by kernel_rfl) (fun _ _ _ h => h) (Or.inl ⟨by rfl, ?_⟩) hHeld ?_ ?_
        rotate_left
        · rintro w' ⟨s0, s1⟩
          go_simp
          with_reducible rfl
        rotate_left
        · simp only [Act.put, List.setIfInBounds_toArray, List.set_cons_zero, List.set_cons_succ, i64_w, i32_w]
          rfl
        refine take_ (i := 7) (N := some 30) (v := ?_) (a' := ?_) #[true, true, true, true, true, true, true, true, true, false, true, false] rfl rfl (by kernel_rfl) (fun _ _ _ h => h) (Or.inl ⟨by rfl, ?_⟩) hHeld ?_ ?_
        rotate_left
        · rintro w' ⟨s0, s1⟩
          go_simp
          with_reducible rfl
        rotate_left
        · simp only [Act.put, List.setIfInBounds_toArray, List.set_cons_zero, List.set_cons_succ, i64_w, i32_w]
          rfl
        refine one_ (i := 9) (N := some 32) #[true, true, true, true, true, true, true, true, true, true, true, false] rfl rfl (by kernel_rfl) (by decide) (fun K hK => ?_)
        refine goes_ Try.func39 (by kernel_rfl) rfl #[.string s, .int .i64 i] (by rfl) rfl rfl (by (try simp only [List.map_toArray, List.map_cons, List.map_nil]); first | done | rfl) ?_
        with_reducible refine (LA.out _).mono ?_
        rintro e w3 ⟨rfl, hb⟩
        refine ⟨_, rfl, ?_⟩
        have HB := Lib.hid (HB.out.trans (hb.mono (Nat.le_trans hbw HB.out.size)))
        have HU := Lib.hid (HU.out.below hb)
        refine hK.out _ _ ⟨HU.out.pk.c0, HU.out.pk.c1⟩ (fun hHeld => ?_)
        clear hK K
        refine norm_ (a' := ?_) ?_ ?_
        rotate_left
        · show Act.put _ (some 32) _ = _
          simp only [Act.put, List.setIfInBounds_toArray, List.set_cons_zero, List.set_cons_succ, i64_w, i32_w]
          rfl
        refine last_ (i := 11) (N := none) #[true, true, true, true, true, true, true, true, true, true, true, true] rfl rfl (by kernel_rfl) (by decide) (fun K hK => ?_)
        obtain ⟨f, hm, hn⟩ := HU.out.mp
        obtain ⟨w5, hrun, hm5, hk5⟩ := hm.update four_keyed Try.underlying70 HKL.out (.int .i64 (i : Int))
        have HU5 := Lib.hid (HU.out.noted hm5 (by rw [← HK4.out]; exact hn.put i h4 (Nat.le_succ _)) hk5)
        have HB5 := Lib.hid (HB.out.trans (hk5.to_below (Nat.le_trans hbw HB.out.size) (fun q hq => by cases hq; exact HU.out.gb)))
        refine skip_ (w1 := w5) (by rfl) rfl (run_mapup 70 (.tmp 26) (.tmp 32) (.tmp 33) rfl mb _ _ rfl rfl rfl hrun) ?_
        refine hK.out _ _ ?_
        clear hK K
        refine done_ (by kernel_rfl) ?_

        clear c0 c1 hHeld
        have hw := HW.out
        go_wp2
        go_roundw
        case rel => exact ⟨i + 1, by go_num, by clear hw; omega, HU5, HB5⟩
        case measure => first | exact up_meas' hlt hw | exact up_meas2' hlt
      · have x1 : decide ((i + 4 : Nat) ≤ s.size) = false := by simp; omega
        have x2 : decide ((i : Int) + 4 ≤ (s.size : Int)) = false := by simp; omega
        have x3 : ¬ (i : Int) + 4 ≤ (s.size : Int) := by omega
        have x4 : decide (((i + 4 : Nat) : Int) ≤ (s.size : Int)) = false := by simp; omega
        obtain ⟨e4, e4'⟩ := plus4 his
        go_wp2
        go_end0
        exact ⟨rfl, HU.out.mono hi, HB.out⟩
    · obtain rfl : i = tt := by omega
      have x0 : decide ((i : Int) < (i : Int)) = false := by simp
      go_wp2
      go_end0
      exact ⟨rfl, HU.out, HB.out⟩

section
variable {P : Program} {ops : Array Oper} {o : Oper} {a : Act} {Q : Exit → Act → World → Prop} {Kc : Act → World → Prop}
/-- append(v, s...), s a string, as one step of a region that draws. -/
theorem app_str_step {w0 W : World} (base : Nat) (hw : Region.wanted o (yielded ops a.tmps) = true) (s x : Operand) (v : Value) (xs : List UInt8) (y : ByteArray)
    (ho : o.op = .call { callee := .builtin .append, args := #[s, x], argTypes := #[47, 9] }) (hs : a.eval s = v) (hx : a.eval x = .string y)
    (HO : Byt W base v xs) (HB : Below base w0 W) (hbase : base ≤ W.heap.size) (hl : xs.length + y.size ≤ 140737488355328)
    (h : ∀ v1 w1, Hid (Byt w1 base v1 (xs ++ bl y)) → Hid (Below base w0 w1) → Hid (W.grownBy w1 v.ownBlock) → Kc (a.put o.dst v1) w1) :
    if Region.wanted o (yielded ops a.tmps) = true then Oper.wp Try.prog o a W Kc Q else Kc (a.put o.dst undef) W := by
  obtain ⟨i0, hi, hzz⟩ := Option.map_eq_some_iff.1 info_u8
  simp only [Prod.mk.injEq] at hzz
  obtain ⟨hz0, hz1, hz2⟩ := hzz
  rw [if_pos hw]
  obtain ⟨v1, w1, hr, hown, hg, -⟩ := Lib.run_append_own_string (P := Try.prog) W base 47 9 o.type 5 i0 Try.underlying47 Try.underlying9 hi hz0 hz1 hz2 v xs.length (nums .u8 (nb xs)) HO y (by simp only [maxLen]; omega) hl hbase
  unfold Oper.wp execOp
  simp only [ho, resolve, invoke, builtin, Sem.run_bind, Sem.run_pure, Result.andThen_ok, List.map_toArray, List.map_cons, List.map_nil, hs, hx, hr]
  refine h v1 w1 ?_ (HB.grown hg hbase (own_base HO)) hg
  have hl2 : (xs ++ bl y).length = xs.length + y.size := by rw [List.length_append, bl_length]
  have hc : nums .u8 (nb (xs ++ bl y)) = nums .u8 (nb xs) ++ Lib.strCells y := by
    rw [nb_append, nums_append]
    congr 1
    simp [nums, nb, Lib.strCells, bl]
  show w1.ownsRow base 5 1 v1 (xs ++ bl y).length (nums .u8 (nb (xs ++ bl y)))
  rw [hl2, hc]
  exact hown
end
set_option maxRecDepth 100000 in
set_option maxHeartbeats 8000000 in
theorem pk_copy (w : World) (base h mb i d l pl hi : Nat) (s : ByteArray) (v : Value) (o : List UInt8) (K : Pk w base h mb s v o pl hi) (hs : s.size ≤ 60000) (hpl : pl ≤ i) (hil : i + l ≤ s.size) (hd : d ≤ 60000) (hhi : hi ≤ i) (ho : o.length ≤ 10000000) (hbw : base ≤ w.heap.size) :
    Calls Try.prog 42 #[.pointer (some ⟨h, 0, none⟩), .int .i64 i, .int .i64 d, .int .i64 l] w fun e w' => e = .returned (.tuple #[]) ∧ (∃ v', Pk w' base h mb s v' (o ++ bl (textS (s.extract pl i)) ++ bl (uvS d ++ uvS l)) (i + l) (i + l)) ∧ Below base w w' := by
  have HU := Lib.hid K; clear K
  have HB := Lib.hid (Below.refl base w)
  have TX := Lib.hid (fun w => text_any (s.extract pl i) w (by rw [ByteArray.size_extract]; omega))
  have hts : (textS (s.extract pl i)).size ≤ 60010 := by
    unfold textS
    have hx : (s.extract pl i).size = i - pl := by rw [ByteArray.size_extract]; omega
    rw [ByteArray.size_append, hx, uvS_size]
    have := uv_len10 (n := i - pl) (by omega)
    omega
  have U1 := Lib.hid (fun w => uint_any d w (by omega))
  have U2 := Lib.hid (fun w => uint_any l w (by omega))
  have z1 : (uvS d).size ≤ 10 := by rw [uvS_size]; exact uv_len10 (by omega)
  have z2 : (uvS l).size ≤ 10 := by rw [uvS_size]; exact uv_len10 (by omega)
  have y1 : IntKind.u64.wrap (d : Int) = (d : Int) := wrap_u64_nat (by omega)
  have y2 : IntKind.u64.wrap (l : Int) = (l : Int) := wrap_u64_nat (by omega)
  have hi2 : i ≤ s.size := by omega
  obtain ⟨y3, y4⟩ := idx_wrap' (a := i) (n := l) (k := s.size) hil (by omega)
  generalize textS (s.extract pl i) = t0 at *
  generalize uvS d = t1 at *
  generalize uvS l = t2 at *
  have hl1 : o.length + t0.size ≤ 140737488355328 := by clear y1 y2 y3 y4; omega
  have hl2 : (o ++ bl t0).length + (t1 ++ t2).size ≤ 140737488355328 := by clear y1 y2 y3 y4; rw [List.length_append, bl_length, ByteArray.size_append]; omega
  have q1 : (9223372036854775807 < t1.size + t2.size) = False := eq_false (by clear y1 y2 y3 y4; omega)
  have YY := Lib.hid (And.intro y1 (And.intro y2 (And.intro y3 y4)))
  clear y1 y2 y3 y4 z1 z2 hts
  obtain ⟨A, c, rfl⟩ := HU.out.out.slice
  go_enter Try.func42, Try.ntmps42
  go_wp2
  refine start_ (n := 20) (S := fun w' => w'.cell? ⟨h, 0, none⟩ = some (.string s) ∧ w'.cell? ⟨h, 2, none⟩ = some (.slice A o.length c) ∧ w'.cell? ⟨h, 3, none⟩ = some (.int .i64 pl)) (ds := [16, 19]) #[false, false, false, false, false, false, false, false, false, false, false, false, false, false, false, false, false, false, false, false] (by kernel_rfl) rfl rfl ⟨HU.out.pk.c0, HU.out.pk.c2, HU.out.pk.c3⟩ (fun hHeld => ?_)
  have HB := Lib.hid (below_drew HB.out)
  have HU := Lib.hid HU.out.drew
  refine pure_ (i := 0) (N := some 8) (v := ?_) (a' := ?_) #[true, false, false, false, false, false, false, false, false, false, false, false, false, false, false, false, false, false, false, false] rfl rfl (by kernel_rfl) (fun _ _ _ h => h) (Or.inl ⟨by rfl, ?_⟩) ?_ ?_
  rotate_left
  · intro w'
    go_simp
    with_reducible rfl
  rotate_left
  · simp only [Act.put, List.setIfInBounds_toArray, List.set_cons_zero, List.set_cons_succ, i64_w, i32_w]
    rfl
  refine pure_ (i := 1) (N := some 9) (v := ?_) (a' := ?_) #[true, true, false, false, false, false, false, false, false, false, false, false, false, false, false, false, false, false, false, false] rfl rfl (by kernel_rfl) (fun _ _ _ h => h) (Or.inl ⟨by rfl, ?_⟩) ?_ ?_
  rotate_left
  · intro w'
    go_simp
    with_reducible rfl
  rotate_left
  · simp only [Act.put, List.setIfInBounds_toArray, List.set_cons_zero, List.set_cons_succ, i64_w, i32_w]
    rfl
  refine pure_ (i := 2) (N := some 10) (v := ?_) (a' := ?_) #[true, true, true, false, false, false, false, false, false, false, false, false, false, false, false, false, false, false, false, false] rfl rfl (by kernel_rfl) (fun _ _ _ h => h) (Or.inl ⟨by rfl, ?_⟩) ?_ ?_
  rotate_left
  · intro w'
    go_simp
    with_reducible rfl
  rotate_left
  · simp only [Act.put, List.setIfInBounds_toArray, List.set_cons_zero, List.set_cons_succ, i64_w, i32_w]
    rfl
  refine pure_ (i := 3) (N := some 11) (v := ?_) (a' := ?_) #[true, true, true, true, false, false, false, false, false, false, false, false, false, false, false, false, false, false, false, false] rfl rfl (by kernel_rfl) (fun _ _ _ h => h) (Or.inl ⟨by rfl, ?_⟩) ?_ ?_
  rotate_left
  · intro w'
    go_simp
    with_reducible rfl
  rotate_left
  · simp only [Act.put, List.setIfInBounds_toArray, List.set_cons_zero, List.set_cons_succ, i64_w, i32_w]
    rfl
  refine pure_ (i := 5) (N := some 13) (v := ?_) (a' := ?_) #[true, true, true, true, false, true, false, false, false, false, false, false, false, false, false, false, false, false, false, false] rfl rfl (by kernel_rfl) (fun _ _ _ h => h) (Or.inl ⟨by rfl, ?_⟩) ?_ ?_
  rotate_left
  · intro w'
    go_simp
    with_reducible rfl
  rotate_left
  · simp only [Act.put, List.setIfInBounds_toArray, List.set_cons_zero, List.set_cons_succ, i64_w, i32_w]
    rfl
  refine pure_ (i := 6) (N := some 14) (v := ?_) (a' := ?_) #[true, true, true, true, false, true, true, false, false, false, false, false, false, false, false, false, false, false, false, false] rfl rfl (by kernel_rfl) (fun _ _ _ h => h) (Or.inl ⟨by rfl, ?_⟩) ?_ ?_
  rotate_left
  · intro w'
    go_simp
    with_reducible rfl
  rotate_left
  · simp only [Act.put, List.setIfInBounds_toArray, List.set_cons_zero, List.set_cons_succ, i64_w, i32_w]
    rfl
  refine pure_ (i := 7) (N := some 15) (v := ?_) (a' := ?_) #[true, true, true, true, false, true, true, true, false, false, false, false, false, false, false, false, false, false, false, false] rfl rfl (by kernel_rfl) (fun _ _ _ h => h) (Or.inl ⟨by rfl, ?_⟩) ?_ ?_
  rotate_left
  · intro w'
    go_simp
    with_reducible rfl
  rotate_left
  · simp only [Act.put, List.setIfInBounds_toArray, List.set_cons_zero, List.set_cons_succ, i64_w, i32_w]
    rfl
  refine pure_ (i := 9) (N := some 17) (v := ?_) (a' := ?_) #[true, true, true, true, false, true, true, true, false, true, false, false, false, false, false, false, false, false, false, false] rfl rfl (by kernel_rfl) (fun _ _ _ h => h) (Or.inl ⟨by rfl, ?_⟩) ?_ ?_
  rotate_left
  · intro w'
    go_simp
    with_reducible rfl
  rotate_left
  · simp only [Act.put, List.setIfInBounds_toArray, List.set_cons_zero, List.set_cons_succ, i64_w, i32_w]
    rfl
  refine pure_ (i := 10) (N := some 18) (v := ?_) (a' := ?_) #[true, true, true, true, false, true, true, true, false, true, true, false, false, false, false, false, false, false, false, false] rfl rfl (by kernel_rfl) (fun _ _ _ h => h) (Or.inl ⟨by rfl, ?_⟩) ?_ ?_
  rotate_left
  · intro w'
    go_simp
    with_reducible rfl
  rotate_left
  · simp only [Act.put, List.setIfInBounds_toArray, List.set_cons_zero, List.set_cons_succ, i64_w, i32_w]
    rfl
  refine pure_ (i := 11) (N := some 19) (v := ?_) (a' := ?_) #[true, true, true, true, false, true, true, true, false, true, true, true, false, false, false, false, false, false, false, false] rfl rfl (by kernel_rfl) (fun _ _ _ h => h) (Or.inl ⟨by rfl, ?_⟩) ?_ ?_
  rotate_left
  · intro w'
    go_simp
    with_reducible rfl
  rotate_left
  · simp only [Act.put, List.setIfInBounds_toArray, List.set_cons_zero, List.set_cons_succ, i64_w, i32_w]
    rfl
  refine pure_ (i := 13) (N := some 21) (v := ?_) (a' := ?_) #[true, true, true, true, false, true, true, true, false, true, true, true, false, true, false, false, false, false, false, false] rfl rfl (by kernel_rfl) (fun _ _ _ h => h) (Or.inl ⟨by rfl, ?_⟩) ?_ ?_
  rotate_left
  · intro w'
    go_simp
    with_reducible rfl
  rotate_left
  · simp only [Act.put, List.setIfInBounds_toArray, List.set_cons_zero, List.set_cons_succ, i64_w, i32_w]
    rfl
  refine take_ (i := 4) (N := some 12) (v := ?_) (a' := ?_) #[true, true, true, true, true, true, true, true, false, true, true, true, false, true, false, false, false, false, false, false] rfl rfl (by kernel_rfl) (fun _ _ _ h => h) (Or.inl ⟨by rfl, ?_⟩) hHeld ?_ ?_
  rotate_left
  · rintro w' ⟨s0, s1, s2⟩
    go_simp
    with_reducible rfl
  rotate_left
  · simp only [Act.put, List.setIfInBounds_toArray, List.set_cons_zero, List.set_cons_succ, i64_w, i32_w]
    rfl
  refine take_ (i := 8) (N := some 16) (v := ?_) (a' := ?_) #[true, true, true, true, true, true, true, true, true, true, true, true, false, true, false, false, false, false, false, false] rfl rfl (by kernel_rfl) (fun _ _ _ h => h) (Or.inl ⟨by rfl, ?_⟩) hHeld ?_ ?_
  rotate_left
  · rintro w' ⟨s0, s1, s2⟩
    go_simp
    with_reducible rfl
  rotate_left
  · simp only [Act.put, List.setIfInBounds_toArray, List.set_cons_zero, List.set_cons_succ, i64_w, i32_w]
    rfl
  refine take_ (i := 12) (N := some 20) (v := ?_) (a' := ?_) #[true, true, true, true, true, true, true, true, true, true, true, true, true, true, false, false, false, false, false, false] rfl rfl (by kernel_rfl) (fun _ _ _ h => h) (Or.inl ⟨by rfl, ?_⟩) hHeld ?_ ?_
  rotate_left
  · rintro w' ⟨s0, s1, s2⟩
    go_simp
    with_reducible rfl
  rotate_left
  · simp only [Act.put, List.setIfInBounds_toArray, List.set_cons_zero, List.set_cons_succ, i64_w, i32_w]
    rfl
  refine pure_ (i := 14) (N := some 22) (v := ?_) (a' := ?_) #[true, true, true, true, true, true, true, true, true, true, true, true, true, true, true, false, false, false, false, false] rfl rfl (by kernel_rfl) (fun _ _ _ h => h) (Or.inl ⟨by rfl, ?_⟩) ?_ ?_
  rotate_left
  · intro w'
    go_simp
    with_reducible rfl
  rotate_left
  · simp only [Act.put, List.setIfInBounds_toArray, List.set_cons_zero, List.set_cons_succ, i64_w, i32_w]
    rfl
  refine one_ (i := 15) (N := some 23) #[true, true, true, true, true, true, true, true, true, true, true, true, true, true, true, true, false, false, false, false] rfl rfl (by kernel_rfl) (by decide) (fun K hK => ?_)
  refine goes_ Try.func43 (by kernel_rfl) rfl #[.string (s.extract pl i)] (by rfl) rfl rfl (by (try simp only [List.map_toArray, List.map_cons, List.map_nil]); first | done | rfl) ?_
  with_reducible refine (TX.out _).mono ?_
  rintro e w3 ⟨rfl, hb⟩
  refine ⟨_, rfl, ?_⟩
  have HB := Lib.hid (HB.out.trans (hb.mono (Nat.le_trans hbw HB.out.size)))
  have HU := Lib.hid (HU.out.below hb)
  refine hK.out _ _ ⟨HU.out.pk.c0, HU.out.pk.c2, HU.out.pk.c3⟩ (fun hHeld => ?_)
  clear hK K
  refine norm_ (a' := ?_) ?_ ?_
  rotate_left
  · show Act.put _ (some 23) _ = _
    simp only [Act.put, List.setIfInBounds_toArray, List.set_cons_zero, List.set_cons_succ, i64_w, i32_w]
    rfl
  refine last_ (i := 16) (N := some 24) #[true, true, true, true, true, true, true, true, true, true, true, true, true, true, true, true, true, false, false, false] rfl rfl (by kernel_rfl) (by decide) (fun K hK => ?_)
  refine app_str_step (w0 := w) base (by rfl) (.tmp 12) (.tmp 23) _ o t0 rfl rfl rfl HU.out.out HB.out (Nat.le_trans hbw HB.out.size) hl1 ?_
  intro v1 w5 HO1 HB1 HG1
  refine hK.out _ _ ?_
  clear hK K
  refine norm_ (a' := ?_) ?_ ?_
  rotate_left
  · show Act.put _ (some 24) _ = _
    simp only [Act.put, List.setIfInBounds_toArray, List.set_cons_zero, List.set_cons_succ, i64_w, i32_w]
    rfl
  refine pure_ (i := 17) (N := some 25) (v := ?_) (a' := ?_) #[true, true, true, true, true, true, true, true, true, true, true, true, true, true, true, true, true, true, false, false] rfl rfl (by kernel_rfl) (fun _ _ _ h => h) (Or.inl ⟨by rfl, ?_⟩) ?_ ?_
  rotate_left
  · intro w'
    go_simp
    with_reducible rfl
  rotate_left
  · simp only [Act.put, List.setIfInBounds_toArray, List.set_cons_zero, List.set_cons_succ, i64_w, i32_w]
    rfl
  refine pure_ (i := 18) (N := some 26) (v := ?_) (a' := ?_) #[true, true, true, true, true, true, true, true, true, true, true, true, true, true, true, true, true, true, true, false] rfl rfl (by kernel_rfl) (fun _ _ _ h => h) (Or.inl ⟨by rfl, ?_⟩) ?_ ?_
  rotate_left
  · intro w'
    go_simp
    with_reducible rfl
  rotate_left
  · simp only [Act.put, List.setIfInBounds_toArray, List.set_cons_zero, List.set_cons_succ, i64_w, i32_w]
    rfl
  refine last_ (i := 19) (N := none) #[true, true, true, true, true, true, true, true, true, true, true, true, true, true, true, true, true, true, true, true] rfl rfl (by kernel_rfl) (by decide) (fun K hK => ?_)
  have hx5 : IsPk w5 h s mb (.slice A o.length c) pl := blk_grown HU.out.pk HG1.out (HU.out.out.ne HU.out.pk (by decide))
  refine skip_ (w1 := _) (by rfl) rfl (run_stcell 47 (.tmp 26) (.tmp 24) rfl h 2 v1 rfl rfl (by obtain ⟨A1, m1, c1, rfl⟩ := HO1.out.slice_; rfl) (by kernel_rfl) (by rw [hx5.c2]; rfl) (hx5.f 2)) ?_
  refine hK.out _ _ ?_
  clear hK K
  refine done_ (by kernel_rfl) ?_

  have HU := Lib.hid (HU.out.put (w1 := w5) HG1.out HO1.out)
  have HB := Lib.hid (below_setc (p := ⟨h, 2, none⟩) HB1.out HU.out.hb v1)
  generalize w5.setCell ⟨h, 2, none⟩ v1 = w6 at *
  obtain ⟨A2, m2, c2, rfl⟩ := HU.out.out.slice_
  obtain ⟨y1, y2, y3, y4⟩ := YY.out
  clear hHeld
  go_wp2
  refine start_ (n := 16) (S := fun w' => w'.cell? ⟨h, 2, none⟩ = some (.slice A2 m2 c2)) (ds := [12, 15]) #[false, false, false, false, false, false, false, false, false, false, false, false, false, false, false, false] (by kernel_rfl) rfl rfl (HU.out.pk.c2) (fun hHeld => ?_)
  have HB := Lib.hid (below_drew HB.out)
  have HU := Lib.hid HU.out.drew
  refine pure_ (i := 0) (N := some 27) (v := ?_) (a' := ?_) #[true, false, false, false, false, false, false, false, false, false, false, false, false, false, false, false] rfl rfl (by kernel_rfl) (fun _ _ _ h => h) (Or.inl ⟨by rfl, ?_⟩) ?_ ?_
  rotate_left
  · intro w'
    go_simp
    with_reducible rfl
  rotate_left
  · simp only [Act.put, List.setIfInBounds_toArray, List.set_cons_zero, List.set_cons_succ, i64_w, i32_w]
    rfl
  refine pure_ (i := 1) (N := some 28) (v := ?_) (a' := ?_) #[true, true, false, false, false, false, false, false, false, false, false, false, false, false, false, false] rfl rfl (by kernel_rfl) (fun _ _ _ h => h) (Or.inl ⟨by rfl, ?_⟩) ?_ ?_
  rotate_left
  · intro w'
    go_simp
    with_reducible rfl
  rotate_left
  · simp only [Act.put, List.setIfInBounds_toArray, List.set_cons_zero, List.set_cons_succ, i64_w, i32_w]
    rfl
  refine pure_ (i := 2) (N := some 29) (v := ?_) (a' := ?_) #[true, true, true, false, false, false, false, false, false, false, false, false, false, false, false, false] rfl rfl (by kernel_rfl) (fun _ _ _ h => h) (Or.inl ⟨by rfl, ?_⟩) ?_ ?_
  rotate_left
  · intro w'
    go_simp
    with_reducible rfl
  rotate_left
  · simp only [Act.put, List.setIfInBounds_toArray, List.set_cons_zero, List.set_cons_succ, i64_w, i32_w]
    rfl
  refine pure_ (i := 3) (N := some 30) (v := ?_) (a' := ?_) #[true, true, true, true, false, false, false, false, false, false, false, false, false, false, false, false] rfl rfl (by kernel_rfl) (fun _ _ _ h => h) (Or.inl ⟨by rfl, ?_⟩) ?_ ?_
  rotate_left
  · intro w'
    go_simp
    with_reducible rfl
  rotate_left
  · simp only [Act.put, List.setIfInBounds_toArray, List.set_cons_zero, List.set_cons_succ, i64_w, i32_w]
    rfl
  refine pure_ (i := 5) (N := some 32) (v := ?_) (a' := ?_) #[true, true, true, true, false, true, false, false, false, false, false, false, false, false, false, false] rfl rfl (by kernel_rfl) (fun _ _ _ h => h) (Or.inl ⟨by rfl, ?_⟩) ?_ ?_
  rotate_left
  · intro w'
    go_simp
    with_reducible rfl
  rotate_left
  · simp only [Act.put, List.setIfInBounds_toArray, List.set_cons_zero, List.set_cons_succ, i64_w, i32_w]
    rfl
  refine pure_ (i := 6) (N := some 33) (v := ?_) (a' := ?_) #[true, true, true, true, false, true, true, false, false, false, false, false, false, false, false, false] rfl rfl (by kernel_rfl) (fun _ _ _ h => h) (Or.inl ⟨by rfl, ?_⟩) ?_ ?_
  rotate_left
  · intro w'
    go_simp
    with_reducible rfl
  rotate_left
  · simp only [Act.put, List.setIfInBounds_toArray, List.set_cons_zero, List.set_cons_succ, i64_w, i32_w]
    rfl
  refine pure_ (i := 8) (N := some 35) (v := ?_) (a' := ?_) #[true, true, true, true, false, true, true, false, true, false, false, false, false, false, false, false] rfl rfl (by kernel_rfl) (fun _ _ _ h => h) (Or.inl ⟨by rfl, ?_⟩) ?_ ?_
  rotate_left
  · intro w'
    go_simp
    with_reducible rfl
  rotate_left
  · simp only [Act.put, List.setIfInBounds_toArray, List.set_cons_zero, List.set_cons_succ, i64_w, i32_w]
    rfl
  refine pure_ (i := 9) (N := some 36) (v := ?_) (a' := ?_) #[true, true, true, true, false, true, true, false, true, true, false, false, false, false, false, false] rfl rfl (by kernel_rfl) (fun _ _ _ h => h) (Or.inl ⟨by rfl, ?_⟩) ?_ ?_
  rotate_left
  · intro w'
    go_simp
    with_reducible rfl
  rotate_left
  · simp only [Act.put, List.setIfInBounds_toArray, List.set_cons_zero, List.set_cons_succ, i64_w, i32_w]
    rfl
  refine take_ (i := 4) (N := some 31) (v := ?_) (a' := ?_) #[true, true, true, true, true, true, true, false, true, true, false, false, false, false, false, false] rfl rfl (by kernel_rfl) (fun _ _ _ h => h) (Or.inl ⟨by rfl, ?_⟩) hHeld ?_ ?_
  rotate_left
  · intro w' s0
    go_simp
    with_reducible rfl
  rotate_left
  · simp only [Act.put, List.setIfInBounds_toArray, List.set_cons_zero, List.set_cons_succ, i64_w, i32_w]
    rfl
  refine one_ (i := 7) (N := some 34) #[true, true, true, true, true, true, true, true, true, true, false, false, false, false, false, false] rfl rfl (by kernel_rfl) (by decide) (fun K hK => ?_)
  refine goes_ Try.func44 (by kernel_rfl) rfl #[.int .u64 (d : Int)] (by rfl) rfl rfl (by (try simp only [List.map_toArray, List.map_cons, List.map_nil]); first | done | rfl) ?_
  with_reducible refine (U1.out _).mono ?_
  rintro e w7 ⟨rfl, hb⟩
  refine ⟨_, rfl, ?_⟩
  have HB := Lib.hid (HB.out.trans (hb.mono (Nat.le_trans hbw HB.out.size)))
  have HU := Lib.hid (HU.out.below hb)
  refine hK.out _ _ (HU.out.pk.c2) (fun hHeld => ?_)
  clear hK K
  refine norm_ (a' := ?_) ?_ ?_
  rotate_left
  · show Act.put _ (some 34) _ = _
    simp only [Act.put, List.setIfInBounds_toArray, List.set_cons_zero, List.set_cons_succ, i64_w, i32_w]
    rfl
  refine one_ (i := 10) (N := some 37) #[true, true, true, true, true, true, true, true, true, true, true, false, false, false, false, false] rfl rfl (by kernel_rfl) (by decide) (fun K hK => ?_)
  refine goes_ Try.func44 (by kernel_rfl) rfl #[.int .u64 (l : Int)] (by rfl) rfl rfl (by (try simp only [List.map_toArray, List.map_cons, List.map_nil]); first | done | rfl) ?_
  with_reducible refine (U2.out _).mono ?_
  rintro e w8 ⟨rfl, hb⟩
  refine ⟨_, rfl, ?_⟩
  have HB := Lib.hid (HB.out.trans (hb.mono (Nat.le_trans hbw HB.out.size)))
  have HU := Lib.hid (HU.out.below hb)
  refine hK.out _ _ (HU.out.pk.c2) (fun hHeld => ?_)
  clear hK K
  refine norm_ (a' := ?_) ?_ ?_
  rotate_left
  · show Act.put _ (some 37) _ = _
    simp only [Act.put, List.setIfInBounds_toArray, List.set_cons_zero, List.set_cons_succ, i64_w, i32_w]
    rfl
  refine pure_ (i := 11) (N := some 38) (v := ?_) (a' := ?_) #[true, true, true, true, true, true, true, true, true, true, true, true, false, false, false, false] rfl rfl (by kernel_rfl) (fun _ _ _ h => h) (Or.inl ⟨by rfl, ?_⟩) ?_ ?_
  rotate_left
  · intro w'
    go_simp
    with_reducible rfl
  rotate_left
  · simp only [Act.put, List.setIfInBounds_toArray, List.set_cons_zero, List.set_cons_succ, i64_w, i32_w]
    rfl
  refine last_ (i := 12) (N := some 39) #[true, true, true, true, true, true, true, true, true, true, true, true, true, false, false, false] rfl rfl (by kernel_rfl) (by decide) (fun K hK => ?_)
  refine app_str_step (w0 := w) base (by rfl) (.tmp 31) (.tmp 38) _ (o ++ bl t0) (t1 ++ t2) rfl rfl rfl HU.out.out HB.out (Nat.le_trans hbw HB.out.size) hl2 ?_
  intro v2 w9 HO2 HB2 HG2
  refine hK.out _ _ ?_
  clear hK K
  refine norm_ (a' := ?_) ?_ ?_
  rotate_left
  · show Act.put _ (some 39) _ = _
    simp only [Act.put, List.setIfInBounds_toArray, List.set_cons_zero, List.set_cons_succ, i64_w, i32_w]
    rfl
  refine pure_ (i := 13) (N := some 40) (v := ?_) (a' := ?_) #[true, true, true, true, true, true, true, true, true, true, true, true, true, true, false, false] rfl rfl (by kernel_rfl) (fun _ _ _ h => h) (Or.inl ⟨by rfl, ?_⟩) ?_ ?_
  rotate_left
  · intro w'
    go_simp
    with_reducible rfl
  rotate_left
  · simp only [Act.put, List.setIfInBounds_toArray, List.set_cons_zero, List.set_cons_succ, i64_w, i32_w]
    rfl
  refine pure_ (i := 14) (N := some 41) (v := ?_) (a' := ?_) #[true, true, true, true, true, true, true, true, true, true, true, true, true, true, true, false] rfl rfl (by kernel_rfl) (fun _ _ _ h => h) (Or.inl ⟨by rfl, ?_⟩) ?_ ?_
  rotate_left
  · intro w'
    go_simp
    with_reducible rfl
  rotate_left
  · simp only [Act.put, List.setIfInBounds_toArray, List.set_cons_zero, List.set_cons_succ, i64_w, i32_w]
    rfl
  refine last_ (i := 15) (N := none) #[true, true, true, true, true, true, true, true, true, true, true, true, true, true, true, true] rfl rfl (by kernel_rfl) (by decide) (fun K hK => ?_)
  have hx9 : IsPk w9 h s mb (.slice A2 m2 c2) pl := blk_grown HU.out.pk HG2.out (HU.out.out.ne HU.out.pk (by decide))
  refine skip_ (w1 := _) (by rfl) rfl (run_stcell 47 (.tmp 41) (.tmp 39) rfl h 2 v2 rfl rfl (by obtain ⟨A1, m1, c1, rfl⟩ := HO2.out.slice_; rfl) (by kernel_rfl) (by rw [hx9.c2]; rfl) (hx9.f 2)) ?_
  refine hK.out _ _ ?_
  clear hK K
  refine done_ (by kernel_rfl) ?_

  have HU := Lib.hid (HU.out.put (w1 := w9) HG2.out HO2.out)
  have HB := Lib.hid (below_setc (p := ⟨h, 2, none⟩) HB2.out HU.out.hb v2)
  generalize w9.setCell ⟨h, 2, none⟩ v2 = w10 at *
  clear hHeld
  go_wp2_with fail
  refine (pk_note _ base h mb i (i + l) pl s v2 _ (HU.out.mono hhi) (Nat.le_add_right _ _) hil (Nat.le_trans hs (by decide)) (Nat.le_trans hbw HB.out.size)).mono ?_
  rintro e w11 ⟨rfl, hu, hb⟩
  have HU := Lib.hid hu
  have HB := Lib.hid (HB.out.trans hb)
  clear hu hb
  have c3 := HU.out.pk.c3
  have f3 := HU.out.pk.f 3
  go_wp2
  go_end0
  exact ⟨rfl, ⟨_, HU.out.set3 (i + l)⟩, below_setc (p := ⟨h, 3, none⟩) HB.out HU.out.hb _⟩
end Go.Proofs.Ythooihkkghfhkaa.My
