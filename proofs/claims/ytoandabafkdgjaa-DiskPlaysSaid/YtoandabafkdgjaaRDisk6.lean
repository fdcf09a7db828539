/- isoglossref07.Disk: Do's Sync. -/
import Derived.Test.YtoandabafkdgjaaRDisk5
namespace Go.Proofs.Ytoandabafkdgjaa.My
set_option linter.unusedSimpArgs false
set_option linter.unusedVariables false
open Go.RowKit Go.Proofs.YtoandabafkdgjaaW.PrintWords Go.Proofs.YtoandabafkdgjaaW.PrintLast Go.Proofs.Ytoandabafkdgjaa.Pm

theorem byt_same {w : World} {base : Nat} {v : Value} {o : List UInt8} (k : Byt w base v o) : ∃ A c, v = .slice A o.length c ∧ (0 < o.length → ∃ g, A = some ⟨g, 0, none⟩ ∧ ∀ j (h : j < o.length), w.cell? ((⟨g, 0, none⟩ : Addr).add j) = some (.int .u8 (o[j].toNat : Int))) := by
  obtain ⟨A, c, rfl⟩ := k.slice
  refine ⟨A, c, rfl, fun h0 => ?_⟩
  obtain ⟨g, c', e, -, -, hc⟩ := k.form h0
  cases e
  exact ⟨g, rfl, fun j hj => by rw [Go.WideShapes.add_plain, Nat.zero_add]; exact hc j hj⟩
section
variable {w : World} {base h : Nat} {V1 V2 A B : Value} {o1 o2 : List UInt8} {l : List (Nat × ByteArray)} {left : Int}
set_option maxRecDepth 100000 in
set_option maxHeartbeats 8000000 in
theorem rd_sync (k : RDk w base h V1 V2 A B o1 o2 l left) (ho : o1.length = o2.length) (hleft : left ≠ 0) (kd : Nat) (hk : kd % 5 = 2) (i n : Int) (b : ByteArray) (AF : Option Addr) (m c : Nat) (hbw : base ≤ w.heap.size) :
    Calls Try.prog 18 #[.pointer (some ⟨h, 0, none⟩), opV kd i n b AF m c] w fun e w' => e = .returned (.tuple #[.string ⟨#[]⟩, .int .i64 0]) ∧ RDk w' base h V1 V2 (.slice none 0 0) (.slice none 0 0) o2 o2 [] left ∧ Below base w w' ∧ Keeps (OwnR h V1 V2 A B) w w' := by
  have HB := Lib.hid ((Below.refl base w).alloc hbw (.cells #[.int .u8 kd, .int .i64 i, .int .i64 n, .string b, .slice AF m c] 40))
  have KP := Lib.hid ((Keeps.refl (OwnR h V1 V2 A B) w).alloc (.cells #[.int .u8 kd, .int .i64 i, .int .i64 n, .string b, .slice AF m c] 40))
  have HK := Lib.hid (k.alloc (.cells #[.int .u8 kd, .int .i64 i, .int .i64 n, .string b, .slice AF m c] 40))
  have c4 := HK.out.dk.c4
  have HP := Lib.hid (blk_new w (.cells #[.int .u8 kd, .int .i64 i, .int .i64 n, .string b, .slice AF m c] 40))
  have p0 := (blk_cell HP.out 0).trans rfl
  have y4 : (left == 0) = false := by simpa using hleft
  have hri : (kd : Int) % 5 = 2 := by omega
  have HO := Lib.hid ho
  clear k ho
  unfold opV
  go_enter Try.func18, Try.ntmps18
  go_wp2
  go_quiet (fail)
  clear c4 p0
  have HB := Lib.hid (pw_below_drewN HB.out nq)
  have KP := Lib.hid (KP.out.drewN nq)
  have HK := Lib.hid (HK.out.below (pw_below_drewN (Below.refl _ _) nq))
  clear HP
  generalize (World.drewN _ nq) = w1 at *
  obtain ⟨A1, c1, rfl, -⟩ := byt_same HK.out.s1
  obtain ⟨A2, c2, rfl, -⟩ := byt_same HK.out.s2
  go_wp2
  refine start_ (n := 9) (S := fun w' => w'.cell? ⟨h, 0, none⟩ = some (.slice A1 o1.length c1) ∧ w'.cell? ⟨h, 1, none⟩ = some (.slice A2 o2.length c2)) (ds := [8]) #[false, false, false, false, false, false, false, false, false] (by kernel_rfl) rfl rfl ⟨HK.out.dk.c0, HK.out.dk.c1⟩ (fun hHeld => ?_)
  have HB := Lib.hid (below_drew HB.out)
  have KP := Lib.hid KP.out.drew
  have HK := Lib.hid HK.out.drew
  refine pure_ (i := 0) (N := some 114) (v := ?_) (a' := ?_) #[true, false, false, false, false, false, false, false, false] rfl rfl (by kernel_rfl) (fun _ _ _ h => h) (Or.inl ⟨by rfl, ?_⟩) ?_ ?_
  rotate_left
  · intro w'
    go_simp
    with_reducible rfl
  rotate_left
  · simp only [Act.put, List.setIfInBounds_toArray, List.set_cons_zero, List.set_cons_succ, i64_w, i32_w]
    rfl
  refine pure_ (i := 1) (N := some 115) (v := ?_) (a' := ?_) #[true, true, false, false, false, false, false, false, false] rfl rfl (by kernel_rfl) (fun _ _ _ h => h) (Or.inl ⟨by rfl, ?_⟩) ?_ ?_
  rotate_left
  · intro w'
    go_simp
    with_reducible rfl
  rotate_left
  · simp only [Act.put, List.setIfInBounds_toArray, List.set_cons_zero, List.set_cons_succ, i64_w, i32_w]
    rfl
  refine pure_ (i := 2) (N := some 116) (v := ?_) (a' := ?_) #[true, true, true, false, false, false, false, false, false] rfl rfl (by kernel_rfl) (fun _ _ _ h => h) (Or.inl ⟨by rfl, ?_⟩) ?_ ?_
  rotate_left
  · intro w'
    go_simp
    with_reducible rfl
  rotate_left
  · simp only [Act.put, List.setIfInBounds_toArray, List.set_cons_zero, List.set_cons_succ, i64_w, i32_w]
    rfl
  refine pure_ (i := 4) (N := some 118) (v := ?_) (a' := ?_) #[true, true, true, false, true, false, false, false, false] rfl rfl (by kernel_rfl) (fun _ _ _ h => h) (Or.inl ⟨by rfl, ?_⟩) ?_ ?_
  rotate_left
  · intro w'
    go_simp
    with_reducible rfl
  rotate_left
  · simp only [Act.put, List.setIfInBounds_toArray, List.set_cons_zero, List.set_cons_succ, i64_w, i32_w]
    rfl
  refine pure_ (i := 5) (N := some 119) (v := ?_) (a' := ?_) #[true, true, true, false, true, true, false, false, false] rfl rfl (by kernel_rfl) (fun _ _ _ h => h) (Or.inl ⟨by rfl, ?_⟩) ?_ ?_
  rotate_left
  · intro w'
    go_simp
    with_reducible rfl
  rotate_left
  · simp only [Act.put, List.setIfInBounds_toArray, List.set_cons_zero, List.set_cons_succ, i64_w, i32_w]
    rfl
  refine pure_ (i := 6) (N := some 120) (v := ?_) (a' := ?_) #[true, true, true, false, true, true, true, false, false] rfl rfl (by kernel_rfl) (fun _ _ _ h => h) (Or.inl ⟨by rfl, ?_⟩) ?_ ?_
  rotate_left
  · intro w'
    go_simp
    with_reducible rfl
  rotate_left
  · simp only [Act.put, List.setIfInBounds_toArray, List.set_cons_zero, List.set_cons_succ, i64_w, i32_w]
    rfl
  refine take_ (i := 3) (N := some 117) (v := ?_) (a' := ?_) #[true, true, true, true, true, true, true, false, false] rfl rfl (by kernel_rfl) (fun _ _ _ h => h) (Or.inl ⟨by rfl, ?_⟩) hHeld ?_ ?_
  rotate_left
  · rintro w' ⟨s0, s1⟩
    go_simp
    with_reducible rfl
  rotate_left
  · simp only [Act.put, List.setIfInBounds_toArray, List.set_cons_zero, List.set_cons_succ, i64_w, i32_w]
    rfl
  refine take_ (i := 7) (N := some 121) (v := ?_) (a' := ?_) #[true, true, true, true, true, true, true, true, false] rfl rfl (by kernel_rfl) (fun _ _ _ h => h) (Or.inl ⟨by rfl, ?_⟩) hHeld ?_ ?_
  rotate_left
  · rintro w' ⟨s0, s1⟩
    go_simp
    with_reducible rfl
  rotate_left
  · simp only [Act.put, List.setIfInBounds_toArray, List.set_cons_zero, List.set_cons_succ, i64_w, i32_w]
    rfl
  refine last_ (i := 8) (N := some 122) #[true, true, true, true, true, true, true, true, true] rfl rfl (by kernel_rfl) (by decide) (fun K hK => ?_)
  refine copy_step (w0 := w) base (by rfl) (.tmp 117) (.tmp 121) rfl _ _ _ _ _ _ rfl rfl _ o1 HK.out.s1 0 o2 (by rw [HO.out]; exact (Nat.min_self _).symm) (fun h0 => ?_) (by rw [HO.out]; omega) HB.out ?_
  · obtain ⟨A3, c3, e3, hs3⟩ := byt_same HK.out.s2
    cases e3
    obtain ⟨g2, rfl, hc2⟩ := hs3 h0
    obtain ⟨A4, c4, e4, hs4⟩ := byt_same HK.out.s1
    cases e4
    obtain ⟨g1, rfl, -⟩ := hs4 (by rw [HO.out]; exact h0)
    exact ⟨g1, _, _, rfl, rfl, rfl, hc2⟩
  intro w5 HO1 HB1 HG1
  refine hK.out _ _ ?_
  clear hK K
  refine norm_ (a' := ?_) ?_ ?_
  rotate_left
  · show Act.put _ (some 122) _ = _
    simp only [Act.put, List.setIfInBounds_toArray, List.set_cons_zero, List.set_cons_succ, i64_w, i32_w]
    rfl
  refine done_ (by kernel_rfl) ?_

  clear hHeld
  have HK := Lib.hid (HK.out.sure HG1.out (o := o2) (by have := HO1.out; rw [splice_all _ _ HO.out] at this; exact this))
  have HB := HB1
  have KP := Lib.hid (KP.out.grown HG1.out (fun k e => .inl (.inr (.inl e))))
  clear HO1 HG1 HB1
  generalize hv1 : Value.slice A1 o1.length c1 = V1 at *
  generalize hv2 : Value.slice A2 o2.length c2 = V2 at *
  have HV := Lib.hid (And.intro hv1 hv2); clear hv1 hv2
  have q2 := HK.out.dk.f 2
  have q3 := HK.out.dk.f 3
  have d2 := HK.out.dk.c2
  have d3 := HK.out.dk.c3
  go_wp2
  go_ret2
  have hk' := HK.out.none23
  have hb' := below_setc (p := ⟨h, 3, none⟩) (below_setc (p := ⟨h, 2, none⟩) HB.out HK.out.hb (.slice none 0 0)) HK.out.hb (.slice none 0 0)
  have hp' := (KP.out.set (p := ⟨h, 2, none⟩) (.inl (.inl rfl)) (.slice none 0 0)).set (p := ⟨h, 3, none⟩) (.inl (.inl rfl)) (.slice none 0 0)
  first | exact ⟨rfl, hk', hb', hp'⟩ | (rw [HV.out.1, HV.out.2]; exact ⟨rfl, hk', hb', hp'⟩)
end
end Go.Proofs.Ytoandabafkdgjaa.My
