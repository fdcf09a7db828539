/- The laws of layer 2 walked. -/
import Derived.Test.YtdiocapnoinmlaaRef02
namespace Go.Proofs.Ytdiocapnoinmlaa.My
set_option linter.unusedSimpArgs false
set_option linter.unusedVariables false
open Go.RowKit Go.Proofs.YtdiocapnoinmlaaW.PrintWords Go.Proofs.YtdiocapnoinmlaaW.PrintLast Go.Proofs.Ytdiocapnoinmlaa.Pm

theorem check_sum : sumL [49, 50, 51, 52, 53, 54, 55, 56, 57] = 3808858755 := by
  unfold sumL more
  simp only [List.foldl, tabStep_steps]
  decide +kernel
theorem awake02 (w : World) : Calls Try.prog 17 #[] w fun e w' => e = .returned (.bool true) ∧ Below w.heap.size w w' := by
  have U := Lib.hid (fun w => crc_sum ⟨#[49, 50, 51, 52, 53, 54, 55, 56, 57]⟩ w (by decide))
  have M := Lib.hid crc_make
  rw [show (⟨#[49, 50, 51, 52, 53, 54, 55, 56, 57]⟩ : ByteArray).data.toList = [49, 50, 51, 52, 53, 54, 55, 56, 57] from rfl, check_sum] at U
  generalize tab = T at *
  go_enter Try.func17, Try.ntmps17
  go_wp2_with fail
  refine (M.out _).mono ?_
  rintro e wq1 ⟨rfl, hb⟩
  have HB := Lib.hid hb; clear hb
  go_wp2_with fail
  refine (U.out _).mono ?_
  rintro e wq2 ⟨rfl, hb⟩
  have HB := Lib.hid (HB.out.trans (hb.mono HB.out.size)); clear hb
  go_wp2
  go_ret
  exact ⟨rfl, HB.out⟩

theorem below_cell {w w1 : World} {g j : Nat} {v : Value} {cs : Array Value} {t : TypeId} (hb : Below w.heap.size w w1) (hg : w.heap[g]? = some (.cells cs t (0, 0))) (h : w.cell? ⟨g, j, none⟩ = some v) : w1.cell? ⟨g, j, none⟩ = some v :=
  (hb.cell (p := ⟨g, j, none⟩) (blk_lt hg)).trans h

set_option maxHeartbeats 4000000 in
theorem crc_sums (b : ByteArray) (x : Nat) (w : World) (hx : x < 256) (hb : b.size ≤ 2000) :
    Calls Try.prog 5 #[.string b, .int .u8 x] w fun e w' => e = .returned (.bool true) ∧ Below w.heap.size w w' := by
  have b1 : decide (2000 < (b.size : Int)) = false := by simp; omega
  have HB := Lib.hid (Below.refl w.heap.size w)
  have M := Lib.hid crc_make
  have U := Lib.hid (fun w => crc_sum b w (by omega))
  have hi1 : (Try.prog.info? 42).map (·.size) = some tab.size := by unfold tab; rw [tabTo_size]; kernel_rfl
  have h0 : (tabTo 0).size = tab.size := by unfold tab; rw [tabTo_size, tabTo_size]
  have h1 : tab.all (·.oneCell') = true := tabTo_one 256
  have hz := zeroTable
  have hg := tab_get x hx
  have hu : IntKind.u64.wrap (x : Int) = (x : Int) := wrap_u64_nat (by omega)
  have hs8 : steps 8 x < 4294967296 := steps_lt 8 (by omega)
  have HS := Lib.hid (fun w => rsteps_any x w (by omega))
  have HI := Lib.hid hi1; clear hi1
  have H0 := Lib.hid h0; clear h0
  have H1 := Lib.hid h1; clear h1
  have HG := Lib.hid hg; clear hg
  generalize tab = T at *
  generalize tabTo 0 = T0 at *
  generalize steps 8 x = y at *
  have hy : IntKind.u64.wrap (y : Int) = (y : Int) := wrap_u64_nat (by omega)
  have hxi : (x : Int) < 256 := by omega
  go_enter Try.func5, Try.ntmps5
  go_wp2_with fail
  refine (awake02 _).mono ?_
  rintro e wq3 ⟨rfl, hb⟩
  have HB := Lib.hid (HB.out.trans (hb.mono HB.out.size)); clear hb
  go_wp2_with fail
  refine (M.out _).mono ?_
  rintro e w1 ⟨rfl, hb⟩
  have HB := Lib.hid (HB.out.trans (hb.mono HB.out.size)); clear hb
  have b0 := blk_new w1 (.cells T0 42)
  have B0 := Lib.hid b0; clear b0
  go_wp2_with (refine wpList_store_row rfl 42 _ _ rfl w1.heap.size T rfl rfl 42 T0 B0.out HI.out H0.out H1.out ?_; rw [World.setRow_alloc_new])
  obtain ⟨g, hg⟩ : ∃ g, w1.heap.size = g := ⟨_, rfl⟩
  have k0 := blk_new w1 (.cells T 42)
  have HB := Lib.hid (below_alloc HB.out (.cells T 42))
  have hlt := HB.out.size
  rw [hg] at k0 ⊢
  clear hg
  generalize w1.alloc (.cells T 42) = w2 at *
  have k1 : w2.cell? ⟨g, x, none⟩ = some (.int .u32 y) := by rw [blk_cell k0, HG.out]
  have K0 := Lib.hid k0; clear k0
  have K1 := Lib.hid k1; clear k1
  refine start_ (n := 17) (S := fun w' => w'.heap[g]? = some (.cells T 42 (0, 0)) ∧ w'.cell? ⟨g, x, none⟩ = some (.int .u32 y)) (ds := []) #[false, false, false, false, false, false, false, false, false, false, false, false, false, false, false, false, false] (by kernel_rfl) rfl rfl ⟨K0.out, K1.out⟩ (fun hHeld => ?_)
  have HB := Lib.hid (below_drew HB.out)
  refine pure_ (i := 1) (N := some 16) (v := ?_) (a' := ?_) #[false, true, false, false, false, false, false, false, false, false, false, false, false, false, false, false, false] rfl rfl (by kernel_rfl) (fun _ _ _ h => h) (Or.inl ⟨by rfl, ?_⟩) ?_ ?_
  rotate_left
  · intro w'
    go_simp
    with_reducible rfl
  rotate_left
  · simp only [Act.put, List.setIfInBounds_toArray, List.set_cons_zero, List.set_cons_succ, i64_w, i32_w]
    rfl
  refine pure_ (i := 3) (N := some 18) (v := ?_) (a' := ?_) #[false, true, false, true, false, false, false, false, false, false, false, false, false, false, false, false, false] rfl rfl (by kernel_rfl) (fun _ _ _ h => h) (Or.inl ⟨by rfl, ?_⟩) ?_ ?_
  rotate_left
  · intro w'
    go_simp
    with_reducible rfl
  rotate_left
  · simp only [Act.put, List.setIfInBounds_toArray, List.set_cons_zero, List.set_cons_succ, i64_w, i32_w]
    rfl
  refine one_ (i := 0) (N := some 15) #[true, true, false, true, false, false, false, false, false, false, false, false, false, false, false, false, false] rfl rfl (by kernel_rfl) (by decide) (fun K hK => ?_)
  refine value_ (w1 := _) (v := .agg T) (by rfl) rfl (run_row 42 _ rfl g rfl 42 T (0, 0) _ hHeld.1 Try.underlying42 rfl HI.out) ?_
  refine hK.out _ _ ⟨hHeld.1, hHeld.2⟩ (fun hHeld => ?_)
  clear hK K
  refine norm_ (a' := ?_) ?_ ?_
  rotate_left
  · show Act.put _ (some 15) _ = _
    simp only [Act.put, List.setIfInBounds_toArray, List.set_cons_zero, List.set_cons_succ, i64_w, i32_w]
    rfl
  refine one_ (i := 2) (N := some 17) #[true, true, true, true, false, false, false, false, false, false, false, false, false, false, false, false, false] rfl rfl (by kernel_rfl) (by decide) (fun K hK => ?_)
  refine goes_ Try.func19 (by kernel_rfl) rfl #[.agg T, .string b] (by rfl) rfl rfl (by (try simp only [List.map_toArray, List.map_cons, List.map_nil]); first | done | rfl) ?_
  with_reducible refine (U.out _).mono ?_
  rintro e w3 ⟨rfl, hb⟩
  refine ⟨_, rfl, ?_⟩
  have HB := Lib.hid (HB.out.trans (hb.mono HB.out.size))
  refine hK.out _ _ ⟨blk_below hHeld.1 hb, below_cell hb hHeld.1 hHeld.2⟩ (fun hHeld => ?_)
  clear hK K
  refine norm_ (a' := ?_) ?_ ?_
  rotate_left
  · show Act.put _ (some 17) _ = _
    simp only [Act.put, List.setIfInBounds_toArray, List.set_cons_zero, List.set_cons_succ, i64_w, i32_w]
    rfl
  refine one_ (i := 4) (N := some 19) #[true, true, true, true, true, false, false, false, false, false, false, false, false, false, false, false, false] rfl rfl (by kernel_rfl) (by decide) (fun K hK => ?_)
  refine goes_ Try.func20 (by kernel_rfl) rfl #[.string b] (by rfl) rfl rfl (by (try simp only [List.map_toArray, List.map_cons, List.map_nil]); first | done | rfl) ?_
  with_reducible refine (rsum_any b _ (by omega)).mono ?_
  rintro e w4 ⟨rfl, rfl⟩
  refine ⟨_, rfl, ?_⟩
  refine hK.out _ _ ⟨hHeld.1, hHeld.2⟩ (fun hHeld => ?_)
  clear hK K
  refine norm_ (a' := ?_) ?_ ?_
  rotate_left
  · show Act.put _ (some 19) _ = _
    simp only [Act.put, List.setIfInBounds_toArray, List.set_cons_zero, List.set_cons_succ, i64_w, i32_w]
    rfl
  refine pure_ (i := 5) (N := some 20) (v := ?_) (a' := ?_) #[true, true, true, true, true, true, false, false, false, false, false, false, false, false, false, false, false] rfl rfl (by kernel_rfl) (fun _ _ _ h => h) (Or.inl ⟨by rfl, ?_⟩) ?_ ?_
  rotate_left
  · intro w'
    go_simp
    with_reducible rfl
  rotate_left
  · simp only [Act.put, List.setIfInBounds_toArray, List.set_cons_zero, List.set_cons_succ, i64_w, i32_w]
    rfl
  refine pure_ (i := 6) (N := some 21) (v := ?_) (a' := ?_) #[true, true, true, true, true, true, true, false, false, false, false, false, false, false, false, false, false] rfl rfl (by kernel_rfl) (fun _ _ _ h => h) (Or.inl ⟨by rfl, ?_⟩) ?_ ?_
  rotate_left
  · intro w'
    go_simp
    with_reducible rfl
  rotate_left
  · simp only [Act.put, List.setIfInBounds_toArray, List.set_cons_zero, List.set_cons_succ, i64_w, i32_w]
    rfl
  refine pure_ (i := 7) (N := some 22) (v := ?_) (a' := ?_) #[true, true, true, true, true, true, true, true, false, false, false, false, false, false, false, false, false] rfl rfl (by kernel_rfl) (fun _ _ _ h => h) (Or.inl ⟨by rfl, ?_⟩) ?_ ?_
  rotate_left
  · intro w'
    go_simp
    with_reducible rfl
  rotate_left
  · simp only [Act.put, List.setIfInBounds_toArray, List.set_cons_zero, List.set_cons_succ, i64_w, i32_w]
    rfl
  refine pure_ (i := 8) (N := some 23) (v := ?_) (a' := ?_) #[true, true, true, true, true, true, true, true, true, false, false, false, false, false, false, false, false] rfl rfl (by kernel_rfl) (fun _ _ _ h => h) (Or.inl ⟨by rfl, ?_⟩) ?_ ?_
  rotate_left
  · intro w'
    go_simp
    with_reducible rfl
  rotate_left
  · simp only [Act.put, List.setIfInBounds_toArray, List.set_cons_zero, List.set_cons_succ, i64_w, i32_w]
    rfl
  refine pure_ (i := 11) (N := some 26) (v := ?_) (a' := ?_) #[true, true, true, true, true, true, true, true, true, false, false, true, false, false, false, false, false] rfl rfl (by kernel_rfl) (fun _ _ _ h => h) (Or.inl ⟨by rfl, ?_⟩) ?_ ?_
  rotate_left
  · intro w'
    go_simp
    with_reducible rfl
  rotate_left
  · simp only [Act.put, List.setIfInBounds_toArray, List.set_cons_zero, List.set_cons_succ, i64_w, i32_w]
    rfl
  refine pure_ (i := 12) (N := some 27) (v := ?_) (a' := ?_) #[true, true, true, true, true, true, true, true, true, false, false, true, true, false, false, false, false] rfl rfl (by kernel_rfl) (fun _ _ _ h => h) (Or.inl ⟨by rfl, ?_⟩) ?_ ?_
  rotate_left
  · intro w'
    go_simp
    with_reducible rfl
  rotate_left
  · simp only [Act.put, List.setIfInBounds_toArray, List.set_cons_zero, List.set_cons_succ, i64_w, i32_w]
    rfl
  refine take_ (i := 9) (N := some 24) (v := ?_) (a' := ?_) #[true, true, true, true, true, true, true, true, true, true, false, true, true, false, false, false, false] rfl rfl (by kernel_rfl) (fun _ _ _ h => h) (Or.inl ⟨by rfl, ?_⟩) hHeld ?_ ?_
  rotate_left
  · rintro w' ⟨s0, s1⟩
    go_simp
    with_reducible rfl
  rotate_left
  · simp only [Act.put, List.setIfInBounds_toArray, List.set_cons_zero, List.set_cons_succ, i64_w, i32_w]
    rfl
  refine pure_ (i := 10) (N := some 25) (v := ?_) (a' := ?_) #[true, true, true, true, true, true, true, true, true, true, true, true, true, false, false, false, false] rfl rfl (by kernel_rfl) (fun _ _ _ h => h) (Or.inl ⟨by rfl, ?_⟩) ?_ ?_
  rotate_left
  · intro w'
    go_simp
    with_reducible rfl
  rotate_left
  · simp only [Act.put, List.setIfInBounds_toArray, List.set_cons_zero, List.set_cons_succ, i64_w, i32_w]
    rfl
  refine one_ (i := 13) (N := some 28) #[true, true, true, true, true, true, true, true, true, true, true, true, true, true, false, false, false] rfl rfl (by kernel_rfl) (by decide) (fun K hK => ?_)
  refine goes_ Try.func21 (by kernel_rfl) rfl #[.int .u64 x, .int .i64 8] (by rfl) rfl rfl (by (try simp only [List.map_toArray, List.map_cons, List.map_nil]); first | done | rfl) ?_
  with_reducible refine (HS.out _).mono ?_
  rintro e w5 ⟨rfl, rfl⟩
  refine ⟨_, rfl, ?_⟩
  refine hK.out _ _ ⟨hHeld.1, hHeld.2⟩ (fun hHeld => ?_)
  clear hK K
  refine norm_ (a' := ?_) ?_ ?_
  rotate_left
  · show Act.put _ (some 28) _ = _
    simp only [Act.put, List.setIfInBounds_toArray, List.set_cons_zero, List.set_cons_succ, i64_w, i32_w]
    rfl
  refine pure_ (i := 14) (N := some 29) (v := ?_) (a' := ?_) #[true, true, true, true, true, true, true, true, true, true, true, true, true, true, true, false, false] rfl rfl (by kernel_rfl) (fun _ _ _ h => h) (Or.inl ⟨by rfl, ?_⟩) ?_ ?_
  rotate_left
  · intro w'
    go_simp
    with_reducible rfl
  rotate_left
  · simp only [Act.put, List.setIfInBounds_toArray, List.set_cons_zero, List.set_cons_succ, i64_w, i32_w]
    rfl
  refine pure_ (i := 15) (N := some 30) (v := ?_) (a' := ?_) #[true, true, true, true, true, true, true, true, true, true, true, true, true, true, true, true, false] rfl rfl (by kernel_rfl) (fun _ _ _ h => h) (Or.inl ⟨by rfl, ?_⟩) ?_ ?_
  rotate_left
  · intro w'
    go_simp
    with_reducible rfl
  rotate_left
  · simp only [Act.put, List.setIfInBounds_toArray, List.set_cons_zero, List.set_cons_succ, i64_w, i32_w]
    rfl
  refine pure_ (i := 16) (N := some 4) (v := ?_) (a' := ?_) #[true, true, true, true, true, true, true, true, true, true, true, true, true, true, true, true, true] rfl rfl (by kernel_rfl) (fun _ _ _ h => h) (Or.inl ⟨by rfl, ?_⟩) ?_ ?_
  rotate_left
  · intro w'
    go_simp
    with_reducible rfl
  rotate_left
  · simp only [Act.put, List.setIfInBounds_toArray, List.set_cons_zero, List.set_cons_succ, i64_w, i32_w]
    rfl
  refine done_ (by kernel_rfl) ?_

  go_wp2
  go_ret
  exact ⟨rfl, HB.out⟩
theorem crc_sums_walk (a0 : ByteArray) (a1 : Int) (W : World) (h0 : a0.size ≤ 140737488351232) (h1 : (Lit.int .u8 a1).wf = true) :
    Calls Try.prog 5 #[.string a0, .int .u8 a1] W fun e w' => e = .returned (.bool true) ∧ Below W.heap.size W w' := by
  have h := wf_u8 h1
  obtain ⟨n, rfl⟩ := Int.eq_ofNat_of_zero_le h.1
  by_cases hb : a0.size ≤ 2000
  · exact crc_sums a0 n W (by omega) hb
  · have b1 : decide (2000 < (a0.size : Int)) = true := by simp; omega
    have HB := Lib.hid (Below.refl W.heap.size W)
    go_enter Try.func5, Try.ntmps5
    go_wp2_with fail
    refine (awake02 _).mono ?_
    rintro e wq4 ⟨rfl, hb⟩
    have HB := Lib.hid (HB.out.trans (hb.mono HB.out.size)); clear hb
    go_wp2_with fail
    refine (awake02 _).mono ?_
    rintro e wq5 ⟨rfl, hb⟩
    have HB := Lib.hid (HB.out.trans (hb.mono HB.out.size)); clear hb
    go_wp2
    go_ret
    exact ⟨rfl, HB.out⟩
end Go.Proofs.Ytdiocapnoinmlaa.My
