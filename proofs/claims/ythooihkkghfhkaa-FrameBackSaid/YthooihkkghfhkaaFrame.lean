/- frame.Make, isoglossref06.Make: the same bytes. -/
import Derived.Test.YthooihkkghfhkaaRef02
import Derived.Test.YthooihkkghfhkaaCrcM
import Derived.Test.YthooihkkghfhkaaRef01
import Derived.Test.YthooihkkghfhkaaCode
namespace Go.Proofs.Ythooihkkghfhkaa.My
set_option linter.unusedSimpArgs false
set_option linter.unusedVariables false
open Go.RowKit Go.Proofs.YthooihkkghfhkaaW.PrintWords Go.Proofs.YthooihkkghfhkaaW.PrintLast Go.Proofs.Ythooihkkghfhkaa.Pm

theorem fits_any (n : Nat) (w : World) : Calls Try.prog 23 #[.int .u64 n] w fun e w' => e = .returned (.bool (decide (1 ≤ n) && decide (n ≤ 4000))) ∧ w = w' := by
  by_cases h1 : 1 ≤ n
  · by_cases h2 : n ≤ 4000
    · have c1 : decide (1 ≤ (n : Int)) = true := by simp; omega
      have c2 : decide ((n : Int) ≤ 4000) = true := by simp; omega
      rw [show (decide (1 ≤ n) && decide (n ≤ 4000)) = true by simp [h1, h2]]
      go_enter Try.func23, Try.ntmps23
      go_wp2
      go_ret
      exact ⟨rfl, rfl⟩
    · have c1 : decide (1 ≤ (n : Int)) = true := by simp; omega
      have c2 : decide ((n : Int) ≤ 4000) = false := by simp; omega
      rw [show (decide (1 ≤ n) && decide (n ≤ 4000)) = false by simp [h1, h2]]
      go_enter Try.func23, Try.ntmps23
      go_wp2
      go_ret
      exact ⟨rfl, rfl⟩
  · have c1 : decide (1 ≤ (n : Int)) = false := by simp; omega
    rw [show (decide (1 ≤ n) && decide (n ≤ 4000)) = false by simp [h1]]
    go_enter Try.func23, Try.ntmps23
    go_wp2
    go_ret
    exact ⟨rfl, rfl⟩

def fix4 (n : Nat) : ByteArray := strOfNums (fixedTo n 4 true 4)
theorem fix4_size (n : Nat) : (fix4 n).size = 4 := by
  unfold fix4 strOfNums
  rw [show ∀ l : List UInt8, (ByteArray.mk l.toArray).size = l.length from fun l => by simp [ByteArray.size]]
  rw [List.length_map, fixedTo_length]
def frameS (p : ByteArray) : ByteArray := fix4 p.size ++ fix4 (sumL p.data.toList) ++ p
theorem sumL_lt (l : List UInt8) : sumL l < 4294967296 := by unfold sumL ends; omega

theorem rframe_any (p : ByteArray) (w : World) (hp : p.size ≤ 140737488355328) :
    Calls Try.prog 12 #[.string p] w fun e w' => e = .returned (.string (frameS p)) ∧ Below w.heap.size w w' := by
  have U1 := Lib.hid (fun w => rfixed_any p.size 4 true w (by omega) (by omega) (by omega))
  have U2 := Lib.hid (fun w => rsum_any p w hp)
  have hs := sumL_lt p.data.toList
  have U3 := Lib.hid (fun w => rfixed_any (sumL p.data.toList) 4 true w (by omega) (by omega) (by omega))
  have q1 : IntKind.u64.wrap (p.size : Int) = (p.size : Int) := wrap_u64_nat (by omega)
  have q2 : IntKind.u64.wrap (sumL p.data.toList : Int) = (sumL p.data.toList : Int) := wrap_u64_nat (by omega)
  have HB := Lib.hid (Below.refl w.heap.size w)
  unfold frameS
  change Hid (∀ w, Calls Try.prog _ _ w fun e w' => e = .returned (.string (fix4 p.size)) ∧ _) at U1
  change Hid (∀ w, Calls Try.prog _ _ w fun e w' => e = .returned (.string (fix4 (sumL p.data.toList))) ∧ _) at U3
  have z1 := Nat.le_of_eq (fix4_size p.size)
  have z2 := Nat.le_of_eq (fix4_size (sumL p.data.toList))
  generalize fix4 p.size = s1 at *
  generalize fix4 (sumL p.data.toList) = s2 at *
  generalize sumL p.data.toList = s at *
  clear hs
  go_enter Try.func12, Try.ntmps12
  go_wp2_with fail
  refine (U1.out _).mono ?_
  rintro e w1 ⟨rfl, hb⟩
  have HB := Lib.hid (HB.out.trans (hb.mono HB.out.size)); clear hb
  go_wp2_with fail
  refine (U2.out _).mono ?_
  rintro e w2 ⟨rfl, rfl⟩
  go_wp2_with fail
  refine (U3.out _).mono ?_
  rintro e w3 ⟨rfl, hb⟩
  have HB := Lib.hid (HB.out.trans (hb.mono HB.out.size)); clear hb
  go_wp2
  go_ret
  exact ⟨rfl, HB.out⟩

theorem frame_bad (T : Array Value) (p : ByteArray) (w : World) (hp : p.size ≤ 140737488355328) (h : p.size < 1 ∨ 4000 < p.size) :
    Calls Try.prog 10 #[.agg T, .string p] w fun e w' => e = .returned (.tuple #[.string ⟨#[]⟩, .int .i64 3]) ∧ Below w.heap.size w w' := by
  have U1 := Lib.hid (fits_any p.size)
  rw [show (decide (1 ≤ p.size) && decide (p.size ≤ 4000)) = false by simp; omega] at U1
  have q1 : IntKind.u64.wrap (p.size : Int) = (p.size : Int) := wrap_u64_nat (by omega)
  have HB := Lib.hid (Below.refl w.heap.size w)
  go_enter Try.func10, Try.ntmps10
  go_wp2_with fail
  refine (U1.out _).mono ?_
  rintro e wq1 ⟨rfl, rfl⟩
  go_wp2
  go_ret2
  exact ⟨rfl, below_alloc HB.out _⟩

set_option maxHeartbeats 1000000 in
theorem frame_good (p : ByteArray) (w : World) (h1 : 1 ≤ p.size) (h2 : p.size ≤ 4000) :
    Calls Try.prog 10 #[.agg tab, .string p] w fun e w' => e = .returned (.tuple #[.string (frameS p), .int .i64 0]) ∧ Below w.heap.size w w' := by
  have F1 := Lib.hid (fits_any p.size)
  rw [show (decide (1 ≤ p.size) && decide (p.size ≤ 4000)) = true by simp; omega] at F1
  have U1 := Lib.hid (fun w => fixed_good p.size 4 true w (by omega) (by omega))
  have U2 := Lib.hid (fun w => crc_sum p w (by omega))
  have hs := sumL_lt p.data.toList
  have U3 := Lib.hid (fun w => fixed_good (sumL p.data.toList) 4 true w (by omega) (by omega))
  have q1 : IntKind.u64.wrap (p.size : Int) = (p.size : Int) := wrap_u64_nat (by omega)
  have q2 : IntKind.u64.wrap (sumL p.data.toList : Int) = (sumL p.data.toList : Int) := wrap_u64_nat (by omega)
  have HB := Lib.hid (Below.refl w.heap.size w)
  have hi1 : (Try.prog.info? 28).map (·.size) = some tab.size := by unfold tab; rw [tabTo_size]; kernel_rfl
  have HI := Lib.hid hi1; clear hi1
  unfold frameS
  change Hid (∀ w, Calls Try.prog _ _ w fun e w' => e = .returned (.string (fix4 p.size)) ∧ _) at U1
  change Hid (∀ w, Calls Try.prog _ _ w fun e w' => e = .returned (.string (fix4 (sumL p.data.toList))) ∧ _) at U3
  have z1 := Nat.le_of_eq (fix4_size p.size)
  have z2 := Nat.le_of_eq (fix4_size (sumL p.data.toList))
  generalize fix4 p.size = s1 at *
  generalize fix4 (sumL p.data.toList) = s2 at *
  generalize sumL p.data.toList = s at *
  generalize tab = T at *
  clear hs
  rw [show ((4 : Nat) : Int) = 4 from rfl] at U1 U3
  go_enter Try.func10, Try.ntmps10
  go_wp2_with fail
  refine (F1.out _).mono ?_
  rintro e wq2 ⟨rfl, rfl⟩
  go_wp2
  have K0 := Lib.hid (blk_new w (.cells T 28 (0, 0)))
  have HB := Lib.hid (below_alloc HB.out (.cells T 28))
  obtain ⟨g, hg⟩ : ∃ g, w.heap.size = g := ⟨_, rfl⟩
  have hgb : w.heap.size ≤ g := Nat.le_of_eq hg
  rw [hg] at K0 ⊢
  have n1 : ¬ 9223372036854775807 < s1.size + s2.size := by omega
  have n2 : ¬ 9223372036854775807 < s1.size + s2.size + p.size := by omega
  clear hg
  generalize w.alloc (.cells T 28 (0, 0)) = w2 at *
  refine start_ (n := 14) (S := fun w' => w'.heap[g]? = some (.cells T 28 (0, 0))) (ds := []) #[false, false, false, false, false, false, false, false, false, false, false, false, false, false] (by kernel_rfl) rfl rfl (K0.out) (fun hHeld => ?_)
  have HB := Lib.hid (below_drew HB.out)
  refine pure_ (i := 0) (N := some 11) (v := ?_) (a' := ?_) #[true, false, false, false, false, false, false, false, false, false, false, false, false, false] rfl rfl (by kernel_rfl) (fun _ _ _ h => h) (Or.inl ⟨by rfl, ?_⟩) ?_ ?_
  rotate_left
  · intro w'
    go_simp
    with_reducible rfl
  rotate_left
  · simp only [Act.put, List.setIfInBounds_toArray, List.set_cons_zero, List.set_cons_succ, i64_w, i32_w]
    rfl
  refine pure_ (i := 1) (N := some 12) (v := ?_) (a' := ?_) #[true, true, false, false, false, false, false, false, false, false, false, false, false, false] rfl rfl (by kernel_rfl) (fun _ _ _ h => h) (Or.inl ⟨by rfl, ?_⟩) ?_ ?_
  rotate_left
  · intro w'
    go_simp
    with_reducible rfl
  rotate_left
  · simp only [Act.put, List.setIfInBounds_toArray, List.set_cons_zero, List.set_cons_succ, i64_w, i32_w]
    rfl
  refine pure_ (i := 2) (N := some 13) (v := ?_) (a' := ?_) #[true, true, true, false, false, false, false, false, false, false, false, false, false, false] rfl rfl (by kernel_rfl) (fun _ _ _ h => h) (Or.inl ⟨by rfl, ?_⟩) ?_ ?_
  rotate_left
  · intro w'
    go_simp
    with_reducible rfl
  rotate_left
  · simp only [Act.put, List.setIfInBounds_toArray, List.set_cons_zero, List.set_cons_succ, i64_w, i32_w]
    rfl
  refine pure_ (i := 5) (N := some 16) (v := ?_) (a' := ?_) #[true, true, true, false, false, true, false, false, false, false, false, false, false, false] rfl rfl (by kernel_rfl) (fun _ _ _ h => h) (Or.inl ⟨by rfl, ?_⟩) ?_ ?_
  rotate_left
  · intro w'
    go_simp
    with_reducible rfl
  rotate_left
  · simp only [Act.put, List.setIfInBounds_toArray, List.set_cons_zero, List.set_cons_succ, i64_w, i32_w]
    rfl
  refine pure_ (i := 10) (N := some 21) (v := ?_) (a' := ?_) #[true, true, true, false, false, true, false, false, false, false, true, false, false, false] rfl rfl (by kernel_rfl) (fun _ _ _ h => h) (Or.inl ⟨by rfl, ?_⟩) ?_ ?_
  rotate_left
  · intro w'
    go_simp
    with_reducible rfl
  rotate_left
  · simp only [Act.put, List.setIfInBounds_toArray, List.set_cons_zero, List.set_cons_succ, i64_w, i32_w]
    rfl
  refine take_ (i := 4) (N := some 15) (v := ?_) (a' := ?_) #[true, true, true, false, true, true, false, false, false, false, true, false, false, false] rfl rfl (by kernel_rfl) (fun _ _ _ h => h) (Or.inl ⟨by rfl, ?_⟩) hHeld ?_ ?_
  rotate_left
  · intro w' s0
    refine run_row 28 (.tmp 2) ?_ g ?_ 28 T (0, 0) _ s0 Try.underlying28 rfl HI.out <;> rfl
  rotate_left
  · simp only [Act.put, List.setIfInBounds_toArray, List.set_cons_zero, List.set_cons_succ, i64_w, i32_w]
    rfl
  refine one_ (i := 3) (N := some 14) #[true, true, true, true, true, true, false, false, false, false, true, false, false, false] rfl rfl (by kernel_rfl) (by decide) (fun K hK => ?_)
  refine goes_ Try.func24 (by kernel_rfl) rfl #[.int .u64 p.size, .int .i64 4, .bool true] (by rfl) rfl rfl (by (try simp only [List.map_toArray, List.map_cons, List.map_nil]); first | done | rfl) ?_
  with_reducible refine (U1.out _).mono ?_
  rintro e w3 ⟨rfl, hb⟩
  refine ⟨_, rfl, ?_⟩
  have HB := Lib.hid (HB.out.trans (hb.mono HB.out.size))
  refine hK.out _ _ (blk_below hHeld hb) (fun hHeld => ?_)
  clear hK K
  refine norm_ (a' := ?_) ?_ ?_
  rotate_left
  · show Act.put _ (some 14) _ = _
    simp only [Act.put, List.setIfInBounds_toArray, List.set_cons_zero, List.set_cons_succ, i64_w, i32_w]
    rfl
  refine one_ (i := 6) (N := some 17) #[true, true, true, true, true, true, true, false, false, false, true, false, false, false] rfl rfl (by kernel_rfl) (by decide) (fun K hK => ?_)
  refine goes_ Try.func25 (by kernel_rfl) rfl #[.agg T, .string p] (by rfl) rfl rfl (by (try simp only [List.map_toArray, List.map_cons, List.map_nil]); first | done | rfl) ?_
  with_reducible refine (U2.out _).mono ?_
  rintro e w4 ⟨rfl, hb⟩
  refine ⟨_, rfl, ?_⟩
  have HB := Lib.hid (HB.out.trans (hb.mono HB.out.size))
  refine hK.out _ _ (blk_below hHeld hb) (fun hHeld => ?_)
  clear hK K
  refine norm_ (a' := ?_) ?_ ?_
  rotate_left
  · show Act.put _ (some 17) _ = _
    simp only [Act.put, List.setIfInBounds_toArray, List.set_cons_zero, List.set_cons_succ, i64_w, i32_w]
    rfl
  refine pure_ (i := 7) (N := some 18) (v := ?_) (a' := ?_) #[true, true, true, true, true, true, true, true, false, false, true, false, false, false] rfl rfl (by kernel_rfl) (fun _ _ _ h => h) (Or.inl ⟨by rfl, ?_⟩) ?_ ?_
  rotate_left
  · intro w'
    go_simp
    with_reducible rfl
  rotate_left
  · simp only [Act.put, List.setIfInBounds_toArray, List.set_cons_zero, List.set_cons_succ, i64_w, i32_w]
    rfl
  refine one_ (i := 8) (N := some 19) #[true, true, true, true, true, true, true, true, true, false, true, false, false, false] rfl rfl (by kernel_rfl) (by decide) (fun K hK => ?_)
  refine goes_ Try.func24 (by kernel_rfl) rfl #[.int .u64 s, .int .i64 4, .bool true] (by rfl) rfl rfl (by (try simp only [List.map_toArray, List.map_cons, List.map_nil]); first | done | rfl) ?_
  with_reducible refine (U3.out _).mono ?_
  rintro e w5 ⟨rfl, hb⟩
  refine ⟨_, rfl, ?_⟩
  have HB := Lib.hid (HB.out.trans (hb.mono HB.out.size))
  refine hK.out _ _ (blk_below hHeld hb) (fun hHeld => ?_)
  clear hK K
  refine norm_ (a' := ?_) ?_ ?_
  rotate_left
  · show Act.put _ (some 19) _ = _
    simp only [Act.put, List.setIfInBounds_toArray, List.set_cons_zero, List.set_cons_succ, i64_w, i32_w]
    rfl
  refine pure_ (i := 9) (N := some 20) (v := ?_) (a' := ?_) #[true, true, true, true, true, true, true, true, true, true, true, false, false, false] rfl rfl (by kernel_rfl) (fun _ _ _ h => h) (Or.inl ⟨by rfl, ?_⟩) ?_ ?_
  rotate_left
  · intro w'
    go_simp
    with_reducible rfl
  rotate_left
  · simp only [Act.put, List.setIfInBounds_toArray, List.set_cons_zero, List.set_cons_succ, i64_w, i32_w]
    rfl
  refine pure_ (i := 11) (N := some 22) (v := ?_) (a' := ?_) #[true, true, true, true, true, true, true, true, true, true, true, true, false, false] rfl rfl (by kernel_rfl) (fun _ _ _ h => h) (Or.inl ⟨by rfl, ?_⟩) ?_ ?_
  rotate_left
  · intro w'
    go_simp
    with_reducible rfl
  rotate_left
  · simp only [Act.put, List.setIfInBounds_toArray, List.set_cons_zero, List.set_cons_succ, i64_w, i32_w]
    rfl
  refine pure_ (i := 12) (N := some 4) (v := ?_) (a' := ?_) #[true, true, true, true, true, true, true, true, true, true, true, true, true, false] rfl rfl (by kernel_rfl) (fun _ _ _ h => h) (Or.inl ⟨by rfl, ?_⟩) ?_ ?_
  rotate_left
  · intro w'
    go_simp
    with_reducible rfl
  rotate_left
  · simp only [Act.put, List.setIfInBounds_toArray, List.set_cons_zero, List.set_cons_succ, i64_w, i32_w]
    rfl
  refine pure_ (i := 13) (N := some 5) (v := ?_) (a' := ?_) #[true, true, true, true, true, true, true, true, true, true, true, true, true, true] rfl rfl (by kernel_rfl) (fun _ _ _ h => h) (Or.inl ⟨by rfl, ?_⟩) ?_ ?_
  rotate_left
  · intro w'
    go_simp
    with_reducible rfl
  rotate_left
  · simp only [Act.put, List.setIfInBounds_toArray, List.set_cons_zero, List.set_cons_succ, i64_w, i32_w]
    rfl
  refine done_ (by kernel_rfl) ?_

  go_wp2
  go_ret2
  exact ⟨rfl, HB.out⟩
end Go.Proofs.Ythooihkkghfhkaa.My
