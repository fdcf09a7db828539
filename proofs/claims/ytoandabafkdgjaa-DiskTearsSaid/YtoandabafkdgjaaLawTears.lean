/- The law DiskTears walked. -/
import Derived.Test.YtoandabafkdgjaaDisk4
import Derived.Test.YtoandabafkdgjaaLawDisk
namespace Go.Proofs.Ytoandabafkdgjaa.My
set_option linter.unusedSimpArgs false
set_option linter.unusedVariables false
open Go.RowKit Go.Proofs.YtoandabafkdgjaaW.PrintWords Go.Proofs.YtoandabafkdgjaaW.PrintLast Go.Proofs.Ytoandabafkdgjaa.Pm

def tS0 (A B : ByteArray) : DkS := ⟨[A, A], [(0, B)], -1, false⟩
theorem tears_s2 (A : ByteArray) : syncS (writeS (writeS (newS 2) 0 A) 1 A) = ⟨[A, A], [], -1, false⟩ := rfl
theorem tears_s3 (A B : ByteArray) : writeS ⟨[A, A], [], -1, false⟩ 0 B = tS0 A B := rfl
theorem tears_crash (A B : ByteArray) (f : UInt8) : crashS (tS0 A B) [f] = ⟨crashOne (some f) [A, A] (0, B), [], -1, false⟩ := rfl
/-- What a torn sector has. -/
def tornN (f : UInt8) : Nat := if f = 255 then 64 else f.toNat % 64
def tornB (A B : ByteArray) (n : Nat) : ByteArray := B.extract 0 n ++ A.extract n A.size
theorem torn_all {A B : ByteArray} (hA : A.size = 64) (hB : B.size = 64) : tornB A B 64 = B := by
  unfold tornB
  apply bl_ext
  rw [bl_append, bl_extract, bl_extract, List.take_of_length_le (by rw [bl_length]; omega), List.drop_zero, List.drop_eq_nil_of_le (by rw [List.length_take, bl_length]; omega), List.append_nil]
theorem torn_none (A B : ByteArray) : tornB A B 0 = A := by
  unfold tornB
  apply bl_ext
  rw [bl_append, bl_extract, bl_extract, List.take_zero, List.drop_zero, List.drop_zero, List.take_of_length_le (by rw [bl_length]; exact Nat.le_refl _)]
  rfl
theorem hereS_0 (x y : ByteArray) (hx : x.size = 64) : hereS [x, y] 0 = x := by unfold hereS; exact if_neg (by show ¬ x.size = 0; omega)
theorem hereS_1 (x y : ByteArray) (hy : y.size = 64) : hereS [x, y] 1 = y := by unfold hereS; exact if_neg (by show ¬ y.size = 0; omega)
theorem tornB_size {A B : ByteArray} {n : Nat} (hA : A.size = 64) (hB : B.size = 64) (hn : n ≤ 64) : (tornB A B n).size = 64 := by
  unfold tornB
  rw [ByteArray.size_append, ByteArray.size_extract, ByteArray.size_extract]
  omega
theorem tears_read (A B : ByteArray) (f : UInt8) (hA : A.size = 64) (hB : B.size = 64) : readS (crashS (tS0 A B) [f]) 0 = tornB A B (tornN f) ∧ readS (crashS (tS0 A B) [f]) 1 = A := by
  rw [tears_crash]
  have h : ∃ x, crashOne (some f) [A, A] (0, B) = [x, A] ∧ x = tornB A B (tornN f) ∧ x.size = 64 := by
    unfold crashOne tornN
    by_cases h0 : f = 0
    · subst h0
      exact ⟨A, rfl, (torn_none A B).symm, hA⟩
    · by_cases h2 : f = 255
      · subst h2
        exact ⟨B, rfl, (torn_all hA hB).symm, hB⟩
      · refine ⟨tornB A B (f.toNat % 64), ?_, by rw [if_neg h2], tornB_size hA hB (by omega)⟩
        simp only [if_neg h0, if_neg h2, hereS_0 A A hA]
        rfl
  obtain ⟨x, h1, h2, h3⟩ := h
  rw [h1]
  exact ⟨(hereS_0 x A h3).trans h2, hereS_1 x A hA⟩
theorem tears_may (A B : ByteArray) (f : UInt8) (i : Nat) (hi : i < 2) : mayS (crashS (tS0 A B) [f]) i = 0 := by
  rw [tears_crash]
  have hl : (crashOne (some f) [A, A] (0, B)).length = 2 := by
    unfold crashOne
    simp only
    split
    · rfl
    · split
      · rfl
      · rfl
  unfold mayS
  rw [if_neg (by simp), if_neg (by simp only; rw [hl]; omega)]
set_option maxRecDepth 100000 in
set_option maxHeartbeats 8000000 in
theorem tears_law (a b f : UInt8) (w : World) : Calls Try.prog 3 #[.int .u8 (a.toNat : Int), .int .u8 (b.toNat : Int), .int .u8 (f.toNat : Int)] w fun e w' => e = .returned (.bool true) ∧ Below w.heap.size w w' := by
  have HB := Lib.hid (Below.refl w.heap.size w)
  have FA := Lib.hid (fun w => full_any a w)
  have FB := Lib.hid (fun w => full_any b w)
  have hA := fullB_size a
  have hBs := fullB_size b
  generalize fullB a = A at *
  generalize fullB b = B at *
  obtain ⟨na, hna⟩ : ∃ n : Int, (a.toNat : Int) = n := ⟨_, rfl⟩
  obtain ⟨nb, hnb⟩ : ∃ n : Int, (b.toNat : Int) = n := ⟨_, rfl⟩
  rw [hna] at FA ⊢
  rw [hnb] at FB ⊢
  clear hna hnb
  have HAB := Lib.hid (And.intro hA hBs); clear hA hBs
  have O0 := newS_ok 2
  have O1 := writeS_ok O0 (i := 0) (b := A) (by decide) HAB.out.1
  have O2 := writeS_ok O1 (i := 1) (b := A) (by show (1 : Nat) < 2; decide) HAB.out.1
  have O3 := syncS_ok O2
  rw [tears_s2] at O3
  have O4 := writeS_ok O3 (i := 0) (b := B) (by show (0 : Nat) < 2; decide) HAB.out.2
  rw [tears_s3] at O4
  have O5 := crashS_ok O4 [f]
  have OO := Lib.hid (And.intro O0 (And.intro O1 (And.intro O2 (And.intro O3 (And.intro O4 O5)))))
  clear O0 O1 O2 O3 O4 O5
  go_enter Try.func3, Try.ntmps3
  go_wp2_with fail
  refine (dk_new 2 _).mono ?_
  rintro e w1 ⟨h, V, W, rfl, hk, hb⟩
  have HK := Lib.hid hk
  have HB := Lib.hid (HB.out.trans hb)
  clear hk hb
  go_wp2_with fail
  refine (awake07 _).mono ?_
  rintro e wz ⟨rfl, hb⟩
  have HK := Lib.hid (HK.out.below hb)
  have HB := Lib.hid (HB.out.trans (hb.mono HB.out.size))
  clear hb
  go_wp2_with fail
  refine (FA.out _).mono ?_
  rintro e wz ⟨rfl, hb⟩
  have HK := Lib.hid (HK.out.below hb)
  have HB := Lib.hid (HB.out.trans (hb.mono HB.out.size))
  clear hb
  go_wp2_with fail
  refine (dk_write HK.out OO.out.1 0 A (by decide) HAB.out.1 (by show (0 : Nat) ≤ 1000000; decide) HB.out.size).mono ?_
  rintro e wz ⟨rfl, ⟨W', hk⟩, hb⟩
  have HK := Lib.hid hk
  have HB := Lib.hid (HB.out.trans hb)
  clear hk hb
  go_wp2_with fail
  refine (FA.out _).mono ?_
  rintro e wz ⟨rfl, hb⟩
  have HK := Lib.hid (HK.out.below hb)
  have HB := Lib.hid (HB.out.trans (hb.mono HB.out.size))
  clear hb
  go_wp2_with fail
  refine (dk_write HK.out OO.out.2.1 1 A (by rfl) HAB.out.1 (by show (1 : Nat) ≤ 1000000; decide) HB.out.size).mono ?_
  rintro e wz ⟨rfl, ⟨W', hk⟩, hb⟩
  have HK := Lib.hid hk
  have HB := Lib.hid (HB.out.trans hb)
  clear hk hb
  go_wp2_with fail
  refine (dk_sync HK.out OO.out.2.2.1 rfl (by show (2 : Nat) ≤ 1000000; decide) HB.out.size).mono ?_
  rintro e wz ⟨rfl, hk, hb⟩
  rw [tears_s2] at hk
  have HK := Lib.hid hk
  have HB := Lib.hid (HB.out.trans hb)
  clear hk hb
  go_wp2_with fail
  refine (FB.out _).mono ?_
  rintro e wz ⟨rfl, hb⟩
  have HK := Lib.hid (HK.out.below hb)
  have HB := Lib.hid (HB.out.trans (hb.mono HB.out.size))
  clear hb
  go_wp2_with fail
  refine (dk_write HK.out OO.out.2.2.2.1 0 B (by rfl) HAB.out.2 (by show (0 : Nat) ≤ 1000000; decide) HB.out.size).mono ?_
  rintro e wz ⟨rfl, ⟨W', hk⟩, hb⟩
  rw [tears_s3] at hk
  have HK := Lib.hid hk
  have HB := Lib.hid (HB.out.trans hb)
  clear hk hb
  have hRD := tears_read A B f HAB.out.1 HAB.out.2
  obtain ⟨tn, htn⟩ : ∃ tn, tornN f = tn := ⟨_, rfl⟩
  rw [htn] at hRD
  have HRD := Lib.hid hRD; clear hRD
  have HTN := Lib.hid htn; clear htn
  go_wp2_with fail
  have HFT := Lib.hid (show Fts (wz.alloc (.cells #[.int .u8 (f.toNat : Int)] 5)) w.heap.size (some ⟨wz.heap.size, 0, none⟩) [f] from fun _ => ⟨wz.heap.size, 0, rfl, by simp, .inr ⟨_, blk_new wz _⟩, fun j hj => by
    obtain rfl : j = 0 := by simp at hj; exact hj
    exact (blk_cell (blk_new wz _) 0).trans rfl⟩)
  have HK := Lib.hid (HK.out.alloc (.cells #[.int .u8 (f.toNat : Int)] 5))
  have HB := Lib.hid (HB.out.alloc HB.out.size (.cells #[.int .u8 (f.toNat : Int)] 5))
  generalize wz.alloc (.cells #[.int .u8 (f.toNat : Int)] 5) = wa at *
  generalize wz.heap.size = fb at *
  refine (dk_crash HK.out OO.out.2.2.2.2.1 (some ⟨fb, 0, none⟩) 1 1 [f] HFT.out rfl (by show (1 : Nat) ≤ 1000000; decide) HB.out.size).mono ?_
  rintro e wc ⟨rfl, hk, hb⟩
  have HK := Lib.hid hk
  have HB := Lib.hid (HB.out.trans hb)
  clear hk hb HFT
  have R0 := Lib.hid (fun u (k : Dk u w.heap.size h V (.slice none 0 0) (crashS (tS0 A B) [f])) => dk_read k OO.out.2.2.2.2.2 0 (tears_may A B f 0 (by decide)) (by show (0 : Nat) ≤ 1000000; decide))
  have R1 := Lib.hid (fun u (k : Dk u w.heap.size h V (.slice none 0 0) (crashS (tS0 A B) [f])) => dk_read k OO.out.2.2.2.2.2 1 (tears_may A B f 1 (by decide)) (by show (0 : Nat) ≤ 1000000; decide))
  rw [HRD.out.1] at R0
  rw [HRD.out.2] at R1
  go_wp2_with fail
  refine (R0.out _ HK.out).mono ?_
  rintro e wd ⟨rfl, hb⟩
  have HK := Lib.hid (HK.out.below hb)
  have HB := Lib.hid (HB.out.trans (hb.mono HB.out.size))
  clear hb
  go_wp2_with fail
  refine (R1.out _ HK.out).mono ?_
  rintro e we ⟨rfl, hb⟩
  have HB := Lib.hid (HB.out.trans (hb.mono HB.out.size))
  clear hb HK R0 R1 HRD OO
  unfold tornB
  obtain ⟨n, hn, hn64, n1, n2, n3⟩ := u8_mod f
  by_cases hf : f = 255
  · have z0 : ((f.toNat : Int) == 255) = true := by rw [hf]; rfl
    have z1 : f.toNat = 255 := by rw [hf]; rfl
    obtain rfl : tn = 64 := by rw [← HTN.out]; exact if_pos hf
    have ht64 : 64 ≤ 64 := Nat.le_refl 64
    clear hf hn
    have ta : 64 ≤ A.size := by rw [HAB.out.1]; exact ht64
    have tb : 64 ≤ B.size := by rw [HAB.out.2]; exact ht64
    have ta2 : (0 : Int) ≤ (64 : Int) ∧ (64 : Int) ≤ (A.size : Int) ∧ (64 : Int) ≤ (B.size : Int) := by omega
    have q1 : (9223372036854775807 < 64 + (A.size - 64)) = False := eq_false (by rw [HAB.out.1]; omega)
    have q2 : (9223372036854775807 < (B.extract 0 64).size + (A.size - 64)) = False := eq_false (by rw [ByteArray.size_extract, HAB.out.1]; omega)
    have q3 : (9223372036854775807 < A.size) = False := eq_false (by rw [HAB.out.1]; omega)
    clear ht64
    go_wp2
    refine start_ (n := 26) (S := fun w' => True) (ds := []) #[false, false, false, false, false, false, false, false, false, false, false, false, false, false, false, false, false, false, false, false, false, false, false, false, false, false] (by kernel_rfl) rfl rfl trivial (fun hHeld => ?_)
    have HB := Lib.hid (below_drew HB.out)
    refine pure_ (i := 0) (N := some 59) (v := ?_) (a' := ?_) #[true, false, false, false, false, false, false, false, false, false, false, false, false, false, false, false, false, false, false, false, false, false, false, false, false, false] rfl rfl (by kernel_rfl) (fun _ _ _ h => h) (Or.inl ⟨by rfl, ?_⟩) ?_ ?_
    rotate_left
    · intro w'
      go_simp
      with_reducible rfl
    rotate_left
    · simp only [Act.put, List.setIfInBounds_toArray, List.set_cons_zero, List.set_cons_succ, i64_w, i32_w]
      rfl
    refine pure_ (i := 1) (N := some 60) (v := ?_) (a' := ?_) #[true, true, false, false, false, false, false, false, false, false, false, false, false, false, false, false, false, false, false, false, false, false, false, false, false, false] rfl rfl (by kernel_rfl) (fun _ _ _ h => h) (Or.inl ⟨by rfl, ?_⟩) ?_ ?_
    rotate_left
    · intro w'
      go_simp
      with_reducible rfl
    rotate_left
    · simp only [Act.put, List.setIfInBounds_toArray, List.set_cons_zero, List.set_cons_succ, i64_w, i32_w]
      rfl
    refine pure_ (i := 2) (N := some 61) (v := ?_) (a' := ?_) #[true, true, true, false, false, false, false, false, false, false, false, false, false, false, false, false, false, false, false, false, false, false, false, false, false, false] rfl rfl (by kernel_rfl) (fun _ _ _ h => h) (Or.inl ⟨by rfl, ?_⟩) ?_ ?_
    rotate_left
    · intro w'
      go_simp
      with_reducible rfl
    rotate_left
    · simp only [Act.put, List.setIfInBounds_toArray, List.set_cons_zero, List.set_cons_succ, i64_w, i32_w]
      rfl
    refine pure_ (i := 3) (N := some 62) (v := ?_) (a' := ?_) #[true, true, true, true, false, false, false, false, false, false, false, false, false, false, false, false, false, false, false, false, false, false, false, false, false, false] rfl rfl (by kernel_rfl) (fun _ _ _ h => h) (Or.inl ⟨by rfl, ?_⟩) ?_ ?_
    rotate_left
    · intro w'
      go_simp
      with_reducible rfl
    rotate_left
    · simp only [Act.put, List.setIfInBounds_toArray, List.set_cons_zero, List.set_cons_succ, i64_w, i32_w]
      rfl
    refine pure_ (i := 4) (N := some 63) (v := ?_) (a' := ?_) #[true, true, true, true, true, false, false, false, false, false, false, false, false, false, false, false, false, false, false, false, false, false, false, false, false, false] rfl rfl (by kernel_rfl) (fun _ _ _ h => h) (Or.inl ⟨by rfl, ?_⟩) ?_ ?_
    rotate_left
    · intro w'
      go_simp
      with_reducible rfl
    rotate_left
    · simp only [Act.put, List.setIfInBounds_toArray, List.set_cons_zero, List.set_cons_succ, i64_w, i32_w]
      rfl
    refine pure_ (i := 5) (N := some 64) (v := ?_) (a' := ?_) #[true, true, true, true, true, true, false, false, false, false, false, false, false, false, false, false, false, false, false, false, false, false, false, false, false, false] rfl rfl (by kernel_rfl) (fun _ _ _ h => h) (Or.inl ⟨by rfl, ?_⟩) ?_ ?_
    rotate_left
    · intro w'
      go_simp
      with_reducible rfl
    rotate_left
    · simp only [Act.put, List.setIfInBounds_toArray, List.set_cons_zero, List.set_cons_succ, i64_w, i32_w]
      rfl
    refine pure_ (i := 6) (N := some 65) (v := ?_) (a' := ?_) #[true, true, true, true, true, true, true, false, false, false, false, false, false, false, false, false, false, false, false, false, false, false, false, false, false, false] rfl rfl (by kernel_rfl) (fun _ _ _ h => h) (Or.inl ⟨by rfl, ?_⟩) ?_ ?_
    rotate_left
    · intro w'
      go_simp
      with_reducible rfl
    rotate_left
    · simp only [Act.put, List.setIfInBounds_toArray, List.set_cons_zero, List.set_cons_succ, i64_w, i32_w]
      rfl
    refine pure_ (i := 7) (N := some 66) (v := ?_) (a' := ?_) #[true, true, true, true, true, true, true, true, false, false, false, false, false, false, false, false, false, false, false, false, false, false, false, false, false, false] rfl rfl (by kernel_rfl) (fun _ _ _ h => h) (Or.inl ⟨by rfl, ?_⟩) ?_ ?_
    rotate_left
    · intro w'
      go_simp
      with_reducible rfl
    rotate_left
    · simp only [Act.put, List.setIfInBounds_toArray, List.set_cons_zero, List.set_cons_succ, i64_w, i32_w]
      rfl
    refine pure_ (i := 8) (N := some 67) (v := ?_) (a' := ?_) #[true, true, true, true, true, true, true, true, true, false, false, false, false, false, false, false, false, false, false, false, false, false, false, false, false, false] rfl rfl (by kernel_rfl) (fun _ _ _ h => h) (Or.inl ⟨by rfl, ?_⟩) ?_ ?_
    rotate_left
    · intro w'
      go_simp
      with_reducible rfl
    rotate_left
    · simp only [Act.put, List.setIfInBounds_toArray, List.set_cons_zero, List.set_cons_succ, i64_w, i32_w]
      rfl
    refine pure_ (i := 10) (N := some 69) (v := ?_) (a' := ?_) #[true, true, true, true, true, true, true, true, true, false, true, false, false, false, false, false, false, false, false, false, false, false, false, false, false, false] rfl rfl (by kernel_rfl) (fun _ _ _ h => h) (Or.inl ⟨by rfl, ?_⟩) ?_ ?_
    rotate_left
    · intro w'
      go_simp
      with_reducible rfl
    rotate_left
    · simp only [Act.put, List.setIfInBounds_toArray, List.set_cons_zero, List.set_cons_succ, i64_w, i32_w]
      rfl
    refine pure_ (i := 12) (N := some 71) (v := ?_) (a' := ?_) #[true, true, true, true, true, true, true, true, true, false, true, false, true, false, false, false, false, false, false, false, false, false, false, false, false, false] rfl rfl (by kernel_rfl) (fun _ _ _ h => h) (Or.inl ⟨by rfl, ?_⟩) ?_ ?_
    rotate_left
    · intro w'
      go_simp
      with_reducible rfl
    rotate_left
    · simp only [Act.put, List.setIfInBounds_toArray, List.set_cons_zero, List.set_cons_succ, i64_w, i32_w]
      rfl
    refine pure_ (i := 14) (N := some 73) (v := ?_) (a' := ?_) #[true, true, true, true, true, true, true, true, true, false, true, false, true, false, true, false, false, false, false, false, false, false, false, false, false, false] rfl rfl (by kernel_rfl) (fun _ _ _ h => h) (Or.inl ⟨by rfl, ?_⟩) ?_ ?_
    rotate_left
    · intro w'
      go_simp
      with_reducible rfl
    rotate_left
    · simp only [Act.put, List.setIfInBounds_toArray, List.set_cons_zero, List.set_cons_succ, i64_w, i32_w]
      rfl
    refine one_ (i := 9) (N := some 68) #[true, true, true, true, true, true, true, true, true, true, true, false, true, false, true, false, false, false, false, false, false, false, false, false, false, false] rfl rfl (by kernel_rfl) (by decide) (fun K hK => ?_)
    refine goes_ Try.func11 (by kernel_rfl) rfl #[.int .u8 nb] (by rfl) rfl rfl (by (try simp only [List.map_toArray, List.map_cons, List.map_nil]); first | done | rfl) ?_
    with_reducible refine (FB.out _).mono ?_
    rintro e wxa ⟨rfl, hb⟩
    refine ⟨_, rfl, ?_⟩
    have HB := Lib.hid (HB.out.trans (hb.mono HB.out.size))
    clear hb
    refine hK.out _ _ trivial (fun hHeld => ?_)
    clear hK K
    refine norm_ (a' := ?_) ?_ ?_
    rotate_left
    · show Act.put _ (some 68) _ = _
      simp only [Act.put, List.setIfInBounds_toArray, List.set_cons_zero, List.set_cons_succ, i64_w, i32_w]
      rfl
    refine pure_ (i := 11) (N := some 70) (v := ?_) (a' := ?_) #[true, true, true, true, true, true, true, true, true, true, true, true, true, false, true, false, false, false, false, false, false, false, false, false, false, false] rfl rfl (by kernel_rfl) (fun _ _ _ h => h) (Or.inl ⟨by rfl, ?_⟩) ?_ ?_
    rotate_left
    · intro w'
      go_simp
      with_reducible rfl
    rotate_left
    · simp only [Act.put, List.setIfInBounds_toArray, List.set_cons_zero, List.set_cons_succ, i64_w, i32_w]
      rfl
    refine one_ (i := 13) (N := some 72) #[true, true, true, true, true, true, true, true, true, true, true, true, true, true, true, false, false, false, false, false, false, false, false, false, false, false] rfl rfl (by kernel_rfl) (by decide) (fun K hK => ?_)
    refine goes_ Try.func11 (by kernel_rfl) rfl #[.int .u8 na] (by rfl) rfl rfl (by (try simp only [List.map_toArray, List.map_cons, List.map_nil]); first | done | rfl) ?_
    with_reducible refine (FA.out _).mono ?_
    rintro e wxb ⟨rfl, hb⟩
    refine ⟨_, rfl, ?_⟩
    have HB := Lib.hid (HB.out.trans (hb.mono HB.out.size))
    clear hb
    refine hK.out _ _ trivial (fun hHeld => ?_)
    clear hK K
    refine norm_ (a' := ?_) ?_ ?_
    rotate_left
    · show Act.put _ (some 72) _ = _
      simp only [Act.put, List.setIfInBounds_toArray, List.set_cons_zero, List.set_cons_succ, i64_w, i32_w]
      rfl
    refine pure_ (i := 15) (N := some 74) (v := ?_) (a' := ?_) #[true, true, true, true, true, true, true, true, true, true, true, true, true, true, true, true, false, false, false, false, false, false, false, false, false, false] rfl rfl (by kernel_rfl) (fun _ _ _ h => h) (Or.inl ⟨by rfl, ?_⟩) ?_ ?_
    rotate_left
    · intro w'
      go_simp
      with_reducible rfl
    rotate_left
    · simp only [Act.put, List.setIfInBounds_toArray, List.set_cons_zero, List.set_cons_succ, i64_w, i32_w]
      rfl
    refine pure_ (i := 16) (N := some 75) (v := ?_) (a' := ?_) #[true, true, true, true, true, true, true, true, true, true, true, true, true, true, true, true, true, false, false, false, false, false, false, false, false, false] rfl rfl (by kernel_rfl) (fun _ _ _ h => h) (Or.inl ⟨by rfl, ?_⟩) ?_ ?_
    rotate_left
    · intro w'
      go_simp
      with_reducible rfl
    rotate_left
    · simp only [Act.put, List.setIfInBounds_toArray, List.set_cons_zero, List.set_cons_succ, i64_w, i32_w]
      rfl
    refine pure_ (i := 17) (N := some 76) (v := ?_) (a' := ?_) #[true, true, true, true, true, true, true, true, true, true, true, true, true, true, true, true, true, true, false, false, false, false, false, false, false, false] rfl rfl (by kernel_rfl) (fun _ _ _ h => h) (Or.inl ⟨by rfl, ?_⟩) ?_ ?_
    rotate_left
    · intro w'
      go_simp
      with_reducible rfl
    rotate_left
    · simp only [Act.put, List.setIfInBounds_toArray, List.set_cons_zero, List.set_cons_succ, i64_w, i32_w]
      rfl
    refine pure_ (i := 18) (N := some 77) (v := ?_) (a' := ?_) #[true, true, true, true, true, true, true, true, true, true, true, true, true, true, true, true, true, true, true, false, false, false, false, false, false, false] rfl rfl (by kernel_rfl) (fun _ _ _ h => h) (Or.inl ⟨by rfl, ?_⟩) ?_ ?_
    rotate_left
    · intro w'
      go_simp
      with_reducible rfl
    rotate_left
    · simp only [Act.put, List.setIfInBounds_toArray, List.set_cons_zero, List.set_cons_succ, i64_w, i32_w]
      rfl
    refine pure_ (i := 19) (N := some 78) (v := ?_) (a' := ?_) #[true, true, true, true, true, true, true, true, true, true, true, true, true, true, true, true, true, true, true, true, false, false, false, false, false, false] rfl rfl (by kernel_rfl) (fun _ _ _ h => h) (Or.inl ⟨by rfl, ?_⟩) ?_ ?_
    rotate_left
    · intro w'
      go_simp
      with_reducible rfl
    rotate_left
    · simp only [Act.put, List.setIfInBounds_toArray, List.set_cons_zero, List.set_cons_succ, i64_w, i32_w]
      rfl
    refine pure_ (i := 20) (N := some 79) (v := ?_) (a' := ?_) #[true, true, true, true, true, true, true, true, true, true, true, true, true, true, true, true, true, true, true, true, true, false, false, false, false, false] rfl rfl (by kernel_rfl) (fun _ _ _ h => h) (Or.inl ⟨by rfl, ?_⟩) ?_ ?_
    rotate_left
    · intro w'
      go_simp
      with_reducible rfl
    rotate_left
    · simp only [Act.put, List.setIfInBounds_toArray, List.set_cons_zero, List.set_cons_succ, i64_w, i32_w]
      rfl
    refine pure_ (i := 21) (N := some 80) (v := ?_) (a' := ?_) #[true, true, true, true, true, true, true, true, true, true, true, true, true, true, true, true, true, true, true, true, true, true, false, false, false, false] rfl rfl (by kernel_rfl) (fun _ _ _ h => h) (Or.inl ⟨by rfl, ?_⟩) ?_ ?_
    rotate_left
    · intro w'
      go_simp
      with_reducible rfl
    rotate_left
    · simp only [Act.put, List.setIfInBounds_toArray, List.set_cons_zero, List.set_cons_succ, i64_w, i32_w]
      rfl
    refine one_ (i := 22) (N := some 81) #[true, true, true, true, true, true, true, true, true, true, true, true, true, true, true, true, true, true, true, true, true, true, true, false, false, false] rfl rfl (by kernel_rfl) (by decide) (fun K hK => ?_)
    refine goes_ Try.func11 (by kernel_rfl) rfl #[.int .u8 na] (by rfl) rfl rfl (by (try simp only [List.map_toArray, List.map_cons, List.map_nil]); first | done | rfl) ?_
    with_reducible refine (FA.out _).mono ?_
    rintro e wy ⟨rfl, hb⟩
    refine ⟨_, rfl, ?_⟩
    have HB := Lib.hid (HB.out.trans (hb.mono HB.out.size))
    clear hb
    refine hK.out _ _ trivial (fun hHeld => ?_)
    clear hK K
    refine norm_ (a' := ?_) ?_ ?_
    rotate_left
    · show Act.put _ (some 81) _ = _
      simp only [Act.put, List.setIfInBounds_toArray, List.set_cons_zero, List.set_cons_succ, i64_w, i32_w]
      rfl
    refine pure_ (i := 23) (N := some 82) (v := ?_) (a' := ?_) #[true, true, true, true, true, true, true, true, true, true, true, true, true, true, true, true, true, true, true, true, true, true, true, true, false, false] rfl rfl (by kernel_rfl) (fun _ _ _ h => h) (Or.inl ⟨by rfl, ?_⟩) ?_ ?_
    rotate_left
    · intro w'
      go_simp
      with_reducible rfl
    rotate_left
    · simp only [Act.put, List.setIfInBounds_toArray, List.set_cons_zero, List.set_cons_succ, i64_w, i32_w]
      rfl
    refine pure_ (i := 24) (N := some 83) (v := ?_) (a' := ?_) #[true, true, true, true, true, true, true, true, true, true, true, true, true, true, true, true, true, true, true, true, true, true, true, true, true, false] rfl rfl (by kernel_rfl) (fun _ _ _ h => h) (Or.inl ⟨by rfl, ?_⟩) ?_ ?_
    rotate_left
    · intro w'
      go_simp
      with_reducible rfl
    rotate_left
    · simp only [Act.put, List.setIfInBounds_toArray, List.set_cons_zero, List.set_cons_succ, i64_w, i32_w]
      rfl
    refine pure_ (i := 25) (N := some 6) (v := ?_) (a' := ?_) #[true, true, true, true, true, true, true, true, true, true, true, true, true, true, true, true, true, true, true, true, true, true, true, true, true, true] rfl rfl (by kernel_rfl) (fun _ _ _ h => h) (Or.inl ⟨by rfl, ?_⟩) ?_ ?_
    rotate_left
    · intro w'
      go_simp
      with_reducible rfl
    rotate_left
    · simp only [Act.put, List.setIfInBounds_toArray, List.set_cons_zero, List.set_cons_succ, i64_w, i32_w]
      rfl
    refine done_ (by kernel_rfl) ?_
    clear hHeld
    go_wp2
    go_ret
    exact ⟨rfl, HB.out⟩
  · have z1 : ¬ f.toNat = 255 := fun e => hf (UInt8.toNat.inj e)
    have z0 : ((f.toNat : Int) == 255) = false := beq_eq_false_iff_ne.2 (by clear n1 n2 n3; omega)
    obtain rfl : n = tn := by rw [← HTN.out]; exact ((if_neg hf).trans hn).symm
    have ht64 : n ≤ 64 := Nat.le_of_lt hn64
    clear hf hn
    have ta : n ≤ A.size := by rw [HAB.out.1]; exact ht64
    have tb : n ≤ B.size := by rw [HAB.out.2]; exact ht64
    have ta2 : (0 : Int) ≤ (n : Int) ∧ (n : Int) ≤ (A.size : Int) ∧ (n : Int) ≤ (B.size : Int) := by omega
    have q1 : (9223372036854775807 < n + (A.size - n)) = False := eq_false (by rw [HAB.out.1]; omega)
    have q2 : (9223372036854775807 < (B.extract 0 n).size + (A.size - n)) = False := eq_false (by rw [ByteArray.size_extract, HAB.out.1]; omega)
    have q3 : (9223372036854775807 < A.size) = False := eq_false (by rw [HAB.out.1]; omega)
    clear ht64
    go_wp2
    refine start_ (n := 26) (S := fun w' => True) (ds := []) #[false, false, false, false, false, false, false, false, false, false, false, false, false, false, false, false, false, false, false, false, false, false, false, false, false, false] (by kernel_rfl) rfl rfl trivial (fun hHeld => ?_)
    have HB := Lib.hid (below_drew HB.out)
    refine pure_ (i := 0) (N := some 59) (v := ?_) (a' := ?_) #[true, false, false, false, false, false, false, false, false, false, false, false, false, false, false, false, false, false, false, false, false, false, false, false, false, false] rfl rfl (by kernel_rfl) (fun _ _ _ h => h) (Or.inl ⟨by rfl, ?_⟩) ?_ ?_
    rotate_left
    · intro w'
      go_simp
      with_reducible rfl
    rotate_left
    · simp only [Act.put, List.setIfInBounds_toArray, List.set_cons_zero, List.set_cons_succ, i64_w, i32_w]
      rfl
    refine pure_ (i := 1) (N := some 60) (v := ?_) (a' := ?_) #[true, true, false, false, false, false, false, false, false, false, false, false, false, false, false, false, false, false, false, false, false, false, false, false, false, false] rfl rfl (by kernel_rfl) (fun _ _ _ h => h) (Or.inl ⟨by rfl, ?_⟩) ?_ ?_
    rotate_left
    · intro w'
      go_simp
      with_reducible rfl
    rotate_left
    · simp only [Act.put, List.setIfInBounds_toArray, List.set_cons_zero, List.set_cons_succ, i64_w, i32_w]
      rfl
    refine pure_ (i := 2) (N := some 61) (v := ?_) (a' := ?_) #[true, true, true, false, false, false, false, false, false, false, false, false, false, false, false, false, false, false, false, false, false, false, false, false, false, false] rfl rfl (by kernel_rfl) (fun _ _ _ h => h) (Or.inl ⟨by rfl, ?_⟩) ?_ ?_
    rotate_left
    · intro w'
      go_simp
      with_reducible rfl
    rotate_left
    · simp only [Act.put, List.setIfInBounds_toArray, List.set_cons_zero, List.set_cons_succ, i64_w, i32_w]
      rfl
    refine pure_ (i := 3) (N := some 62) (v := ?_) (a' := ?_) #[true, true, true, true, false, false, false, false, false, false, false, false, false, false, false, false, false, false, false, false, false, false, false, false, false, false] rfl rfl (by kernel_rfl) (fun _ _ _ h => h) (Or.inl ⟨by rfl, ?_⟩) ?_ ?_
    rotate_left
    · intro w'
      go_simp
      with_reducible rfl
    rotate_left
    · simp only [Act.put, List.setIfInBounds_toArray, List.set_cons_zero, List.set_cons_succ, i64_w, i32_w]
      rfl
    refine pure_ (i := 4) (N := some 63) (v := ?_) (a' := ?_) #[true, true, true, true, true, false, false, false, false, false, false, false, false, false, false, false, false, false, false, false, false, false, false, false, false, false] rfl rfl (by kernel_rfl) (fun _ _ _ h => h) (Or.inl ⟨by rfl, ?_⟩) ?_ ?_
    rotate_left
    · intro w'
      go_simp
      with_reducible rfl
    rotate_left
    · simp only [Act.put, List.setIfInBounds_toArray, List.set_cons_zero, List.set_cons_succ, i64_w, i32_w]
      rfl
    refine pure_ (i := 5) (N := some 64) (v := ?_) (a' := ?_) #[true, true, true, true, true, true, false, false, false, false, false, false, false, false, false, false, false, false, false, false, false, false, false, false, false, false] rfl rfl (by kernel_rfl) (fun _ _ _ h => h) (Or.inl ⟨by rfl, ?_⟩) ?_ ?_
    rotate_left
    · intro w'
      go_simp
      with_reducible rfl
    rotate_left
    · simp only [Act.put, List.setIfInBounds_toArray, List.set_cons_zero, List.set_cons_succ, i64_w, i32_w]
      rfl
    refine pure_ (i := 6) (N := some 65) (v := ?_) (a' := ?_) #[true, true, true, true, true, true, true, false, false, false, false, false, false, false, false, false, false, false, false, false, false, false, false, false, false, false] rfl rfl (by kernel_rfl) (fun _ _ _ h => h) (Or.inl ⟨by rfl, ?_⟩) ?_ ?_
    rotate_left
    · intro w'
      go_simp
      with_reducible rfl
    rotate_left
    · simp only [Act.put, List.setIfInBounds_toArray, List.set_cons_zero, List.set_cons_succ, i64_w, i32_w]
      rfl
    refine pure_ (i := 7) (N := some 66) (v := ?_) (a' := ?_) #[true, true, true, true, true, true, true, true, false, false, false, false, false, false, false, false, false, false, false, false, false, false, false, false, false, false] rfl rfl (by kernel_rfl) (fun _ _ _ h => h) (Or.inl ⟨by rfl, ?_⟩) ?_ ?_
    rotate_left
    · intro w'
      go_simp
      with_reducible rfl
    rotate_left
    · simp only [Act.put, List.setIfInBounds_toArray, List.set_cons_zero, List.set_cons_succ, i64_w, i32_w]
      rfl
    refine pure_ (i := 8) (N := some 67) (v := ?_) (a' := ?_) #[true, true, true, true, true, true, true, true, true, false, false, false, false, false, false, false, false, false, false, false, false, false, false, false, false, false] rfl rfl (by kernel_rfl) (fun _ _ _ h => h) (Or.inl ⟨by rfl, ?_⟩) ?_ ?_
    rotate_left
    · intro w'
      go_simp
      with_reducible rfl
    rotate_left
    · simp only [Act.put, List.setIfInBounds_toArray, List.set_cons_zero, List.set_cons_succ, i64_w, i32_w]
      rfl
    refine pure_ (i := 10) (N := some 69) (v := ?_) (a' := ?_) #[true, true, true, true, true, true, true, true, true, false, true, false, false, false, false, false, false, false, false, false, false, false, false, false, false, false] rfl rfl (by kernel_rfl) (fun _ _ _ h => h) (Or.inl ⟨by rfl, ?_⟩) ?_ ?_
    rotate_left
    · intro w'
      go_simp
      with_reducible rfl
    rotate_left
    · simp only [Act.put, List.setIfInBounds_toArray, List.set_cons_zero, List.set_cons_succ, i64_w, i32_w]
      rfl
    refine pure_ (i := 12) (N := some 71) (v := ?_) (a' := ?_) #[true, true, true, true, true, true, true, true, true, false, true, false, true, false, false, false, false, false, false, false, false, false, false, false, false, false] rfl rfl (by kernel_rfl) (fun _ _ _ h => h) (Or.inl ⟨by rfl, ?_⟩) ?_ ?_
    rotate_left
    · intro w'
      go_simp
      with_reducible rfl
    rotate_left
    · simp only [Act.put, List.setIfInBounds_toArray, List.set_cons_zero, List.set_cons_succ, i64_w, i32_w]
      rfl
    refine pure_ (i := 14) (N := some 73) (v := ?_) (a' := ?_) #[true, true, true, true, true, true, true, true, true, false, true, false, true, false, true, false, false, false, false, false, false, false, false, false, false, false] rfl rfl (by kernel_rfl) (fun _ _ _ h => h) (Or.inl ⟨by rfl, ?_⟩) ?_ ?_
    rotate_left
    · intro w'
      go_simp
      with_reducible rfl
    rotate_left
    · simp only [Act.put, List.setIfInBounds_toArray, List.set_cons_zero, List.set_cons_succ, i64_w, i32_w]
      rfl
    refine one_ (i := 9) (N := some 68) #[true, true, true, true, true, true, true, true, true, true, true, false, true, false, true, false, false, false, false, false, false, false, false, false, false, false] rfl rfl (by kernel_rfl) (by decide) (fun K hK => ?_)
    refine goes_ Try.func11 (by kernel_rfl) rfl #[.int .u8 nb] (by rfl) rfl rfl (by (try simp only [List.map_toArray, List.map_cons, List.map_nil]); first | done | rfl) ?_
    with_reducible refine (FB.out _).mono ?_
    rintro e wxa ⟨rfl, hb⟩
    refine ⟨_, rfl, ?_⟩
    have HB := Lib.hid (HB.out.trans (hb.mono HB.out.size))
    clear hb
    refine hK.out _ _ trivial (fun hHeld => ?_)
    clear hK K
    refine norm_ (a' := ?_) ?_ ?_
    rotate_left
    · show Act.put _ (some 68) _ = _
      simp only [Act.put, List.setIfInBounds_toArray, List.set_cons_zero, List.set_cons_succ, i64_w, i32_w]
      rfl
    refine pure_ (i := 11) (N := some 70) (v := ?_) (a' := ?_) #[true, true, true, true, true, true, true, true, true, true, true, true, true, false, true, false, false, false, false, false, false, false, false, false, false, false] rfl rfl (by kernel_rfl) (fun _ _ _ h => h) (Or.inl ⟨by rfl, ?_⟩) ?_ ?_
    rotate_left
    · intro w'
      go_simp
      with_reducible rfl
    rotate_left
    · simp only [Act.put, List.setIfInBounds_toArray, List.set_cons_zero, List.set_cons_succ, i64_w, i32_w]
      rfl
    refine one_ (i := 13) (N := some 72) #[true, true, true, true, true, true, true, true, true, true, true, true, true, true, true, false, false, false, false, false, false, false, false, false, false, false] rfl rfl (by kernel_rfl) (by decide) (fun K hK => ?_)
    refine goes_ Try.func11 (by kernel_rfl) rfl #[.int .u8 na] (by rfl) rfl rfl (by (try simp only [List.map_toArray, List.map_cons, List.map_nil]); first | done | rfl) ?_
    with_reducible refine (FA.out _).mono ?_
    rintro e wxb ⟨rfl, hb⟩
    refine ⟨_, rfl, ?_⟩
    have HB := Lib.hid (HB.out.trans (hb.mono HB.out.size))
    clear hb
    refine hK.out _ _ trivial (fun hHeld => ?_)
    clear hK K
    refine norm_ (a' := ?_) ?_ ?_
    rotate_left
    · show Act.put _ (some 72) _ = _
      simp only [Act.put, List.setIfInBounds_toArray, List.set_cons_zero, List.set_cons_succ, i64_w, i32_w]
      rfl
    refine pure_ (i := 15) (N := some 74) (v := ?_) (a' := ?_) #[true, true, true, true, true, true, true, true, true, true, true, true, true, true, true, true, false, false, false, false, false, false, false, false, false, false] rfl rfl (by kernel_rfl) (fun _ _ _ h => h) (Or.inl ⟨by rfl, ?_⟩) ?_ ?_
    rotate_left
    · intro w'
      go_simp
      with_reducible rfl
    rotate_left
    · simp only [Act.put, List.setIfInBounds_toArray, List.set_cons_zero, List.set_cons_succ, i64_w, i32_w]
      rfl
    refine pure_ (i := 16) (N := some 75) (v := ?_) (a' := ?_) #[true, true, true, true, true, true, true, true, true, true, true, true, true, true, true, true, true, false, false, false, false, false, false, false, false, false] rfl rfl (by kernel_rfl) (fun _ _ _ h => h) (Or.inl ⟨by rfl, ?_⟩) ?_ ?_
    rotate_left
    · intro w'
      go_simp
      with_reducible rfl
    rotate_left
    · simp only [Act.put, List.setIfInBounds_toArray, List.set_cons_zero, List.set_cons_succ, i64_w, i32_w]
      rfl
    refine pure_ (i := 17) (N := some 76) (v := ?_) (a' := ?_) #[true, true, true, true, true, true, true, true, true, true, true, true, true, true, true, true, true, true, false, false, false, false, false, false, false, false] rfl rfl (by kernel_rfl) (fun _ _ _ h => h) (Or.inl ⟨by rfl, ?_⟩) ?_ ?_
    rotate_left
    · intro w'
      go_simp
      with_reducible rfl
    rotate_left
    · simp only [Act.put, List.setIfInBounds_toArray, List.set_cons_zero, List.set_cons_succ, i64_w, i32_w]
      rfl
    refine pure_ (i := 18) (N := some 77) (v := ?_) (a' := ?_) #[true, true, true, true, true, true, true, true, true, true, true, true, true, true, true, true, true, true, true, false, false, false, false, false, false, false] rfl rfl (by kernel_rfl) (fun _ _ _ h => h) (Or.inl ⟨by rfl, ?_⟩) ?_ ?_
    rotate_left
    · intro w'
      go_simp
      with_reducible rfl
    rotate_left
    · simp only [Act.put, List.setIfInBounds_toArray, List.set_cons_zero, List.set_cons_succ, i64_w, i32_w]
      rfl
    refine pure_ (i := 19) (N := some 78) (v := ?_) (a' := ?_) #[true, true, true, true, true, true, true, true, true, true, true, true, true, true, true, true, true, true, true, true, false, false, false, false, false, false] rfl rfl (by kernel_rfl) (fun _ _ _ h => h) (Or.inl ⟨by rfl, ?_⟩) ?_ ?_
    rotate_left
    · intro w'
      go_simp
      with_reducible rfl
    rotate_left
    · simp only [Act.put, List.setIfInBounds_toArray, List.set_cons_zero, List.set_cons_succ, i64_w, i32_w]
      rfl
    refine pure_ (i := 20) (N := some 79) (v := ?_) (a' := ?_) #[true, true, true, true, true, true, true, true, true, true, true, true, true, true, true, true, true, true, true, true, true, false, false, false, false, false] rfl rfl (by kernel_rfl) (fun _ _ _ h => h) (Or.inl ⟨by rfl, ?_⟩) ?_ ?_
    rotate_left
    · intro w'
      go_simp
      with_reducible rfl
    rotate_left
    · simp only [Act.put, List.setIfInBounds_toArray, List.set_cons_zero, List.set_cons_succ, i64_w, i32_w]
      rfl
    refine pure_ (i := 21) (N := some 80) (v := ?_) (a' := ?_) #[true, true, true, true, true, true, true, true, true, true, true, true, true, true, true, true, true, true, true, true, true, true, false, false, false, false] rfl rfl (by kernel_rfl) (fun _ _ _ h => h) (Or.inl ⟨by rfl, ?_⟩) ?_ ?_
    rotate_left
    · intro w'
      go_simp
      with_reducible rfl
    rotate_left
    · simp only [Act.put, List.setIfInBounds_toArray, List.set_cons_zero, List.set_cons_succ, i64_w, i32_w]
      rfl
    refine one_ (i := 22) (N := some 81) #[true, true, true, true, true, true, true, true, true, true, true, true, true, true, true, true, true, true, true, true, true, true, true, false, false, false] rfl rfl (by kernel_rfl) (by decide) (fun K hK => ?_)
    refine goes_ Try.func11 (by kernel_rfl) rfl #[.int .u8 na] (by rfl) rfl rfl (by (try simp only [List.map_toArray, List.map_cons, List.map_nil]); first | done | rfl) ?_
    with_reducible refine (FA.out _).mono ?_
    rintro e wy ⟨rfl, hb⟩
    refine ⟨_, rfl, ?_⟩
    have HB := Lib.hid (HB.out.trans (hb.mono HB.out.size))
    clear hb
    refine hK.out _ _ trivial (fun hHeld => ?_)
    clear hK K
    refine norm_ (a' := ?_) ?_ ?_
    rotate_left
    · show Act.put _ (some 81) _ = _
      simp only [Act.put, List.setIfInBounds_toArray, List.set_cons_zero, List.set_cons_succ, i64_w, i32_w]
      rfl
    refine pure_ (i := 23) (N := some 82) (v := ?_) (a' := ?_) #[true, true, true, true, true, true, true, true, true, true, true, true, true, true, true, true, true, true, true, true, true, true, true, true, false, false] rfl rfl (by kernel_rfl) (fun _ _ _ h => h) (Or.inl ⟨by rfl, ?_⟩) ?_ ?_
    rotate_left
    · intro w'
      go_simp
      with_reducible rfl
    rotate_left
    · simp only [Act.put, List.setIfInBounds_toArray, List.set_cons_zero, List.set_cons_succ, i64_w, i32_w]
      rfl
    refine pure_ (i := 24) (N := some 83) (v := ?_) (a' := ?_) #[true, true, true, true, true, true, true, true, true, true, true, true, true, true, true, true, true, true, true, true, true, true, true, true, true, false] rfl rfl (by kernel_rfl) (fun _ _ _ h => h) (Or.inl ⟨by rfl, ?_⟩) ?_ ?_
    rotate_left
    · intro w'
      go_simp
      with_reducible rfl
    rotate_left
    · simp only [Act.put, List.setIfInBounds_toArray, List.set_cons_zero, List.set_cons_succ, i64_w, i32_w]
      rfl
    refine pure_ (i := 25) (N := some 6) (v := ?_) (a' := ?_) #[true, true, true, true, true, true, true, true, true, true, true, true, true, true, true, true, true, true, true, true, true, true, true, true, true, true] rfl rfl (by kernel_rfl) (fun _ _ _ h => h) (Or.inl ⟨by rfl, ?_⟩) ?_ ?_
    rotate_left
    · intro w'
      go_simp
      with_reducible rfl
    rotate_left
    · simp only [Act.put, List.setIfInBounds_toArray, List.set_cons_zero, List.set_cons_succ, i64_w, i32_w]
      rfl
    refine done_ (by kernel_rfl) ?_
    clear hHeld
    go_wp2
    go_ret
    exact ⟨rfl, HB.out⟩
theorem disk_tears_walk (a0 a1 a2 : Int) (W : World) (h0 : (Lit.int .u8 a0).wf = true) (h1 : (Lit.int .u8 a1).wf = true) (h2 : (Lit.int .u8 a2).wf = true) :
    Calls Try.prog 3 #[.int .u8 a0, .int .u8 a1, .int .u8 a2] W fun e w' => e = .returned (.bool true) ∧ Below W.heap.size W w' := by
  have key : ∀ a : Int, (Lit.int .u8 a).wf = true → ∃ c : UInt8, a = (c.toNat : Int) := fun a h => by
    have z := wf_u8 h
    exact ⟨UInt8.ofNat a.toNat, by rw [UInt8.toNat_ofNat_of_lt' (by show a.toNat < 256; omega)]; omega⟩
  obtain ⟨a, rfl⟩ := key a0 h0
  obtain ⟨b, rfl⟩ := key a1 h1
  obtain ⟨f, rfl⟩ := key a2 h2
  exact tears_law a b f W
end Go.Proofs.Ytoandabafkdgjaa.My
