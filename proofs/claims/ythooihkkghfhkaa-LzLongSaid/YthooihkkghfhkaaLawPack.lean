/- The laws LzBack, LzLong walked. -/
import Derived.Test.YthooihkkghfhkaaLzPack
import Derived.Test.YthooihkkghfhkaaLawLz
import Derived.Test.YthooihkkghfhkaaFill
namespace Go.Proofs.Ythooihkkghfhkaa.My
set_option linter.unusedSimpArgs false
set_option linter.unusedVariables false
open Go.RowKit Go.Proofs.YthooihkkghfhkaaW.PrintWords Go.Proofs.YthooihkkghfhkaaW.PrintLast Go.Proofs.Ythooihkkghfhkaa.Pm

theorem unp_ok {p s : ByteArray} (h : lzUn p = (s, 0)) (w : World) (hp : p.size ≤ 140737488355328) : Calls Try.prog 19 #[.string p] w fun e w' => e = .returned (.tuple #[.string s, .int .i64 0]) ∧ Below w.heap.size w w' := by
  have := lz_unpack p w hp
  rw [h] at this
  exact this
theorem dbl (k n : Nat) (h : k ≤ 3) (hn : n ≤ 5000) : k * n ≤ 15000 := by
  have : k * n ≤ 3 * n := Nat.mul_le_mul_right _ h
  omega
theorem runp_ok {p s : ByteArray} (h : lzUn p = (s, 0)) (w : World) (hp : p.size ≤ 140737488355328) : Calls Try.prog 20 #[.string p] w fun e w' => e = .returned (.tuple #[.string s, .int .i64 0]) ∧ Below w.heap.size w w' := by
  have := rlz_unpack p w hp
  rw [h] at this
  exact this
set_option maxRecDepth 100000 in
set_option maxHeartbeats 8000000 in
theorem lz_back_law (b : ByteArray) (t : Nat) (w : World) (hb : b.size ≤ 140737488351232) (ht : t < 256) :
    Calls Try.prog 7 #[.string b, .int .u8 t] w fun e w' => e = .returned (.bool true) ∧ Below w.heap.size w w' := by
  have HB := Lib.hid (Below.refl w.heap.size w)
  by_cases h5 : 5000 < b.size
  · have x1 : decide ((5000 : Int) < (b.size : Int)) = true := by simp; omega
    have x1n : decide (5000 < b.size) = true := by simp; omega
    go_enter Try.func7, Try.ntmps7
    go_wp2_with fail
    refine (awake04 _).mono ?_
    rintro e wq1 ⟨rfl, hb⟩
    have HB := Lib.hid (HB.out.trans (hb.mono HB.out.size)); clear hb
    go_wp2_with fail
    refine (awake04 _).mono ?_
    rintro e wq2 ⟨rfl, hb⟩
    have HB := Lib.hid (HB.out.trans (hb.mono HB.out.size)); clear hb
    go_wp2
    go_ret
    exact ⟨rfl, HB.out⟩
  have x1 : decide ((5000 : Int) < (b.size : Int)) = false := by simp; omega
  have x1n : decide (5000 < b.size) = false := by simp; omega
  obtain ⟨k, hk⟩ : ∃ k, t % 4 = k := ⟨_, rfl⟩
  have m1 : ((t : Int) % 4) = (k : Int) := by omega
  have m2 : ((t : Int).tmod 4) = (k : Int) := by rw [Int.tmod_eq_emod_of_nonneg (by omega)]; exact m1
  have hk3 : k ≤ 3 := by omega
  have M1 := Lib.hid (And.intro m1 m2)
  clear m1 m2 hk
  go_enter Try.func7, Try.ntmps7
  go_wp2_with fail
  refine (awake04 _).mono ?_
  rintro e wq3 ⟨rfl, hb⟩
  have HB := Lib.hid (HB.out.trans (hb.mono HB.out.size)); clear hb
  go_wp2
  clear x1 x1n
  go_loopw [5, 6] (fun v5 v6 wr => ∃ (i : Nat) (s : ByteArray), v6 = .int .i64 i ∧ v5 = .string s ∧ i ≤ k + 1 ∧ s.size = i * b.size ∧ Below w.heap.size w wr) (fun _ v6 _ => 5 - (intOf v6).toNat)
  case atStart => exact ⟨0, ⟨#[]⟩, rfl, rfl, by omega, (Nat.zero_mul _).symm, HB.out⟩
  case round =>
    clear HB
    obtain ⟨i, s, rfl, rfl, hi, hss, hbl⟩ := hrel
    have HB := Lib.hid hbl; clear hbl
    obtain ⟨m1, m2⟩ := M1.out
    by_cases hlt : i ≤ k
    · have x2 : decide ((i : Int) ≤ (k : Int)) = true := by simp; omega
      have x2n : decide (i ≤ k) = true := by simp; omega
      have hd := dbl i b.size (by omega) (by omega)
      have hsz : s.size + b.size ≤ 140737488355328 := by omega
      have hnx := show (s ++ b).size = (i + 1) * b.size by rw [ByteArray.size_append, hss, Nat.succ_mul]
      have HNX := Lib.hid hnx
      have hw := succ_wrap' (i := i) (len := 5) (by omega) (by decide)
      have HSS := Lib.hid hss
      clear hss hnx hd
      go_wp2
      go_roundw
      case rel => exact ⟨i + 1, s ++ b, by go_num, rfl, by clear hw m1 m2; omega, HNX.out, HB.out⟩
      case measure => first | (rw [hw]; simp only [intOf]; clear hw m1 m2; omega) | (simp only [intOf]; clear hw m1 m2; omega)
    · have x2 : decide ((i : Int) ≤ (k : Int)) = false := by simp; omega
      have x2n : decide (i ≤ k) = false := by simp; omega
      have hs6 : s.size ≤ 60000 := by
        have : i * b.size ≤ 4 * b.size := Nat.mul_le_mul_right _ (by omega)
        omega
      clear hss
      go_wp2_with fail
      refine (lz_pack s _ hs6).mono ?_
      rintro e w2 ⟨p, rfl, hu, hps, hbl⟩
      have HB := Lib.hid (HB.out.trans (hbl.mono HB.out.size)); clear hbl
      have U := Lib.hid (fun w => unp_ok hu w (by omega))
      have R := Lib.hid (fun w => runp_ok hu w (by omega))
      clear hu
      have x3 : decide ((p.size : Int) ≤ (s.size : Int) + 4) = true := by simp; omega
      have x4 : (p.size : Int) ≤ (s.size : Int) + 4 := by omega
      have x5 : decide (p.size ≤ s.size + 4) = true := by simp; omega
      go_wp2_with fail
      refine (U.out _).mono ?_
      rintro e wq4 ⟨rfl, hb⟩
      have HB := Lib.hid (HB.out.trans (hb.mono HB.out.size)); clear hb
      go_wp2_with fail
      refine (R.out _).mono ?_
      rintro e wq5 ⟨rfl, hb⟩
      have HB := Lib.hid (HB.out.trans (hb.mono HB.out.size)); clear hb
      go_wp2
      go_ret
      exact ⟨rfl, HB.out⟩
theorem lz_back_walk (a0 : ByteArray) (a1 : Int) (W : World) (h0 : a0.size ≤ 140737488351232) (h1 : (Lit.int .u8 a1).wf = true) :
    Calls Try.prog 7 #[.string a0, .int .u8 a1] W fun e w' => e = .returned (.bool true) ∧ Below W.heap.size W w' := by
  have z := wf_u8 h1
  obtain ⟨t, rfl⟩ := Int.eq_ofNat_of_zero_le z.1
  exact lz_back_law a0 t W h0 (by omega)
set_option maxRecDepth 100000 in
set_option maxHeartbeats 8000000 in
theorem lz_long_law (n c : Nat) (w : World) (hn : n < 4294967296) (hc : c < 256) :
    Calls Try.prog 8 #[.int .u32 n, .int .u8 c] w fun e w' => e = .returned (.bool true) ∧ Below w.heap.size w w' := by
  have HB := Lib.hid (Below.refl w.heap.size w)
  obtain ⟨k, hk⟩ : ∃ k, n % 70000 = k := ⟨_, rfl⟩
  have hk5 : k < 70000 := by omega
  have m1 : ((n : Int) % 70000) = (k : Int) := by omega
  have m2 : ((n : Int).tmod 70000) = (k : Int) := by rw [Int.tmod_eq_emod_of_nonneg (by omega)]; exact m1
  have m3 : wrap64 (k : Int) = (k : Int) := wrap64_id (by omega) (by omega)
  clear hk
  go_enter Try.func8, Try.ntmps8
  go_wp2_with fail
  refine (awake04 _).mono ?_
  rintro e wq6 ⟨rfl, hb⟩
  have HB := Lib.hid (HB.out.trans (hb.mono HB.out.size)); clear hb
  go_wp2_with ((with_reducible refine gate_dst (N := 18) rfl ?_); refine Kd.R_make (Kd.int .u8) _ 5 rfl (N := 18) rfl 47 _ _ rfl k rfl rfl Try.underlying47 (.int .u8 0) 1 info_u8 rfl (by decide) (by omega) 0 (ok := fun _ => True) (okp := fun _ => True) rfl (fun _ hk => hk) trivial (by omega) (by omega) HB.out HB.out.size ?_; intro v1 w1 hR hB hG hN; clear hG hN; have HR := Lib.hid hR; have HB1 := Lib.hid hB; clear hR hB; obtain ⟨A, cap, rfl⟩ := Kd.R_slice HR.out)
  clear m1 m2 m3
  have hkr : (List.replicate (k : Int).toNat (0 : Int)) = fillI c k 0 := by simp [fillI]
  have HR := Lib.hid (show Kd.R (Kd.int .u8) 5 w1 w.heap.size (fun _ => True) (.slice A k cap) (fillI c k 0) from by have h := HR.out; rw [List.length_replicate, hkr, Int.toNat_natCast] at h; exact h)
  clear hkr
  go_loopw [7] (fun v7 wr => ∃ i : Nat, v7 = .int .i64 i ∧ i ≤ k ∧ Hid (Kd.R (Kd.int .u8) 5 wr w.heap.size (fun _ => True) (.slice A k cap) (fillI c k i)) ∧ Hid (Below w.heap.size w wr)) (fun v7 _ => k - (intOf v7).toNat)
  case atStart => exact ⟨0, rfl, Nat.zero_le _, HR, HB1⟩
  case round =>
    clear HR HB1 HB
    obtain ⟨i, rfl, hi, HR, HB⟩ := hrel
    by_cases hlt : i < k
    · have hl := fillI_len c hi
      obtain ⟨g, cap', e, hg, hgl, -⟩ := Kd.R_form HR.out (by omega)
      rw [hl] at e
      cases e
      have HR' := Lib.hid (show Kd.R (Kd.int .u8) 5 wr w.heap.size (fun _ => True) (.slice (some ⟨g, 0, none⟩) (fillI c k i).length cap) (fillI c k i) from by rw [hl]; exact HR.out)
      obtain ⟨hx, hf⟩ := Kd.R_celln 0 HR'.out (i : Int) (by omega) (by omega)
      rw [Int.toNat_natCast] at hx hf
      have hw := succ_wrap' hlt (show k ≤ 140737488351232 by omega)
      have HP := Lib.hid ((Kd.R_putg HR'.out (i : Int) (c : Int)).1)
      rw [Int.toNat_natCast, fillI_set (c : Int) hlt, hl] at HP
      have HL := Lib.hid hl; clear hl
      go_wp2
      go_roundw
      case rel => exact ⟨i + 1, by go_num, hlt, HP, Lib.hid (HB.out.setCell hg _)⟩
      case measure => first | exact up_meas' hlt hw | exact up_meas2' hlt
    · obtain rfl : i = k := by omega
      have he : fillI (c : Int) i i = List.replicate i (c : Int) := by simp [fillI]
      rw [he] at HR
      obtain ⟨S, hS⟩ : ∃ S, strOfNums (List.replicate i (c : Int)) = S := ⟨_, rfl⟩
      have hSs : S.size = i := by rw [← hS]; simp [strOfNums, ByteArray.size]
      have HCV : ∀ w2, Kd.R (Kd.int .u8) 5 w2 w.heap.size (fun _ => True) (.slice A i cap) (List.replicate i (c : Int)) → (convert 47 9 (.slice A i cap)).run Try.prog w2 = .ok (.string S) w2 := fun w2 h => by
        have := own_string (P := Try.prog) Try.underlying47 Try.underlying5 Try.underlying9 (Kd.own_of_R h)
        rw [hS] at this
        exact this
      have HCV2 := Lib.hid HCV
      clear HCV hS he
      generalize List.replicate i (c : Int) = bs at *
      have hcv := HCV2.out _ HR.out
      by_cases h6 : 60000 < i
      · have x2 : decide ((60000 : Int) < (i : Int)) = true := by simp; omega
        have x2n : decide (60000 < i) = true := by simp; omega
        go_wp2_with fail
        refine (lz_pack_long S _ (by omega) (by omega)).mono ?_
        rintro e w2 ⟨rfl, hbl⟩
        have HB := Lib.hid (HB.out.trans (hbl.mono HB.out.size)); clear hbl hcv
        go_wp2
        go_ret
        exact ⟨rfl, HB.out⟩
      · have x2 : decide ((60000 : Int) < (i : Int)) = false := by simp; omega
        have x2n : decide (60000 < i) = false := by simp; omega
        go_wp2_with fail
        refine (lz_pack S _ (by omega)).mono ?_
        rintro e w2 ⟨p, rfl, hu, hps, hbl⟩
        have HR := Lib.hid (Kd.R_below HR.out hbl)
        have HB := Lib.hid (HB.out.trans (hbl.mono HB.out.size)); clear hbl hcv
        have U := Lib.hid (fun w => unp_ok hu w (by omega))
        clear hu
        go_wp2_with fail
        refine (U.out _).mono ?_
        rintro e w3 ⟨rfl, hbl⟩
        have HR := Lib.hid (Kd.R_below HR.out hbl)
        have HB := Lib.hid (HB.out.trans (hbl.mono HB.out.size)); clear hbl
        have hcv := HCV2.out _ HR.out
        go_wp2
        go_ret
        exact ⟨rfl, HB.out⟩
theorem lz_long_walk (a b : Int) (W : World) (ha : (Lit.int .u32 a).wf = true) (hb : (Lit.int .u8 b).wf = true) :
    Calls Try.prog 8 #[.int .u32 a, .int .u8 b] W fun e w' => e = .returned (.bool true) ∧ Below W.heap.size W w' := by
  have z1 := wf_u32 ha
  have z2 := wf_u8 hb
  obtain ⟨n, rfl⟩ := Int.eq_ofNat_of_zero_le z1.1
  obtain ⟨c, rfl⟩ := Int.eq_ofNat_of_zero_le z2.1
  exact lz_long_law n c W (by omega) (by omega)
end Go.Proofs.Ythooihkkghfhkaa.My
