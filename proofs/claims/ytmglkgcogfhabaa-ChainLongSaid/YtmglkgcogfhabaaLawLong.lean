/- The law ChainLong walked. -/
import Derived.Test.YtmglkgcogfhabaaLawChains
namespace Go.Proofs.Ytmglkgcogfhabaa.My
set_option linter.unusedSimpArgs false
set_option linter.unusedVariables false
open Go.RowKit Go.Proofs.YtmglkgcogfhabaaW.PrintWords Go.Proofs.YtmglkgcogfhabaaW.PrintLast Go.Proofs.Ytmglkgcogfhabaa.Pm

def longPs (S : ByteArray) (n : Nat) : List VerT := (List.range n).map fun i => (i + 1, false, S)
theorem longPs_succ (S : ByteArray) (n : Nat) : longPs S (n + 1) = longPs S n ++ [(n + 1, false, S)] := by simp [longPs, List.range_succ]
theorem longPs_len (S : ByteArray) (n : Nat) : (longPs S n).length = n := by simp [longPs]
theorem longPs_get (S : ByteArray) (n j : Nat) (h : j < (longPs S n).length) : (longPs S n)[j] = (j + 1, false, S) := by simp [longPs]
theorem longPs_mem {S : ByteArray} {n : Nat} {p : VerT} (h : p ∈ longPs S n) : ∃ j, j < n ∧ p = (j + 1, false, S) := by
  simp only [longPs, List.mem_map, List.mem_range] at h
  obtain ⟨j, hj, rfl⟩ := h
  exact ⟨j, hj, rfl⟩
theorem long_right (S : ByteArray) : rightV (longPs S 200) := by
  refine ⟨fun j hj => ?_, by rw [longPs_len]; exact Nat.le_refl _⟩
  rw [longPs_get]
  refine ⟨by simp only; omega, fun h0 => ?_, fun h => by simp at h⟩
  rw [longPs_get]
  simp only
  omega
theorem long_sum (S : ByteArray) (n : Nat) : sumV (longPs S n) = n * S.size := by
  induction n with
  | zero => simp [longPs, sumV]
  | succ n ih =>
    rw [longPs_succ]
    simp only [sumV, List.map_append, List.sum_append, List.map_cons, List.map_nil, List.sum_cons, List.sum_nil] at ih ⊢
    rw [ih, Nat.succ_mul, Nat.add_zero]
def fillI (c : Int) (k i : Nat) : List Int := List.replicate i c ++ List.replicate (k - i) 0
theorem fillI_len (c : Int) {k i : Nat} (h : i ≤ k) : (fillI c k i).length = k := by simp [fillI]; omega
theorem fillI_set (c : Int) {k i : Nat} (h : i < k) : (fillI c k i).set i c = fillI c k (i + 1) := by
  unfold fillI
  rw [List.set_append_right _ _ (by simp)]
  simp only [List.length_replicate, Nat.sub_self]
  rw [show k - i = (k - (i + 1)) + 1 by omega, List.replicate_succ, List.set_cons_zero, List.replicate_succ', List.append_assoc]
  rfl
set_option maxRecDepth 100000 in
set_option maxHeartbeats 8000000 in
theorem long_law (n c : Nat) (w : World) (hn : n < 65536) (hc : c < 256) :
    Calls Try.prog 6 #[.int .u16 n, .int .u8 c] w fun e w' => e = .returned (.bool true) ∧ Below w.heap.size w w' := by
  have HB := Lib.hid (Below.refl w.heap.size w)
  obtain ⟨k, hk⟩ : ∃ k, n % 500 = k := ⟨_, rfl⟩
  have hk5 : k < 500 := by omega
  have m1 : ((n : Int) % 500) = (k : Int) := by omega
  have m2 : ((n : Int).tmod 500) = (k : Int) := by rw [Int.tmod_eq_emod_of_nonneg (by omega)]; exact m1
  have m3 : wrap64 (k : Int) = (k : Int) := wrap64_id (by omega) (by omega)
  clear hk
  go_enter Try.func6, Try.ntmps6
  go_wp2_with fail
  refine (awake09 _).mono ?_
  rintro e wq1 ⟨rfl, hb⟩
  have HB := Lib.hid (HB.out.trans (hb.mono HB.out.size)); clear hb
  go_wp2_with ((with_reducible refine gate_dst (N := 20) rfl ?_); refine Kd.R_make (Kd.int .u8) _ 5 rfl (N := 20) rfl 43 _ _ rfl k rfl rfl Try.underlying43 (.int .u8 0) 1 info_u8 rfl (by decide) (by omega) 0 (ok := fun _ => True) (okp := fun _ => True) rfl (fun _ hk => hk) trivial (by omega) (by omega) HB.out HB.out.size ?_; intro v1 w1 hR hB hG hN; clear hG hN; have HR := Lib.hid hR; have HB1 := Lib.hid hB; clear hR hB; obtain ⟨A, cap, rfl⟩ := Kd.R_slice HR.out)
  clear m1 m2 m3
  have hkr : (List.replicate (k : Int).toNat (0 : Int)) = fillI c k 0 := by simp [fillI]
  have HR := Lib.hid (show Kd.R (Kd.int .u8) 5 w1 w.heap.size (fun _ => True) (.slice A k cap) (fillI c k 0) from by have h := HR.out; rw [List.length_replicate, hkr, Int.toNat_natCast] at h; exact h)
  clear hkr
  go_loopw [7] (fun v7 wr => ∃ i : Nat, v7 = .int .i64 i ∧ i ≤ k ∧ Hid (Kd.R (Kd.int .u8) 5 wr w.heap.size (fun _ => True) (.slice A k cap) (fillI c k i)) ∧ Hid (Below w.heap.size w wr)) (fun v7 _ => k - (intOf v7).toNat)
  case atStart => exact ⟨0, rfl, Nat.zero_le _, HR, HB1⟩
  case round =>
    clear HR HB1 HB
    obtain ⟨i, rfl, hi, HR, HB⟩ := hrel
    by_cases hlt : i < k
    · have hl := fillI_len c hi
      obtain ⟨g, cap', e, hg, hgl, -⟩ := Kd.R_form HR.out (by omega)
      rw [hl] at e
      cases e
      have HR' := Lib.hid (show Kd.R (Kd.int .u8) 5 wr w.heap.size (fun _ => True) (.slice (some ⟨g, 0, none⟩) (fillI c k i).length cap) (fillI c k i) from by rw [hl]; exact HR.out)
      obtain ⟨hx, hf⟩ := Kd.R_celln 0 HR'.out (i : Int) (by omega) (by omega)
      rw [Int.toNat_natCast] at hx hf
      have hw := succ_wrap hlt (show k ≤ 140737488351232 by omega)
      have HP := Lib.hid ((Kd.R_putg HR'.out (i : Int) (c : Int)).1)
      rw [Int.toNat_natCast, fillI_set (c : Int) hlt, hl] at HP
      have HL := Lib.hid hl; clear hl
      go_wp2
      go_roundw
      case rel => exact ⟨i + 1, by go_num, hlt, HP, Lib.hid (HB.out.setCell hg _)⟩
      case measure => first | exact up_meas hlt hw | exact up_meas2 hlt
    · obtain rfl : i = k := by omega
      have he : fillI (c : Int) i i = List.replicate i (c : Int) := by simp [fillI]
      rw [he] at HR
      obtain ⟨S, hS⟩ : ∃ S, strOfNums (List.replicate i (c : Int)) = S := ⟨_, rfl⟩
      have hSs : S.size = i := by rw [← hS]; simp [strOfNums, ByteArray.size]
      have HCV : ∀ w2, Kd.R (Kd.int .u8) 5 w2 w.heap.size (fun _ => True) (.slice A i cap) (List.replicate i (c : Int)) → (convert 43 9 (.slice A i cap)).run Try.prog w2 = .ok (.string S) w2 := fun w2 h => by
        have := own_string (P := Try.prog) Try.underlying43 Try.underlying5 Try.underlying9 (Kd.own_of_R h)
        rw [hS] at this
        exact this
      have HCV := Lib.hid HCV
      rename_i HCV'; clear HCV' hS he
      generalize List.replicate i (c : Int) = bs at *
      have HSS := Lib.hid hSs; clear hSs
      go_wp2
      go_loopw [8, 9] (fun v8 v9 wr => ∃ j : Nat, v9 = .int .i64 j ∧ j ≤ 200 ∧ Hid (Vs wr w.heap.size v8 (longPs S j)) ∧ Hid (Kd.R (Kd.int .u8) 5 wr w.heap.size (fun _ => True) (.slice A i cap) bs) ∧ Hid (Below w.heap.size w wr)) (fun _ v9 _ => 200 - (intOf v9).toNat)
      case atStart => exact ⟨0, rfl, by omega, Lib.hid (Vs.nil _ _), HR, HB⟩
      case round =>
        clear HR HB
        obtain ⟨j, rfl, hj, HV, HR, HB⟩ := hrel
        obtain ⟨A8, m8, c8, rfl⟩ := HV.out.slice3
        by_cases hlt : j < 200
        · have x1 : decide ((j : Int) < 200) = true := by simp; omega
          have hw := succ_wrap hlt (by decide)
          have hw2 : IntKind.u64.wrap (((j + 1 : Nat)) : Int) = ((j + 1 : Nat) : Int) := wrap_u64_nat (by omega)
          have hw3 : IntKind.u64.wrap ((j : Int) + 1) = ((j + 1 : Nat) : Int) := by rw [show (j : Int) + 1 = ((j + 1 : Nat) : Int) by omega]; exact wrap_u64_nat (by omega)
          have hcv := HCV.out _ HR.out
          have hl32 : ((longPs S j).length + 1) * 32 ≤ 140737488355328 := by rw [longPs_len]; omega
          go_wp2_with (at_builtin; refine app_v (w0 := w) w.heap.size rfl (.tmp 34) (.tmp 41) _ (longPs S j) (j + 1, false, S) rfl rfl rfl HV.out HB.out HB.out.size hl32 ?_; intro v1 w6 HV1 HB1 HG1; have HR1 := Lib.hid (Kd.R_over HR.out HV.out (fun q hq => by rw [List.mem_singleton.1 hq]; decide) HG1.out); obtain ⟨A1, m1, c1, rfl⟩ := HV1.out.slice3)
          go_roundw
          case rel => exact ⟨j + 1, by go_num, hlt, by rw [longPs_succ]; exact HV1, HR1, HB1⟩
          case measure => first | exact up_meas hlt hw | exact up_meas2 hlt
        · obtain rfl : j = 200 := by omega
          have x1 : decide (((200 : Nat) : Int) < 200) = false := by decide
          have hp : ∀ p ∈ longPs S 200, p.1 < 18446744073709551616 ∧ p.2.2.size ≤ 499 := fun p hp => by
            obtain ⟨j, hj, rfl⟩ := longPs_mem hp
            exact ⟨by simp only; omega, by simp only; rw [HSS.out]; omega⟩
          obtain ⟨A9, c9, e9, hc9, hA⟩ := Vs.arg HV.out (fun p h => ⟨(hp p h).1, Nat.le_trans (hp p h).2 (by decide)⟩)
          cases e9
          rw [longPs_len] at hc9 hA ⊢
          have HA := Lib.hid hA; clear hA
          have hR := long_right S
          have hsz := chainS_size 499 (by decide) (longPs S 200) (by rw [longPs_len]; decide) (fun p h => (hp p h).2)
          rw [longPs_len] at hsz
          have hdec := decS_back (longPs S 200) hR (fun p h => ⟨(hp p h).1, Nat.lt_of_le_of_lt (hp p h).2 (by decide)⟩)
          rw [long_sum, HSS.out] at hdec
          have EN := Lib.hid (fun w hA => encode_ok A8 200 c8 (longPs S 200) w hA (by decide) (fun p h => Nat.le_trans (hp p h).2 (by decide)) hR)
          have DO := Lib.hid (fun w h => decode_ok (chainS (longPs S 200)) (longPs S 200) w (by omega) h)
          have DE := Lib.hid (fun w h => decode_err (chainS (longPs S 200)) 3 w (by omega) h (by decide))
          have HLN := Lib.hid (longPs_len S 200)
          clear hp hR
          generalize chainS (longPs S 200) = s at *
          generalize longPs S 200 = ps at *
          have y1 : wrap64 (200 * (i : Int)) = ((200 * i : Nat) : Int) := by rw [wrap64_id (by omega) (by omega)]; omega
          have HW := Lib.hid y1; clear y1
          go_wp2_with fail
          refine (EN.out _ HA.out).mono ?_
          rintro e w7 ⟨rfl, hbl⟩
          have HA := Lib.hid (HA.out.below hbl)
          have HB := Lib.hid (HB.out.trans (hbl.mono HB.out.size)); clear hbl EN
          by_cases hlong : 200 * i ≤ 60000
          · have x2 : decide ((60000 : Int) < 200 * (i : Int)) = false := by simp; omega
            have x3 : decide ((60000 : Int) < ((200 * i : Nat) : Int)) = false := by simp; omega
            rw [if_pos hlong] at hdec
            have DO := Lib.hid (fun w => DO.out w hdec)
            clear hdec DE
            rw [HLN.out] at DO
            have hw := HW.out
            clear HW
            go_wp2_with fail
            refine (DO.out _).mono ?_
            rintro e w8 ⟨A2, c2, rfl, hc2, hv, ha, hbl⟩
            have HA2 := Lib.hid ha
            have HA := Lib.hid (HA.out.below hbl)
            have HB := Lib.hid (HB.out.trans (hbl.mono HB.out.size)); clear hbl DO ha hv
            go_wp2_with fail
            refine (rsame_any A2 A8 200 c2 c8 ps _ HA2.out HA.out (by decide) hc2 hc9).mono ?_
            rintro e w9 ⟨rfl, hbl⟩
            have HB := Lib.hid (HB.out.trans (hbl.mono HB.out.size)); clear hbl
            go_wp2
            go_ret
            exact ⟨rfl, HB.out⟩
          · have x2 : decide ((60000 : Int) < 200 * (i : Int)) = true := by simp; omega
            have x3 : decide ((60000 : Int) < ((200 * i : Nat) : Int)) = true := by simp; omega
            rw [if_neg hlong] at hdec
            have DE := Lib.hid (fun w => DE.out w (by rw [hdec]))
            clear hdec DO
            have hw := HW.out
            clear HW
            go_wp2_with fail
            refine (DE.out _).mono ?_
            rintro e w8 ⟨A2, c2, rfl, hbl⟩
            have HB := Lib.hid (HB.out.trans (hbl.mono HB.out.size)); clear hbl DE
            go_wp2
            go_ret
            exact ⟨rfl, HB.out⟩
theorem chain_long_walk (a b : Int) (W : World) (ha : (Lit.int .u16 a).wf = true) (hb : (Lit.int .u8 b).wf = true) :
    Calls Try.prog 6 #[.int .u16 a, .int .u8 b] W fun e w' => e = .returned (.bool true) ∧ Below W.heap.size W w' := by
  have z1 := wf_u16 ha
  have z2 := wf_u8 hb
  obtain ⟨n, rfl⟩ := Int.eq_ofNat_of_zero_le z1.1
  obtain ⟨c, rfl⟩ := Int.eq_ofNat_of_zero_le z2.1
  exact long_law n c W (by omega) (by omega)
end Go.Proofs.Ytmglkgcogfhabaa.My
