/- The law MvccPast, walked. -/
import Derived.Test.YtcnehponkgofiaaMvLaw
namespace Go.Proofs.Ytcnehponkgofiaa.My
set_option linter.unusedSimpArgs false
set_option linter.unusedVariables false
open Go.RowKit Go.Proofs.YtcnehponkgofiaaW.PrintWords Go.Proofs.YtcnehponkgofiaaW.PrintLast Go.Proofs.Ytcnehponkgofiaa.Pm

theorem up_w {j n : Nat} (h : j < n) (hw : wrap64 ((j : Int) + 1) = ((j + 1 : Nat) : Int)) : n - (intOf (.int .i64 (wrap64 ((j : Int) + 1)))).toNat < n - (intOf (.int .i64 (j : Int))).toNat := by
  rw [hw]
  simp only [intOf]
  clear hw
  omega
theorem up_n {j n : Nat} (h : j < n) : n - (intOf (.int .i64 ((j : Int) + 1))).toNat < n - (intOf (.int .i64 (j : Int))).toNat := by
  simp only [intOf]
  omega
theorem str_eqb (a b : ByteArray) : (a.toList == b.toList) = decide (a = b) := by
  rw [ByteArray.toList_eq, ByteArray.toList_eq]
  by_cases h : a = b
  · simp [h]
  · rw [decide_eq_false h]
    exact beq_eq_false_iff_ne.2 (fun e => h (Go.WideShapes.bytes_inj e))
set_option maxRecDepth 100000 in
set_option maxHeartbeats 16000000 in
theorem mvcc_past (A : Option Addr) (len cap : Nat) (l : List ItT) (m : ItT) (qk : ByteArray) (qt : Nat) (qlo qhi : ByteArray) (qm : Int) (w : World) (hA : RowF w 4 itC A len l) (hlen : len ≤ 140737488351232) (hal : ∀ p ∈ l, p.2.1 < 18446744073709551616 ∧ p.1.size ≤ 140737488351232 ∧ p.2.2.2.size ≤ 140737488351232)
    (hm : m.2.1 < 18446744073709551616 ∧ m.1.size ≤ 140737488351232 ∧ m.2.2.2.size ≤ 140737488351232) (hq : qk.size ≤ 140737488351232 ∧ qlo.size ≤ 140737488351232 ∧ qhi.size ≤ 140737488351232) :
    Calls Try.prog 3 #[.slice A len cap, .agg #[.string m.1, .int .u64 (m.2.1 : Int), .bool m.2.2.1, .string m.2.2.2], .agg #[.string qk, .int .u64 (qt : Int), .string qlo, .string qhi, .int .i64 qm]] w fun e w' => e = .returned (.bool true) ∧ Below w.heap.size w w' := by
  have HA := Lib.hid hA; clear hA
  have HAL := Lib.hid hal; clear hal
  obtain ⟨mk, m0, m1, m2⟩ := m
  simp only at hm ⊢
  have HMB := Lib.hid hm; clear hm
  have HQB := Lib.hid hq; clear hq
  have HMo := Lib.hid (show ((w.alloc (.cells #[.string mk, .int .u64 (m0 : Int), .bool m1, .string m2] 27)).alloc (.cells #[.string qk, .int .u64 (qt : Int), .string qlo, .string qhi, .int .i64 qm] 29)).heap[w.heap.size]? = some (.cells #[.string mk, .int .u64 (m0 : Int), .bool m1, .string m2] 27 (0, 0)) from blk_alloc (blk_new w _) _)
  have HQo := Lib.hid (show ((w.alloc (.cells #[.string mk, .int .u64 (m0 : Int), .bool m1, .string m2] 27)).alloc (.cells #[.string qk, .int .u64 (qt : Int), .string qlo, .string qhi, .int .i64 qm] 29)).heap[w.heap.size + 1]? = some (.cells #[.string qk, .int .u64 (qt : Int), .string qlo, .string qhi, .int .i64 qm] 29 (0, 0)) from row_new (w.alloc (.cells #[.string mk, .int .u64 (m0 : Int), .bool m1, .string m2] 27)) _ (by simp))
  have HB := Lib.hid (show Below w.heap.size w ((w.alloc (.cells #[.string mk, .int .u64 (m0 : Int), .bool m1, .string m2] 27)).alloc (.cells #[.string qk, .int .u64 (qt : Int), .string qlo, .string qhi, .int .i64 qm] 29)) from below_alloc (below_alloc (Below.refl _ w) _) _)
  go_enter Try.func3, Try.ntmps3
  go_wp2_with fail
  refine (awake11 _).mono ?_
  rintro e w1 ⟨rfl, hb⟩
  replace HMo := Lib.hid (blk_below HMo.out hb)
  replace HQo := Lib.hid (blk_below HQo.out hb)
  replace HB := Lib.hid (HB.out.trans (hb.mono HB.out.size)); clear hb
  go_wp2_with fail
  refine (few11_any A len cap 40 l _ (HA.out.below HB.out) hlen (by decide)).mono ?_
  rintro e w2 ⟨b, rfl, hb40, rfl⟩
  cases b with
  | false =>
    go_wp2_with fail
    refine (awake11 _).mono ?_
    rintro e w9 ⟨rfl, hb⟩
    replace HB := Lib.hid (HB.out.trans (hb.mono HB.out.size)); clear hb
    go_wp2
    go_ret
    exact ⟨rfl, HB.out⟩
  | true =>
    have h40 := hb40 rfl
    clear hb40
    have m0c : w2.cell? ⟨w.heap.size, 0, none⟩ = some (.string mk) := (blk_cell HMo.out 0).trans rfl
    have m1c : w2.cell? ⟨w.heap.size, 1, none⟩ = some (.int .u64 (m0 : Int)) := (blk_cell HMo.out 1).trans rfl
    have m2c : w2.cell? ⟨w.heap.size, 2, none⟩ = some (.bool m1) := (blk_cell HMo.out 2).trans rfl
    have m3c : w2.cell? ⟨w.heap.size, 3, none⟩ = some (.string m2) := (blk_cell HMo.out 3).trans rfl
    have q0c : w2.cell? ⟨w.heap.size + 1, 0, none⟩ = some (.string qk) := (blk_cell HQo.out 0).trans rfl
    have q1c : w2.cell? ⟨w.heap.size + 1, 1, none⟩ = some (.int .u64 (qt : Int)) := (blk_cell HQo.out 1).trans rfl
    have q2c : w2.cell? ⟨w.heap.size + 1, 2, none⟩ = some (.string qlo) := (blk_cell HQo.out 2).trans rfl
    have q3c : w2.cell? ⟨w.heap.size + 1, 3, none⟩ = some (.string qhi) := (blk_cell HQo.out 3).trans rfl
    have q4c : w2.cell? ⟨w.heap.size + 1, 4, none⟩ = some (.int .i64 qm) := (blk_cell HQo.out 4).trans rfl
    have HFW := Lib.hid (few11_any (some ⟨w2.heap.size, 0, none⟩) 1 1 1 [(mk, m0, m1, m2)] (w2.alloc (.cells #[.string mk, .int .u64 (m0 : Int), .bool m1, .string m2] 27)) ((OwnF.one (base := 0) (f := itC) (x := (mk, m0, m1, m2)) (blk_new w2 (.cells #[.string mk, .int .u64 (m0 : Int), .bool m1, .string m2] 27)) (Nat.zero_le _) rfl rfl).row itC_len) (by decide) (by decide))
    go_wp2_with fail
    refine HFW.out.mono ?_
    rintro e w3 ⟨b, rfl, -, rfl⟩
    replace HMo := Lib.hid (blk_alloc HMo.out (.cells #[.string mk, .int .u64 (m0 : Int), .bool m1, .string m2] 27))
    replace HQo := Lib.hid (blk_alloc HQo.out (.cells #[.string mk, .int .u64 (m0 : Int), .bool m1, .string m2] 27))
    replace HB := Lib.hid (below_alloc HB.out (.cells #[.string mk, .int .u64 (m0 : Int), .bool m1, .string m2] 27))
    clear HFW
    clear m0c m1c m2c m3c q0c q1c q2c q3c q4c
    generalize w2.alloc (.cells #[.string mk, .int .u64 (m0 : Int), .bool m1, .string m2] 27) = w3 at *
    cases b with
    | false =>
      go_wp2_with fail
      refine (awake11 _).mono ?_
      rintro e w9 ⟨rfl, hb⟩
      replace HB := Lib.hid (HB.out.trans (hb.mono HB.out.size)); clear hb
      go_wp2
      go_ret
      exact ⟨rfl, HB.out⟩
    | true =>
      have m0c : w3.cell? ⟨w.heap.size, 0, none⟩ = some (.string mk) := (blk_cell HMo.out 0).trans rfl
      have m1c : w3.cell? ⟨w.heap.size, 1, none⟩ = some (.int .u64 (m0 : Int)) := (blk_cell HMo.out 1).trans rfl
      have m2c : w3.cell? ⟨w.heap.size, 2, none⟩ = some (.bool m1) := (blk_cell HMo.out 2).trans rfl
      have m3c : w3.cell? ⟨w.heap.size, 3, none⟩ = some (.string m2) := (blk_cell HMo.out 3).trans rfl
      have q0c : w3.cell? ⟨w.heap.size + 1, 0, none⟩ = some (.string qk) := (blk_cell HQo.out 0).trans rfl
      have q1c : w3.cell? ⟨w.heap.size + 1, 1, none⟩ = some (.int .u64 (qt : Int)) := (blk_cell HQo.out 1).trans rfl
      have q2c : w3.cell? ⟨w.heap.size + 1, 2, none⟩ = some (.string qlo) := (blk_cell HQo.out 2).trans rfl
      have q3c : w3.cell? ⟨w.heap.size + 1, 3, none⟩ = some (.string qhi) := (blk_cell HQo.out 3).trans rfl
      have q4c : w3.cell? ⟨w.heap.size + 1, 4, none⟩ = some (.int .i64 qm) := (blk_cell HQo.out 4).trans rfl
      by_cases z1 : 300 < qk.size
      · have y1 : decide (300 < (qk.size : Int)) = true := by simp; omega
        have y1n := decide_eq_true z1
        go_wp2_with fail
        refine (awake11 _).mono ?_
        rintro e w9 ⟨rfl, hb⟩
        replace HB := Lib.hid (HB.out.trans (hb.mono HB.out.size)); clear hb
        go_wp2
        go_ret
        exact ⟨rfl, HB.out⟩
      have y1 : decide (300 < (qk.size : Int)) = false := by simp; omega
      have y1n := decide_eq_false z1
      by_cases z2 : 300 < qlo.size
      · have y1 : decide (300 < (qlo.size : Int)) = true := by simp; omega
        have y1n := decide_eq_true z2
        go_wp2_with fail
        refine (awake11 _).mono ?_
        rintro e w9 ⟨rfl, hb⟩
        replace HB := Lib.hid (HB.out.trans (hb.mono HB.out.size)); clear hb
        go_wp2
        go_ret
        exact ⟨rfl, HB.out⟩
      have y2 : decide (300 < (qlo.size : Int)) = false := by simp; omega
      have y2n := decide_eq_false z2
      by_cases z3 : 300 < qhi.size
      · have y1 : decide (300 < (qhi.size : Int)) = true := by simp; omega
        have y1n := decide_eq_true z3
        go_wp2_with fail
        refine (awake11 _).mono ?_
        rintro e w9 ⟨rfl, hb⟩
        replace HB := Lib.hid (HB.out.trans (hb.mono HB.out.size)); clear hb
        go_wp2
        go_ret
        exact ⟨rfl, HB.out⟩
      have y3 : decide (300 < (qhi.size : Int)) = false := by simp; omega
      have y3n := decide_eq_false z3
      clear z1 z2 z3
      have hq3 := blk_lt HQo.out
      go_wp2_with fail
      refine (new_any w3 w3.heap.size (Nat.le_refl _)).mono ?_
      rintro e w4 ⟨rfl, hms, hb⟩
      clear m0c m1c m2c m3c q0c q1c q2c q3c q4c y1 y2 y3 y1n y2n y3n
      replace HMo := Lib.hid (blk_below HMo.out hb)
      replace HQo := Lib.hid (blk_below HQo.out hb)
      have HM := Lib.hid hms; clear hms
      replace HB := Lib.hid (HB.out.trans (hb.mono HB.out.size))
      obtain ⟨gs, hgs⟩ : ∃ g, w3.heap.size = g := ⟨_, rfl⟩
      rw [hgs] at HM ⊢
      have HG1 := Lib.hid (show w.heap.size + 1 < gs ∧ gs < w4.heap.size from ⟨by rw [← hgs]; exact hq3, blk_lt HM.out.blk⟩)
      clear hb hgs hq3
      have HB0 := HB
      go_wp2
      go_loopw [8] (fun u wr => ∃ (i : Nat) (v : Value) (es : List EntP), u = .int .i64 i ∧ i ≤ len ∧ MSt wr gs gs v es ∧ es.length ≤ i ∧ Below gs w4 wr) (fun u _ => len - (intOf u).toNat)
      case atStart => exact ⟨0, _, _, rfl, Nat.zero_le _, HM.out, Nat.le_refl _, Below.refl _ _⟩
      case round =>
        clear HM
        obtain ⟨i, v, es, rfl, hi, hms, hes, hb4⟩ := hrel
        have HM := Lib.hid hms; clear hms
        have HB4 := Lib.hid hb4; clear hb4
        have HB := Lib.hid (HB0.out.trans (HB4.out.mono (by have := HG1.out.1; omega)))
        replace HMo := Lib.hid ((HB4.out.block w.heap.size (by have := HG1.out.1; omega)).trans HMo.out)
        replace HQo := Lib.hid ((HB4.out.block (w.heap.size + 1) HG1.out.1).trans HQo.out)
        by_cases hlt : i < len
        · obtain ⟨bb, off, hj, rfl, hbW, hc⟩ := HA.out.get i hlt
          replace hc := range_below hc HB.out hbW
          have hpl := HAL.out _ (List.getElem_mem hj)
          obtain ⟨⟨k, x0, x1, x2⟩, hx⟩ : ∃ x, l[i] = x := ⟨_, rfl⟩
          rw [hx] at hc hpl
          simp only at hpl
          have c0 : wr.cell? ⟨bb, off + i * 4, none⟩ = some (.string k) := hc 0 _ rfl
          have c1 : wr.cell? ⟨bb, off + i * 4 + 1, none⟩ = some (.int .u64 (x0 : Int)) := hc 1 _ rfl
          have c2 : wr.cell? ⟨bb, off + i * 4 + 1 + 1, none⟩ = some (.bool x1) := hc 2 _ rfl
          have c3 : wr.cell? ⟨bb, off + i * 4 + 1 + 2, none⟩ = some (.string x2) := hc 3 _ rfl
          have HIQ := Lib.hid (fun W hm => install_any gs gs v es k (x0, x1, x2) W hm (by omega) hpl.1 hpl.2.1 hpl.2.2)
          have HLT := Lib.hid hlt
          have HES := Lib.hid hes
          clear hc hbW hx hj hpl
          have hw := next_wrap hlt hlen
          go_wp2
          refine start_ (n := 12) (S := fun w' => w'.cell? ⟨bb, off + i * 4, none⟩ = some (.string k) ∧ w'.cell? ⟨bb, off + i * 4 + 1, none⟩ = some (.int .u64 (x0 : Int)) ∧ w'.cell? ⟨bb, off + i * 4 + 1 + 1, none⟩ = some (.bool x1) ∧ w'.cell? ⟨bb, off + i * 4 + 1 + 2, none⟩ = some (.string x2)) (ds := [11]) #[false, false, false, false, false, false, false, false, false, false, false, false] (by kernel_rfl) rfl rfl ⟨c0, c1, c2, c3⟩ (fun hHeld => ?_)
          refine pure_ (i := 0) (N := some 53) (v := ?_) (a' := ?_) #[true, false, false, false, false, false, false, false, false, false, false, false] rfl rfl (by kernel_rfl) (fun _ _ _ h => h) (Or.inl ⟨by rfl, ?_⟩) ?_ ?_
          rotate_left
          · intro w'
            go_simp
            with_reducible rfl
          rotate_left
          · simp only [Act.put, List.setIfInBounds_toArray, List.set_cons_zero, List.set_cons_succ, i64_w, i32_w]
            rfl
          refine pure_ (i := 1) (N := some 54) (v := ?_) (a' := ?_) #[true, true, false, false, false, false, false, false, false, false, false, false] rfl rfl (by kernel_rfl) (fun _ _ _ h => h) (Or.inl ⟨by rfl, ?_⟩) ?_ ?_
          rotate_left
          · intro w'
            go_simp
            with_reducible rfl
          rotate_left
          · simp only [Act.put, List.setIfInBounds_toArray, List.set_cons_zero, List.set_cons_succ, i64_w, i32_w]
            rfl
          refine pure_ (i := 2) (N := some 55) (v := ?_) (a' := ?_) #[true, true, true, false, false, false, false, false, false, false, false, false] rfl rfl (by kernel_rfl) (fun _ _ _ h => h) (Or.inl ⟨by rfl, ?_⟩) ?_ ?_
          rotate_left
          · intro w'
            go_simp
            with_reducible rfl
          rotate_left
          · simp only [Act.put, List.setIfInBounds_toArray, List.set_cons_zero, List.set_cons_succ, i64_w, i32_w]
            rfl
          refine pure_ (i := 3) (N := some 56) (v := ?_) (a' := ?_) #[true, true, true, true, false, false, false, false, false, false, false, false] rfl rfl (by kernel_rfl) (fun _ _ _ h => h) (Or.inl ⟨by rfl, ?_⟩) ?_ ?_
          rotate_left
          · intro w'
            go_simp
            with_reducible rfl
          rotate_left
          · simp only [Act.put, List.setIfInBounds_toArray, List.set_cons_zero, List.set_cons_succ, i64_w, i32_w]
            rfl
          refine pure_ (i := 4) (N := some 57) (v := ?_) (a' := ?_) #[true, true, true, true, true, false, false, false, false, false, false, false] rfl rfl (by kernel_rfl) (fun _ _ _ h => h) (Or.inl ⟨by rfl, ?_⟩) ?_ ?_
          rotate_left
          · intro w'
            go_simp
            with_reducible rfl
          rotate_left
          · simp only [Act.put, List.setIfInBounds_toArray, List.set_cons_zero, List.set_cons_succ, i64_w, i32_w]
            rfl
          refine pure_ (i := 6) (N := some 59) (v := ?_) (a' := ?_) #[true, true, true, true, true, false, true, false, false, false, false, false] rfl rfl (by kernel_rfl) (fun _ _ _ h => h) (Or.inl ⟨by rfl, ?_⟩) ?_ ?_
          rotate_left
          · intro w'
            go_simp
            with_reducible rfl
          rotate_left
          · simp only [Act.put, List.setIfInBounds_toArray, List.set_cons_zero, List.set_cons_succ, i64_w, i32_w]
            rfl
          refine pure_ (i := 7) (N := some 60) (v := ?_) (a' := ?_) #[true, true, true, true, true, false, true, true, false, false, false, false] rfl rfl (by kernel_rfl) (fun _ _ _ h => h) (Or.inl ⟨by rfl, ?_⟩) ?_ ?_
          rotate_left
          · intro w'
            go_simp
            with_reducible rfl
          rotate_left
          · simp only [Act.put, List.setIfInBounds_toArray, List.set_cons_zero, List.set_cons_succ, i64_w, i32_w]
            rfl
          refine pure_ (i := 8) (N := some 61) (v := ?_) (a' := ?_) #[true, true, true, true, true, false, true, true, true, false, false, false] rfl rfl (by kernel_rfl) (fun _ _ _ h => h) (Or.inl ⟨by rfl, ?_⟩) ?_ ?_
          rotate_left
          · intro w'
            go_simp
            with_reducible rfl
          rotate_left
          · simp only [Act.put, List.setIfInBounds_toArray, List.set_cons_zero, List.set_cons_succ, i64_w, i32_w]
            rfl
          refine pure_ (i := 9) (N := some 62) (v := ?_) (a' := ?_) #[true, true, true, true, true, false, true, true, true, true, false, false] rfl rfl (by kernel_rfl) (fun _ _ _ h => h) (Or.inl ⟨by rfl, ?_⟩) ?_ ?_
          rotate_left
          · intro w'
            go_simp
            with_reducible rfl
          rotate_left
          · simp only [Act.put, List.setIfInBounds_toArray, List.set_cons_zero, List.set_cons_succ, i64_w, i32_w]
            rfl
          refine take_ (i := 5) (N := some 58) (v := ?_) (a' := ?_) #[true, true, true, true, true, true, true, true, true, true, false, false] rfl rfl (by kernel_rfl) (fun _ _ _ h => h) (Or.inl ⟨by rfl, ?_⟩) hHeld ?_ ?_
          rotate_left
          · rintro w' ⟨s0, s1, s2, s3⟩
            go_simp
            with_reducible rfl
          rotate_left
          · simp only [Act.put, List.setIfInBounds_toArray, List.set_cons_zero, List.set_cons_succ, i64_w, i32_w]
            rfl
          refine take_ (i := 10) (N := some 63) (v := ?_) (a' := ?_) #[true, true, true, true, true, true, true, true, true, true, true, false] rfl rfl (by kernel_rfl) (fun _ _ _ h => h) (Or.inl ⟨by rfl, ?_⟩) hHeld ?_ ?_
          rotate_left
          · rintro w' ⟨s0, s1, s2, s3⟩
            go_simp
            with_reducible rfl
          rotate_left
          · simp only [Act.put, List.setIfInBounds_toArray, List.set_cons_zero, List.set_cons_succ, i64_w, i32_w]
            rfl
          refine last_ (i := 11) (N := some 64) #[true, true, true, true, true, true, true, true, true, true, true, true] rfl rfl (by kernel_rfl) (by decide) (fun K hK => ?_)
          refine goes_ Try.func10 (by kernel_rfl) rfl #[.pointer (some ⟨gs, 0, none⟩), .string k, .agg #[.int .u64 (x0 : Int), .bool x1, .string x2]] (by rfl) rfl rfl (by (try simp only [List.map_toArray, List.map_cons, List.map_nil]); first | done | rfl) ?_
          with_reducible refine ((HIQ.out _ HM.out.drew)).mono ?_
          rintro e w6 ⟨rfl, hk6, v6, es6, hm6, hl6, -, -⟩
          refine ⟨_, rfl, ?_⟩
          refine hK.out _ _ ?_
          clear hK K
          refine norm_ (a' := ?_) ?_ ?_
          rotate_left
          · show Act.put _ (some 64) _ = _
            simp only [Act.put, List.setIfInBounds_toArray, List.set_cons_zero, List.set_cons_succ, i64_w, i32_w]
            rfl
          refine done_ (by kernel_rfl) ?_

          have HM6 := Lib.hid hm6; clear hm6
          have HB6 := Lib.hid ((below_drew HB4.out).trans (hk6.to_below (Nat.le_trans (Nat.le_of_lt HG1.out.2) HB4.out.size) (fun j hj => by
            rcases hj with rfl | hj
            · exact Nat.le_refl _
            · exact (HM.out.own.block_ge j hj).1)))
          have HL6 := Lib.hid hl6
          clear hk6 hHeld hl6 hes hlen h40
          go_wp2
          go_roundw
          case rel => exact ⟨i + 1, v6, es6, by go_num, HLT.out, HM6.out, Nat.le_trans HL6.out (Nat.succ_le_succ HES.out), HB6.out⟩
          case measure => first | exact up_w HLT.out hw | exact up_n HLT.out
        · obtain rfl : i = len := by omega
          have m0c : wr.cell? ⟨w.heap.size, 0, none⟩ = some (.string mk) := (blk_cell HMo.out 0).trans rfl
          have m1c : wr.cell? ⟨w.heap.size, 1, none⟩ = some (.int .u64 (m0 : Int)) := (blk_cell HMo.out 1).trans rfl
          have m2c : wr.cell? ⟨w.heap.size, 2, none⟩ = some (.bool m1) := (blk_cell HMo.out 2).trans rfl
          have m3c : wr.cell? ⟨w.heap.size, 3, none⟩ = some (.string m2) := (blk_cell HMo.out 3).trans rfl
          have q0c : wr.cell? ⟨w.heap.size + 1, 0, none⟩ = some (.string qk) := (blk_cell HQo.out 0).trans rfl
          have q1c : wr.cell? ⟨w.heap.size + 1, 1, none⟩ = some (.int .u64 (qt : Int)) := (blk_cell HQo.out 1).trans rfl
          have q2c : wr.cell? ⟨w.heap.size + 1, 2, none⟩ = some (.string qlo) := (blk_cell HQo.out 2).trans rfl
          have q3c : wr.cell? ⟨w.heap.size + 1, 3, none⟩ = some (.string qhi) := (blk_cell HQo.out 3).trans rfl
          have q4c : wr.cell? ⟨w.heap.size + 1, 4, none⟩ = some (.int .i64 qm) := (blk_cell HQo.out 4).trans rfl
          by_cases hqm : m0 ≤ qt
          · have y1 : decide ((m0 : Int) ≤ (qt : Int)) = true := by simp; omega
            have y1n := decide_eq_true hqm
            go_wp2
            go_ret
            exact ⟨rfl, HB.out⟩
          · have y1 : decide ((m0 : Int) ≤ (qt : Int)) = false := by simp; omega
            have y1n := decide_eq_false hqm
            have HQM := Lib.hid (show qt < m0 by omega)
            have HAQ := Lib.hid (fun W (hm : MSt W gs gs v es) => mat_any gs gs qt v es qk W hm)
            have HAR := Lib.hid (show ∀ es' (hr' : es'.Pairwise fun a b => keyLess a.key b.key), InstIs es es' mk (m0, m1, m2) → atF (chS es' qk) qt = atF (chS es qk) qt from fun es' hr' h => past_at HM.out.ris hr' h HQM.out qk)
            have HSR := Lib.hid (show ∀ es' (hr' : es'.Pairwise fun a b => keyLess a.key b.key), InstIs es es' mk (m0, m1, m2) → scanL qhi qt qm (fromS (es'.map pr) qlo) [] = scanL qhi qt qm (fromS (es.map pr) qlo) [] from fun es' hr' h => past_scan HM.out.ris hr' h HQM.out qlo qhi qm [])
            have HSQ := Lib.hid (fun W (hm : MSt W gs gs v es) => scan_any gs gs qt qm v es qlo qhi W hm HQB.out.2.1 HQB.out.2.2)
            have HIQ := Lib.hid (fun W (hm : MSt W gs gs v es) => install_any gs gs v es mk (m0, m1, m2) W hm (by omega) HMB.out.1 HMB.out.2.1 HMB.out.2.2)
            obtain ⟨R, hR⟩ : ∃ R, scanL qhi qt qm (fromS (es.map pr) qlo) [] = R := ⟨_, rfl⟩
            simp only [hR] at HSR HSQ
            have HSR0 := Lib.hid hR
            have HRL := Lib.hid (show R.length ≤ 140737488351232 by
              rw [← hR]
              refine Nat.le_trans (scan_len _ _) ?_
              have h1 : (fromS (es.map pr) qlo).length ≤ (es.map pr).length := List.length_filter_le _ _
              rw [List.length_map] at h1
              have := HM.out.len
              simp only [List.length_nil]
              omega)
            obtain ⟨⟨⟨y, gn, sv⟩, ok⟩, hat⟩ : ∃ r, atF (chS es qk) qt = r := ⟨_, rfl⟩
            simp only [hat] at HAR HAQ
            have HAR0 := Lib.hid hat
            clear hR hat hes hlen h40 hi hlt hqm
            go_wp2_with fail
            refine (HAQ.out _ HM.out).mono ?_
            rintro e w5 ⟨rfl, hb⟩
            clear m0c m1c m2c m3c q0c q1c q2c q3c q4c
            replace HM := Lib.hid ((HM.out.below hb).alloc (.cells #[.int .u64 (y : Int), .bool gn, .string sv] 25))
            replace HMo := Lib.hid (blk_alloc (blk_below HMo.out hb) (.cells #[.int .u64 (y : Int), .bool gn, .string sv] 25))
            replace HQo := Lib.hid (blk_alloc (blk_below HQo.out hb) (.cells #[.int .u64 (y : Int), .bool gn, .string sv] 25))
            replace HB := Lib.hid (below_alloc (HB.out.trans (hb.mono HB.out.size)) (.cells #[.int .u64 (y : Int), .bool gn, .string sv] 25)); clear hb
            have HV9 := Lib.hid (blk_new w5 (.cells #[.int .u64 (y : Int), .bool gn, .string sv] 25))
            have m0c : (w5.alloc (.cells #[.int .u64 (y : Int), .bool gn, .string sv] 25)).cell? ⟨w.heap.size, 0, none⟩ = some (.string mk) := (blk_cell HMo.out 0).trans rfl
            have m1c : (w5.alloc (.cells #[.int .u64 (y : Int), .bool gn, .string sv] 25)).cell? ⟨w.heap.size, 1, none⟩ = some (.int .u64 (m0 : Int)) := (blk_cell HMo.out 1).trans rfl
            have m2c : (w5.alloc (.cells #[.int .u64 (y : Int), .bool gn, .string sv] 25)).cell? ⟨w.heap.size, 2, none⟩ = some (.bool m1) := (blk_cell HMo.out 2).trans rfl
            have m3c : (w5.alloc (.cells #[.int .u64 (y : Int), .bool gn, .string sv] 25)).cell? ⟨w.heap.size, 3, none⟩ = some (.string m2) := (blk_cell HMo.out 3).trans rfl
            have q0c : (w5.alloc (.cells #[.int .u64 (y : Int), .bool gn, .string sv] 25)).cell? ⟨w.heap.size + 1, 0, none⟩ = some (.string qk) := (blk_cell HQo.out 0).trans rfl
            have q1c : (w5.alloc (.cells #[.int .u64 (y : Int), .bool gn, .string sv] 25)).cell? ⟨w.heap.size + 1, 1, none⟩ = some (.int .u64 (qt : Int)) := (blk_cell HQo.out 1).trans rfl
            have q2c : (w5.alloc (.cells #[.int .u64 (y : Int), .bool gn, .string sv] 25)).cell? ⟨w.heap.size + 1, 2, none⟩ = some (.string qlo) := (blk_cell HQo.out 2).trans rfl
            have q3c : (w5.alloc (.cells #[.int .u64 (y : Int), .bool gn, .string sv] 25)).cell? ⟨w.heap.size + 1, 3, none⟩ = some (.string qhi) := (blk_cell HQo.out 3).trans rfl
            have q4c : (w5.alloc (.cells #[.int .u64 (y : Int), .bool gn, .string sv] 25)).cell? ⟨w.heap.size + 1, 4, none⟩ = some (.int .i64 qm) := (blk_cell HQo.out 4).trans rfl
            go_wp2_with fail
            refine (HSQ.out _ HM.out).mono ?_
            rintro e w6 ⟨v6, rfl, ho6, hb⟩
            clear m0c m1c m2c m3c q0c q1c q2c q3c q4c
            replace HM := Lib.hid (HM.out.below hb)
            replace HMo := Lib.hid (blk_below HMo.out hb)
            replace HQo := Lib.hid (blk_below HQo.out hb)
            replace HV9 := Lib.hid (blk_below HV9.out hb)
            replace HB := Lib.hid (HB.out.trans (hb.mono HB.out.size)); clear hb
            have HO6 := Lib.hid ho6; clear ho6
            obtain ⟨g9, hg9⟩ : ∃ g, w5.heap.size = g := ⟨_, rfl⟩
            rw [hg9] at HV9 ⊢
            have m0c : w6.cell? ⟨w.heap.size, 0, none⟩ = some (.string mk) := (blk_cell HMo.out 0).trans rfl
            have m1c : w6.cell? ⟨w.heap.size, 1, none⟩ = some (.int .u64 (m0 : Int)) := (blk_cell HMo.out 1).trans rfl
            have m2c : w6.cell? ⟨w.heap.size, 2, none⟩ = some (.bool m1) := (blk_cell HMo.out 2).trans rfl
            have m3c : w6.cell? ⟨w.heap.size, 3, none⟩ = some (.string m2) := (blk_cell HMo.out 3).trans rfl
            have q0c : w6.cell? ⟨w.heap.size + 1, 0, none⟩ = some (.string qk) := (blk_cell HQo.out 0).trans rfl
            have q1c : w6.cell? ⟨w.heap.size + 1, 1, none⟩ = some (.int .u64 (qt : Int)) := (blk_cell HQo.out 1).trans rfl
            have q2c : w6.cell? ⟨w.heap.size + 1, 2, none⟩ = some (.string qlo) := (blk_cell HQo.out 2).trans rfl
            have q3c : w6.cell? ⟨w.heap.size + 1, 3, none⟩ = some (.string qhi) := (blk_cell HQo.out 3).trans rfl
            have q4c : w6.cell? ⟨w.heap.size + 1, 4, none⟩ = some (.int .i64 qm) := (blk_cell HQo.out 4).trans rfl
            go_wp2_with fail
            refine (HIQ.out _ HM.out).mono ?_
            rintro e w7 ⟨rfl, hk, v7, es7, hm7, -, he1, he2⟩
            clear m0c m1c m2c m3c q0c q1c q2c q3c q4c
            have HE := Lib.hid (show atF (chS es7 qk) qt = ((y, gn, sv), ok) ∧ scanL qhi qt qm (fromS (es7.map pr) qlo) [] = R from by
              by_cases h0 : errS es mk (m0, m1, m2) = 0
              · exact ⟨HAR.out es7 hm7.ris (he2 h0), HSR.out es7 hm7.ris (he2 h0)⟩
              · have e := he1 h0
                subst e
                exact ⟨HAR0.out, HSR0.out⟩)
            have HEA := Lib.hid HE.out.1
            have HEB := Lib.hid HE.out.2
            clear he1 he2
            have hgs6 : w6.heap[gs]? = some (.cells #[v] 78 (0, 0)) := HM.out.blk
            have hn9 : ¬ StB gs v g9 := fun h => by
              rcases h with rfl | h
              · have := HV9.out
                rw [hgs6] at this
                injection this with this
                injection this with _ e _
                exact absurd e (by decide)
              · exact HM.out.own.ne_type HV9.out (by decide) h
            have hold : ∀ q, w.heap.size ≤ q → q < gs → ¬ StB gs v q := fun q h1 h2 h => by
              rcases h with rfl | h
              · exact Nat.lt_irrefl _ h2
              · exact Nat.lt_irrefl _ (Nat.lt_of_lt_of_le h2 (HM.out.own.block_ge q h).1)
            replace HO6 := Lib.hid (HO6.out.keep (w1 := w7) fun q hq hlt => hk.block q hlt (fun h => by
              rcases h with rfl | h
              · exact HO6.out.ne_type hgs6 (by decide) hq
              · rcases HO6.out.2 with ⟨e, _⟩ | ⟨g', cap', cur', e, _, hg', _⟩
                · rw [e] at hq; cases hq
                · rw [e] at hq
                  cases hq
                  exact HM.out.own.ne_type hg' (by decide) h))
            replace HV9 := Lib.hid (hk.blk HV9.out hn9)
            replace HMo := Lib.hid (hk.blk HMo.out (hold _ (Nat.le_refl _) (by have := HG1.out.1; omega)))
            replace HQo := Lib.hid (hk.blk HQo.out (hold _ (by omega) HG1.out.1))
            replace HB := Lib.hid (HB.out.trans (hk.to_below HB.out.size (fun q h => by
              rcases h with rfl | h
              · have := HG1.out.1; omega
              · have := (HM.out.own.block_ge q h).1; have := HG1.out.1; omega)))
            replace HM := Lib.hid hm7
            clear hk hn9 hold hgs6 hm7
            have HAQ7 := Lib.hid (mat_any gs gs qt v7 es7 qk w7 HM.out)
            rw [HEA.out] at HAQ7
            have HSQ7 := Lib.hid (fun W (hm : MSt W gs gs v7 es7) => scan_any gs gs qt qm v7 es7 qlo qhi W hm HQB.out.2.1 HQB.out.2.2)
            simp only [HEB.out] at HSQ7
            have m0c : w7.cell? ⟨w.heap.size, 0, none⟩ = some (.string mk) := (blk_cell HMo.out 0).trans rfl
            have m1c : w7.cell? ⟨w.heap.size, 1, none⟩ = some (.int .u64 (m0 : Int)) := (blk_cell HMo.out 1).trans rfl
            have m2c : w7.cell? ⟨w.heap.size, 2, none⟩ = some (.bool m1) := (blk_cell HMo.out 2).trans rfl
            have m3c : w7.cell? ⟨w.heap.size, 3, none⟩ = some (.string m2) := (blk_cell HMo.out 3).trans rfl
            have q0c : w7.cell? ⟨w.heap.size + 1, 0, none⟩ = some (.string qk) := (blk_cell HQo.out 0).trans rfl
            have q1c : w7.cell? ⟨w.heap.size + 1, 1, none⟩ = some (.int .u64 (qt : Int)) := (blk_cell HQo.out 1).trans rfl
            have q2c : w7.cell? ⟨w.heap.size + 1, 2, none⟩ = some (.string qlo) := (blk_cell HQo.out 2).trans rfl
            have q3c : w7.cell? ⟨w.heap.size + 1, 3, none⟩ = some (.string qhi) := (blk_cell HQo.out 3).trans rfl
            have q4c : w7.cell? ⟨w.heap.size + 1, 4, none⟩ = some (.int .i64 qm) := (blk_cell HQo.out 4).trans rfl
            go_wp2_with fail
            refine HAQ7.out.mono ?_
            rintro e w8 ⟨rfl, hb⟩
            clear m0c m1c m2c m3c q0c q1c q2c q3c q4c
            replace HM := Lib.hid ((HM.out.below hb).alloc (.cells #[.int .u64 (y : Int), .bool gn, .string sv] 25))
            replace HMo := Lib.hid (blk_alloc (blk_below HMo.out hb) (.cells #[.int .u64 (y : Int), .bool gn, .string sv] 25))
            replace HQo := Lib.hid (blk_alloc (blk_below HQo.out hb) (.cells #[.int .u64 (y : Int), .bool gn, .string sv] 25))
            replace HV9 := Lib.hid (blk_alloc (blk_below HV9.out hb) (.cells #[.int .u64 (y : Int), .bool gn, .string sv] 25))
            replace HO6 := Lib.hid ((HO6.out.below hb).below (below_alloc (Below.refl _ _) (.cells #[.int .u64 (y : Int), .bool gn, .string sv] 25)))
            replace HB := Lib.hid (below_alloc (HB.out.trans (hb.mono HB.out.size)) (.cells #[.int .u64 (y : Int), .bool gn, .string sv] 25)); clear hb
            have v0c : (w8.alloc (.cells #[.int .u64 (y : Int), .bool gn, .string sv] 25)).cell? ⟨g9, 0, none⟩ = some (.int .u64 (y : Int)) := (blk_cell HV9.out 0).trans rfl
            have v1c : (w8.alloc (.cells #[.int .u64 (y : Int), .bool gn, .string sv] 25)).cell? ⟨g9, 1, none⟩ = some (.bool gn) := (blk_cell HV9.out 1).trans rfl
            have v2c : (w8.alloc (.cells #[.int .u64 (y : Int), .bool gn, .string sv] 25)).cell? ⟨g9, 2, none⟩ = some (.string sv) := (blk_cell HV9.out 2).trans rfl
            obtain ⟨A6, c6, rfl, _⟩ := HO6.out.slice_
            have m0c : (w8.alloc (.cells #[.int .u64 (y : Int), .bool gn, .string sv] 25)).cell? ⟨w.heap.size, 0, none⟩ = some (.string mk) := (blk_cell HMo.out 0).trans rfl
            have m1c : (w8.alloc (.cells #[.int .u64 (y : Int), .bool gn, .string sv] 25)).cell? ⟨w.heap.size, 1, none⟩ = some (.int .u64 (m0 : Int)) := (blk_cell HMo.out 1).trans rfl
            have m2c : (w8.alloc (.cells #[.int .u64 (y : Int), .bool gn, .string sv] 25)).cell? ⟨w.heap.size, 2, none⟩ = some (.bool m1) := (blk_cell HMo.out 2).trans rfl
            have m3c : (w8.alloc (.cells #[.int .u64 (y : Int), .bool gn, .string sv] 25)).cell? ⟨w.heap.size, 3, none⟩ = some (.string m2) := (blk_cell HMo.out 3).trans rfl
            have q0c : (w8.alloc (.cells #[.int .u64 (y : Int), .bool gn, .string sv] 25)).cell? ⟨w.heap.size + 1, 0, none⟩ = some (.string qk) := (blk_cell HQo.out 0).trans rfl
            have q1c : (w8.alloc (.cells #[.int .u64 (y : Int), .bool gn, .string sv] 25)).cell? ⟨w.heap.size + 1, 1, none⟩ = some (.int .u64 (qt : Int)) := (blk_cell HQo.out 1).trans rfl
            have q2c : (w8.alloc (.cells #[.int .u64 (y : Int), .bool gn, .string sv] 25)).cell? ⟨w.heap.size + 1, 2, none⟩ = some (.string qlo) := (blk_cell HQo.out 2).trans rfl
            have q3c : (w8.alloc (.cells #[.int .u64 (y : Int), .bool gn, .string sv] 25)).cell? ⟨w.heap.size + 1, 3, none⟩ = some (.string qhi) := (blk_cell HQo.out 3).trans rfl
            have q4c : (w8.alloc (.cells #[.int .u64 (y : Int), .bool gn, .string sv] 25)).cell? ⟨w.heap.size + 1, 4, none⟩ = some (.int .i64 qm) := (blk_cell HQo.out 4).trans rfl
            go_wp2_with fail
            refine (HSQ7.out _ HM.out).mono ?_
            rintro e w9 ⟨v9, rfl, ho9, hb⟩
            clear m0c m1c m2c m3c q0c q1c q2c q3c q4c v0c v1c v2c
            obtain ⟨A9, c9, rfl, _⟩ := ho9.slice_
            replace HO6 := Lib.hid (HO6.out.below hb)
            replace HB := Lib.hid (HB.out.trans (hb.mono HB.out.size)); clear hb
            have hRl := HRL.out
            have HSM := Lib.hid (same11_true A6 A9 c6 c9 R w9 (HO6.out.row wrC_len) (ho9.row wrC_len) hRl)
            clear ho9 hRl
            go_wp2_with fail
            refine HSM.out.mono ?_
            rintro e w10 ⟨rfl, hb⟩
            replace HB := Lib.hid (HB.out.trans (hb.mono HB.out.size)); clear hb
            go_wp2
            go_ret
            exact ⟨rfl, HB.out⟩
section
variable {H : Type} {enc : TypeId × Value → H} {w : World} {base : Nat} {spare : Nat → Bool} {held : Bool}
theorem version_opens : Opens enc Try.prog w base spare held 25 fun (p : VerT) cs => (cs = verC p ∧ p.1 < 18446744073709551616 ∧ p.2.2.size ≤ 140737488351232) ∧ cs.length = 3 :=
  (opens_struct3 Try.underlying25 (opens_int Try.underlying23) (opens_bool Try.underlying4) (opens_string Try.underlying9)).imp fun p cs ⟨hl, ⟨h0, hw⟩, h1, ⟨h2, hs⟩⟩ => by
    have e : Try.prog.cellsOf 25 = 3 := by kernel_rfl
    have e0 : Try.prog.cellsOf 9 = 1 := by kernel_rfl
    have e1 : Try.prog.cellsOf 4 = 1 := by kernel_rfl
    have e2 : Try.prog.cellsOf 23 = 1 := by kernel_rfl
    obtain ⟨a, b, c⟩ := p
    have hw := wf_u64 hw
    obtain ⟨a, rfl⟩ := Int.eq_ofNat_of_zero_le hw.1
    rw [e] at hl
    simp only [e0, e1, e2] at h0 h1 h2
    refine ⟨(a, b, c), ⟨?_, by simp only; omega, hs⟩, hl⟩
    match cs, hl with
    | [x, y, z], _ => simp at h0 h1 h2; rw [h0, h1, h2]; rfl
def itArr (p : ItT) : Array Value := #[.string p.1, .int .u64 (p.2.1 : Int), .bool p.2.2.1, .string p.2.2.2]
set_option maxRecDepth 10000 in
theorem item_opens : Opens enc Try.prog w base spare held 27 fun (p : ItT) cs => cs = (itArr p).toList ∧ p.2.1 < 18446744073709551616 ∧ p.1.size ≤ 140737488351232 ∧ p.2.2.2.size ≤ 140737488351232 :=
  (opens_struct2 Try.underlying27 (opens_string Try.underlying9) version_opens).imp fun p cs ⟨hl, ⟨h0, hs⟩, ⟨h1, hv, hz⟩, hl1⟩ => by
    have e : Try.prog.cellsOf 27 = 4 := by kernel_rfl
    have e0 : Try.prog.cellsOf 9 = 1 := by kernel_rfl
    have e2 : Try.prog.cellsOf 25 = 3 := by kernel_rfl
    obtain ⟨a, x, y, z⟩ := p
    rw [e] at hl
    simp only [e0, e2] at h0 h1
    refine ⟨(a, x, y, z), ?_, hv, hs, hz⟩
    match cs, hl with
    | [c0, c1, c2, c3], _ =>
      simp [verC] at h0 h1
      obtain ⟨h1, h2, h3⟩ := h1
      subst h0 h1 h2 h3
      rfl
theorem items_opens : Opens enc Try.prog w base spare held 22 fun (l : List ItT) cs => ∃ A len cap, cs = [.slice A len cap] ∧ len ≤ cap ∧ cap ≤ maxLen ∧ len * Try.prog.bytesOf 27 ≤ 140737488351232 ∧ RowSays w (Try.prog.cellsOf 27) (fun p cs => cs = (itArr p).toList ∧ p.2.1 < 18446744073709551616 ∧ p.1.size ≤ 140737488351232 ∧ p.2.2.2.size ≤ 140737488351232) A len l :=
  opens_slice Try.underlying22 (by decide +kernel) item_opens
abbrev AskT := ByteArray × Nat × ByteArray × ByteArray × Int
def askArr (p : AskT) : Array Value := #[.string p.1, .int .u64 (p.2.1 : Int), .string p.2.2.1, .string p.2.2.2.1, .int .i64 p.2.2.2.2]
set_option maxRecDepth 10000 in
theorem asked_opens : Opens enc Try.prog w base spare held 29 fun (p : AskT) cs => cs = (askArr p).toList ∧ p.1.size ≤ 140737488351232 ∧ p.2.2.1.size ≤ 140737488351232 ∧ p.2.2.2.1.size ≤ 140737488351232 := fun fuel cs x hx hf => by
  obtain ⟨hl, hh⟩ := fits_struct Try.underlying29 hx hf
  have e : Try.prog.cellsOf 29 = 5 := by kernel_rfl
  have eu : Try.prog.cellsOf 23 = 1 := by kernel_rfl
  have es : Try.prog.cellsOf 9 = 1 := by kernel_rfl
  have ei : Try.prog.cellsOf 3 = 1 := by kernel_rfl
  obtain ⟨_, _, a0, b0⟩ := hh 0 _ rfl
  obtain ⟨_, _, a1, b1⟩ := hh 1 _ rfl
  obtain ⟨_, _, a2, b2⟩ := hh 2 _ rfl
  obtain ⟨_, _, a3, b3⟩ := hh 3 _ rfl
  obtain ⟨_, _, a4, b4⟩ := hh 4 _ rfl
  clear hh
  obtain ⟨k, h0, w0⟩ := opens_string (enc := enc) Try.underlying9 _ _ _ a0 b0
  obtain ⟨t, h1, w1⟩ := opens_int (enc := enc) Try.underlying23 _ _ _ a1 b1
  obtain ⟨lo, h2, w2⟩ := opens_string (enc := enc) Try.underlying9 _ _ _ a2 b2
  obtain ⟨hi, h3, w3⟩ := opens_string (enc := enc) Try.underlying9 _ _ _ a3 b3
  obtain ⟨mo, h4, _⟩ := opens_int (enc := enc) Try.underlying3 _ _ _ a4 b4
  clear a0 a1 a2 a3 a4 b0 b1 b2 b3 b4 hx hf
  have w1 := wf_u64 w1
  obtain ⟨t, rfl⟩ := Int.eq_ofNat_of_zero_le w1.1
  rw [e] at hl
  refine ⟨(k, t, lo, hi, mo), ?_, w0, w2, w3⟩
  match cs, hl with
  | [c0, c1, c2, c3, c4], _ =>
    simp [eu, es, ei] at h0 h1 h2 h3 h4
    rw [h0, h1, h2, h3, h4]
    rfl
end
theorem mvcc_past_walk (A0 : Option Addr) (len0 cap0 : Nat) (l0 : List ItT) (a1 : ItT) (a2 : AskT) (W : World) (hc : len0 ≤ cap0) (hs : len0 * Try.prog.bytesOf 27 ≤ 140737488351232)
    (hr : RowSays W (Try.prog.cellsOf 27) (fun p cs => cs = (itArr p).toList ∧ p.2.1 < 18446744073709551616 ∧ p.1.size ≤ 140737488351232 ∧ p.2.2.2.size ≤ 140737488351232) A0 len0 l0)
    (h1 : a1.2.1 < 18446744073709551616) (h2 : a1.1.size ≤ 140737488351232) (h3 : a1.2.2.2.size ≤ 140737488351232) (h4 : a2.1.size ≤ 140737488351232) (h5 : a2.2.2.1.size ≤ 140737488351232) (h6 : a2.2.2.2.1.size ≤ 140737488351232) :
    Calls Try.prog 3 #[.slice A0 len0 cap0, .agg (itArr a1), .agg (askArr a2)] W fun e w' => e = .returned (.bool true) ∧ Below W.heap.size W w' := by
  have e1 : Try.prog.cellsOf 27 = 4 := by kernel_rfl
  have e2 : Try.prog.bytesOf 27 = 48 := by kernel_rfl
  rw [e1] at hr
  rw [e2] at hs
  exact mvcc_past A0 len0 cap0 l0 a1 a2.1 a2.2.1 a2.2.2.1 a2.2.2.2.1 a2.2.2.2.2 W (RowF.of_says (f := itC) (hr.imp fun _ _ h => h.1)) (by omega) (hr.all fun _ _ h => h.2) ⟨h1, h2, h3⟩ ⟨h4, h5, h6⟩
end Go.Proofs.Ytcnehponkgofiaa.My
