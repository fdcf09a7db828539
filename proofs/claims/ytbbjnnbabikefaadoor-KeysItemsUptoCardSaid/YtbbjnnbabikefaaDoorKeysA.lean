/- isoglossref03.Compare; isoglosslaw03.all. -/
import Derived.Test.YtbbjnnbabikefaaDoorKeys9
namespace Go.Proofs.YtbbjnnbabikefaaDoor.My
set_option linter.unusedSimpArgs false
set_option linter.unusedVariables false
open Go.RowKit Go.Proofs.YtbbjnnbabikefaaDoorW.PrintWords Go.Proofs.YtbbjnnbabikefaaDoorW.PrintLast Go.Proofs.YtbbjnnbabikefaaDoor.Pm

theorem rank_k (x : IR) : rankP x.p = x.k % 6 := by
  have := Nat.mod_lt x.k (show 0 < 6 by decide)
  unfold IR.p
  repeat' split
  all_goals simp only [rankP]
  all_goals first | omega | (simp only [Bool.false_eq_true, if_false, if_true]; omega)
abbrev prX (x : IR) : ItX := (x.p, x.d)
theorem cmpP_lt {p q : PIt} (h : rankP p < rankP q) : cmpP p q = -1 := by unfold cmpP; rw [if_pos h]
theorem cmpP_gt {p q : PIt} (h : rankP q < rankP p) : cmpP p q = 1 := by unfold cmpP; rw [if_neg (by omega), if_pos h]
theorem cmpI_tf (p q : PIt) : cmpI (p, true) (q, false) = signI false true := by simp [cmpI]
theorem cmpI_ft (p q : PIt) : cmpI (p, false) (q, true) = signI true false := by simp [cmpI]
theorem cmpI_ff (p q : PIt) : cmpI (p, false) (q, false) = cmpP p q := by simp [cmpI]
theorem cmpI_tt (p q : PIt) : cmpI (p, true) (q, true) = -cmpP p q := by simp [cmpI]
theorem rcompare_any (x y : IR) (w : World) : Calls Tryd.prog 18 #[.agg x.arr, .agg y.arr] w fun e w' => e = .returned (.int .i64 (cmpI (prX x) (prX y))) ∧ Below w.heap.size w w' := by
  have hrx := rank_k x
  have hry := rank_k y
  obtain ⟨k1, i1, u1, t1, d1⟩ := x
  obtain ⟨k2, i2, u2, t2, d2⟩ := y
  simp only at hrx hry
  unfold prX
  simp only
  cases d1
  · cases d2
    · rw [cmpI_ff]
      rcases Nat.lt_trichotomy (k1 % 6) (k2 % 6) with h | h | h
      · rw [cmpP_lt (by rw [hrx, hry]; exact h)]
        exact rc_ltp k1 k2 u1 u2 i1 i2 t1 t2 w h
      · rcases (show k1 % 6 = 0 ∨ k1 % 6 = 1 ∨ k1 % 6 = 2 ∨ k1 % 6 = 3 ∨ k1 % 6 = 4 ∨ k1 % 6 = 5 by omega) with h1 | h1 | h1 | h1 | h1 | h1
        · have h2 : k2 % 6 = 0 := by omega
          refine (rc_eq0p k1 k2 u1 u2 i1 i2 t1 t2 w h1 h2).mono fun e w1 hh => ⟨by rw [hh.1]; simp [IR.p, h1, h2, cmpP, rankP, valC, ByteArray.toList_eq], hh.2⟩
        · have h2 : k2 % 6 = 1 := by omega
          refine (rc_eq1p k1 k2 u1 u2 i1 i2 t1 t2 w h1 h2).mono fun e w1 hh => ⟨by rw [hh.1]; simp [IR.p, h1, h2, cmpP, rankP, valC, ByteArray.toList_eq], hh.2⟩
        · have h2 : k2 % 6 = 2 := by omega
          refine (rc_eq2p k1 k2 u1 u2 i1 i2 t1 t2 w h1 h2).mono fun e w1 hh => ⟨by rw [hh.1]; simp [IR.p, h1, h2, cmpP, rankP, valC, ByteArray.toList_eq], hh.2⟩
        · have h2 : k2 % 6 = 3 := by omega
          refine (rc_eq3p k1 k2 u1 u2 i1 i2 t1 t2 w h1 h2).mono fun e w1 hh => ⟨by rw [hh.1]; simp [IR.p, h1, h2, cmpP, rankP, valC, ByteArray.toList_eq], hh.2⟩
        · have h2 : k2 % 6 = 4 := by omega
          refine (rc_eq4p k1 k2 u1 u2 i1 i2 t1 t2 w h1 h2).mono fun e w1 hh => ⟨by rw [hh.1]; simp [IR.p, h1, h2, cmpP, rankP, valC, ByteArray.toList_eq], hh.2⟩
        · have h2 : k2 % 6 = 5 := by omega
          refine (rc_eq5p k1 k2 u1 u2 i1 i2 t1 t2 w h1 h2).mono fun e w1 hh => ⟨by rw [hh.1, gt_less2]; simp [IR.p, h1, h2, cmpP, rankP, valC, ByteArray.toList_eq], hh.2⟩
      · rw [cmpP_gt (by rw [hrx, hry]; exact h)]
        exact rc_gtp k1 k2 u1 u2 i1 i2 t1 t2 w h
    · rw [cmpI_ft]
      exact rc_ft k1 k2 u1 u2 i1 i2 t1 t2 w
  · cases d2
    · rw [cmpI_tf]
      exact rc_tf k1 k2 u1 u2 i1 i2 t1 t2 w
    · rw [cmpI_tt]
      rcases Nat.lt_trichotomy (k1 % 6) (k2 % 6) with h | h | h
      · rw [cmpP_lt (by rw [hrx, hry]; exact h)]
        exact rc_ltn k1 k2 u1 u2 i1 i2 t1 t2 w h
      · rcases (show k1 % 6 = 0 ∨ k1 % 6 = 1 ∨ k1 % 6 = 2 ∨ k1 % 6 = 3 ∨ k1 % 6 = 4 ∨ k1 % 6 = 5 by omega) with h1 | h1 | h1 | h1 | h1 | h1
        · have h2 : k2 % 6 = 0 := by omega
          refine (rc_eq0n k1 k2 u1 u2 i1 i2 t1 t2 w h1 h2).mono fun e w1 hh => ⟨by rw [hh.1]; simp [IR.p, h1, h2, cmpP, rankP, valC, ByteArray.toList_eq], hh.2⟩
        · have h2 : k2 % 6 = 1 := by omega
          refine (rc_eq1n k1 k2 u1 u2 i1 i2 t1 t2 w h1 h2).mono fun e w1 hh => ⟨by rw [hh.1]; simp [IR.p, h1, h2, cmpP, rankP, valC, ByteArray.toList_eq], hh.2⟩
        · have h2 : k2 % 6 = 2 := by omega
          refine (rc_eq2n k1 k2 u1 u2 i1 i2 t1 t2 w h1 h2).mono fun e w1 hh => ⟨by rw [hh.1]; simp [IR.p, h1, h2, cmpP, rankP, valC, ByteArray.toList_eq], hh.2⟩
        · have h2 : k2 % 6 = 3 := by omega
          refine (rc_eq3n k1 k2 u1 u2 i1 i2 t1 t2 w h1 h2).mono fun e w1 hh => ⟨by rw [hh.1]; simp [IR.p, h1, h2, cmpP, rankP, valC, ByteArray.toList_eq], hh.2⟩
        · have h2 : k2 % 6 = 4 := by omega
          refine (rc_eq4n k1 k2 u1 u2 i1 i2 t1 t2 w h1 h2).mono fun e w1 hh => ⟨by rw [hh.1]; simp [IR.p, h1, h2, cmpP, rankP, valC, ByteArray.toList_eq], hh.2⟩
        · have h2 : k2 % 6 = 5 := by omega
          refine (rc_eq5n k1 k2 u1 u2 i1 i2 t1 t2 w h1 h2).mono fun e w1 hh => ⟨by rw [hh.1, gt_less2]; simp [IR.p, h1, h2, cmpP, rankP, valC, ByteArray.toList_eq], hh.2⟩
      · rw [cmpP_gt (by rw [hrx, hry]; exact h)]
        exact rc_gtn k1 k2 u1 u2 i1 i2 t1 t2 w h
theorem cmpT_step {a b : List ItX} {i : Nat} (ha : i < a.length) (hb : i < b.length) : cmpT (a.drop i) (b.drop i) = if cmpI a[i] b[i] ≠ 0 then cmpI a[i] b[i] else cmpT (a.drop (i + 1)) (b.drop (i + 1)) := by
  rw [List.drop_eq_getElem_cons ha, List.drop_eq_getElem_cons hb, cmpT]
theorem cmpT_end {a b : List ItX} {i : Nat} (ha : i ≤ a.length) (hb : i ≤ b.length) (h : ¬ (i < a.length ∧ i < b.length)) : cmpT (a.drop i) (b.drop i) = signI (decide (a.length < b.length)) (decide (b.length < a.length)) := by
  by_cases h1 : i < a.length
  · obtain rfl : i = b.length := by omega
    rw [List.drop_eq_getElem_cons h1, List.drop_length, cmpT, decide_eq_false (by omega), decide_eq_true (by omega)]
    rfl
  · obtain rfl : i = a.length := by omega
    by_cases h2 : a.length < b.length
    · rw [List.drop_eq_getElem_cons h2, List.drop_length, cmpT, decide_eq_true (by omega)]
      rfl
    · rw [List.drop_length, List.drop_eq_nil_of_le (by omega), cmpT, decide_eq_false (by omega), decide_eq_false (by omega)]
      rfl
theorem info_item5 : (Tryd.prog.info? 24).map (·.size) = some 5 := by kernel_rfl
set_option maxRecDepth 100000 in
set_option maxHeartbeats 4000000 in
theorem rCompare_any (A B : Option Addr) (n c m d : Nat) (la lb : List IR) (w : World) (hA : RowF w 5 irC A n la) (hB : RowF w 5 irC B m lb) (hn : n ≤ 1000) (hm : m ≤ 1000) :
    Calls Tryd.prog 12 #[.slice A n c, .slice B m d] w fun e w' => e = .returned (.int .i64 (cmpT (la.map prX) (lb.map prX))) ∧ Below w.heap.size w w' := by
  have HA := Lib.hid hA; clear hA
  have HB' := Lib.hid hB; clear hB
  have IM := Lib.hid info_item5
  go_enter Tryd.func12, Tryd.ntmps12
  go_wp2
  go_loopw [5] (fun u wr => ∃ i : Nat, u = .int .i64 i ∧ i ≤ n ∧ i ≤ m ∧ Hid (cmpT (la.map prX) (lb.map prX) = cmpT ((la.map prX).drop i) ((lb.map prX).drop i)) ∧ Below w.heap.size w wr) (fun u _ => n - (intOf u).toNat)
  case atStart => exact ⟨0, rfl, Nat.zero_le _, Nat.zero_le _, Lib.hid rfl, Below.refl _ _⟩
  case round =>
    obtain ⟨i, rfl, hi, hi2, HT, hb⟩ := hrel
    have HB := Lib.hid hb; clear hb
    have HLA := Lib.hid HA.out.1
    have HLB := Lib.hid HB'.out.1
    have HIN := Lib.hid hi
    have HIM := Lib.hid hi2
    by_cases hlt : i < n
    · by_cases hlm : i < m
      · have y5 : decide ((i : Int) < (n : Int)) = true := decide_eq_true (by omega)
        have y6 : decide ((i : Int) < (m : Int)) = true := decide_eq_true (by omega)
        obtain ⟨b1, o1, hj1, rfl, hbW1, hc1⟩ := HA.out.get i hlt
        obtain ⟨b2, o2, hj2, rfl, hbW2, hc2⟩ := HB'.out.get i hlm
        have HST := Lib.hid (cmpT_step (a := la.map prX) (b := lb.map prX) (i := i) (by rw [List.length_map]; exact hj1) (by rw [List.length_map]; exact hj2))
        rw [List.getElem_map, List.getElem_map] at HST
        obtain ⟨x, hx⟩ : ∃ x, la[i] = x := ⟨_, rfl⟩
        obtain ⟨y, hy⟩ : ∃ y, lb[i] = y := ⟨_, rfl⟩
        rw [hx] at hc1 HST
        rw [hy] at hc2 HST
        have HC := Lib.hid (fun W => show Calls Tryd.prog 18 #[.agg (irC x).toArray, .agg (irC y).toArray] W fun e w' => e = .returned (.int .i64 (cmpI (prX x) (prX y))) ∧ Below W.heap.size W w' from rcompare_any x y W)
        have hc1 := range_below hc1 HB.out hbW1
        have hc2 := range_below hc2 HB.out hbW2
        have HC1 := Lib.hid hc1
        have HC2 := Lib.hid hc2
        have HW1 := Lib.hid hbW1
        have HW2 := Lib.hid hbW2
        generalize cmpI (prX x) (prX y) = C at *
        have hw := succ_w' hlt (show n ≤ 140737488351232 by omega)
        have HLT := Lib.hid hlt
        have HLM := Lib.hid hlm
        clear hc1 hc2 hx hy hj1 hj2 hbW1 hbW2
        go_wp2
        refine start_ (n := 10) (S := fun w' => w'.rangeAt b1 (o1 + i * 5) (irC x) ∧ w'.rangeAt b2 (o2 + i * 5) (irC y)) (ds := []) #[false, false, false, false, false, false, false, false, false, false] (by kernel_rfl) rfl rfl ⟨(show wr.drew.rangeAt _ _ _ from HC1.out), (show wr.drew.rangeAt _ _ _ from HC2.out)⟩ (fun hHeld => ?_)
        have HB := Lib.hid (below_drew HB.out)
        refine pure_ (i := 0) (N := some 19) (v := ?_) (a' := ?_) #[true, false, false, false, false, false, false, false, false, false] rfl rfl (by kernel_rfl) (fun _ _ _ h => h) (Or.inl ⟨by rfl, ?_⟩) ?_ ?_
        rotate_left
        · intro w'
          go_simp
          with_reducible rfl
        rotate_left
        · simp only [Act.put, List.setIfInBounds_toArray, List.set_cons_zero, List.set_cons_succ, i64_w, i32_w]
          rfl
        refine pure_ (i := 1) (N := some 20) (v := ?_) (a' := ?_) #[true, true, false, false, false, false, false, false, false, false] rfl rfl (by kernel_rfl) (fun _ _ _ h => h) (Or.inl ⟨by rfl, ?_⟩) ?_ ?_
        rotate_left
        · intro w'
          go_simp
          with_reducible rfl
        rotate_left
        · simp only [Act.put, List.setIfInBounds_toArray, List.set_cons_zero, List.set_cons_succ, i64_w, i32_w]
          rfl
        refine pure_ (i := 2) (N := some 21) (v := ?_) (a' := ?_) #[true, true, true, false, false, false, false, false, false, false] rfl rfl (by kernel_rfl) (fun _ _ _ h => h) (Or.inl ⟨by rfl, ?_⟩) ?_ ?_
        rotate_left
        · intro w'
          go_simp
          with_reducible rfl
        rotate_left
        · simp only [Act.put, List.setIfInBounds_toArray, List.set_cons_zero, List.set_cons_succ, i64_w, i32_w]
          rfl
        refine pure_ (i := 4) (N := some 23) (v := ?_) (a' := ?_) #[true, true, true, false, true, false, false, false, false, false] rfl rfl (by kernel_rfl) (fun _ _ _ h => h) (Or.inl ⟨by rfl, ?_⟩) ?_ ?_
        rotate_left
        · intro w'
          go_simp
          with_reducible rfl
        rotate_left
        · simp only [Act.put, List.setIfInBounds_toArray, List.set_cons_zero, List.set_cons_succ, i64_w, i32_w]
          rfl
        refine pure_ (i := 5) (N := some 24) (v := ?_) (a' := ?_) #[true, true, true, false, true, true, false, false, false, false] rfl rfl (by kernel_rfl) (fun _ _ _ h => h) (Or.inl ⟨by rfl, ?_⟩) ?_ ?_
        rotate_left
        · intro w'
          go_simp
          with_reducible rfl
        rotate_left
        · simp only [Act.put, List.setIfInBounds_toArray, List.set_cons_zero, List.set_cons_succ, i64_w, i32_w]
          rfl
        refine pure_ (i := 6) (N := some 25) (v := ?_) (a' := ?_) #[true, true, true, false, true, true, true, false, false, false] rfl rfl (by kernel_rfl) (fun _ _ _ h => h) (Or.inl ⟨by rfl, ?_⟩) ?_ ?_
        rotate_left
        · intro w'
          go_simp
          with_reducible rfl
        rotate_left
        · simp only [Act.put, List.setIfInBounds_toArray, List.set_cons_zero, List.set_cons_succ, i64_w, i32_w]
          rfl
        refine take_ (i := 3) (N := some 22) (v := ?_) (a' := ?_) #[true, true, true, true, true, true, true, false, false, false] rfl rfl (by kernel_rfl) (fun _ _ _ h => h) (Or.inl ⟨by rfl, ?_⟩) hHeld ?_ ?_
        rotate_left
        · rintro w' ⟨s0, s1⟩
          refine run_midrow 24 (.tmp 21) ?_ b1 (o1 + i * 5) ?_ (irC x) _ s0 Tryd.underlying24 rfl IM.out <;> rfl
        rotate_left
        · simp only [Act.put, List.setIfInBounds_toArray, List.set_cons_zero, List.set_cons_succ, i64_w, i32_w]
          rfl
        refine take_ (i := 7) (N := some 26) (v := ?_) (a' := ?_) #[true, true, true, true, true, true, true, true, false, false] rfl rfl (by kernel_rfl) (fun _ _ _ h => h) (Or.inl ⟨by rfl, ?_⟩) hHeld ?_ ?_
        rotate_left
        · rintro w' ⟨s0, s1⟩
          refine run_midrow 24 (.tmp 25) ?_ b2 (o2 + i * 5) ?_ (irC y) _ s1 Tryd.underlying24 rfl IM.out <;> rfl
        rotate_left
        · simp only [Act.put, List.setIfInBounds_toArray, List.set_cons_zero, List.set_cons_succ, i64_w, i32_w]
          rfl
        refine one_ (i := 8) (N := some 27) #[true, true, true, true, true, true, true, true, true, false] rfl rfl (by kernel_rfl) (by decide) (fun K hK => ?_)
        refine goes_ Tryd.func18 (by kernel_rfl) rfl #[.agg (irC x).toArray, .agg (irC y).toArray] (by rfl) rfl rfl (by (try simp only [List.map_toArray, List.map_cons, List.map_nil]); first | done | rfl) ?_
        with_reducible refine ((HC.out _)).mono ?_
        rintro e w5 ⟨rfl, hb5⟩
        refine ⟨_, rfl, ?_⟩
        have HB5 := Lib.hid (HB.out.trans (hb5.mono HB.out.size))
        refine hK.out _ _ ⟨(range_below hHeld.1 hb5 (Nat.lt_of_lt_of_le HW1.out HB.out.size)), (range_below hHeld.2 hb5 (Nat.lt_of_lt_of_le HW2.out HB.out.size))⟩ (fun hHeld => ?_)
        clear hK K
        refine norm_ (a' := ?_) ?_ ?_
        rotate_left
        · show Act.put _ (some 27) _ = _
          simp only [Act.put, List.setIfInBounds_toArray, List.set_cons_zero, List.set_cons_succ, i64_w, i32_w]
          rfl
        refine pure_ (i := 9) (N := some 6) (v := ?_) (a' := ?_) #[true, true, true, true, true, true, true, true, true, true] rfl rfl (by kernel_rfl) (fun _ _ _ h => h) (Or.inl ⟨by rfl, ?_⟩) ?_ ?_
        rotate_left
        · intro w'
          go_simp
          with_reducible rfl
        rotate_left
        · simp only [Act.put, List.setIfInBounds_toArray, List.set_cons_zero, List.set_cons_succ, i64_w, i32_w]
          rfl
        refine done_ (by kernel_rfl) ?_

        replace HB := HB5
        by_cases hC : C = 0
        · subst hC
          go_wp2
          go_roundw
          case rel => exact ⟨i + 1, by go_num, HLT.out, HLM.out, Lib.hid (by rw [HT.out, HST.out, if_neg (by simp)]), HB.out⟩
          case measure => first | exact kup_w HLT.out hw | exact kup_n HLT.out
        · have z1 : (C == 0) = false := by simp [hC]
          have z2 : (C != 0) = true := by simp [hC]
          have HCN := Lib.hid hC; clear hC
          go_wp2
          go_ret
          exact ⟨congrArg (fun x => Ending.returned (.int .i64 x)) (show C = cmpT (la.map prX) (lb.map prX) by rw [HT.out, HST.out, if_pos HCN.out]), HB.out⟩
      · have y5 : decide ((i : Int) < (n : Int)) = true := decide_eq_true (by omega)
        have y6 : decide ((i : Int) < (m : Int)) = false := decide_eq_false (by omega)
        have HE := Lib.hid (cmpT_end (a := la.map prX) (b := lb.map prX) (i := i) (by rw [List.length_map, HLA.out]; exact hi) (by rw [List.length_map, HLB.out]; exact hi2) (by rw [List.length_map, List.length_map, HLA.out, HLB.out]; omega))
        rw [List.length_map, List.length_map, HLA.out, HLB.out] at HE
        have q1 : decide ((n : Int) < (m : Int)) = decide (n < m) := decide_eq_decide.2 ⟨fun h => by omega, fun h => by omega⟩
        have q2 : decide ((m : Int) < (n : Int)) = decide (m < n) := decide_eq_decide.2 ⟨fun h => by omega, fun h => by omega⟩
        go_wp2_with fail
        refine (sign_any _ _ _).mono ?_
        rintro e w1 ⟨rfl, rfl⟩
        go_wp2
        go_ret
        exact ⟨congrArg (fun x => Ending.returned (.int .i64 x)) (show signI (decide (n < m)) (decide (m < n)) = cmpT (la.map prX) (lb.map prX) by rw [HT.out, HE.out]), HB.out⟩
    · have y5 : decide ((i : Int) < (n : Int)) = false := decide_eq_false (by omega)
      have HE := Lib.hid (cmpT_end (a := la.map prX) (b := lb.map prX) (i := i) (by rw [List.length_map, HLA.out]; exact hi) (by rw [List.length_map, HLB.out]; exact hi2) (by rw [List.length_map, List.length_map, HLA.out, HLB.out]; omega))
      rw [List.length_map, List.length_map, HLA.out, HLB.out] at HE
      have q1 : decide ((n : Int) < (m : Int)) = decide (n < m) := decide_eq_decide.2 ⟨fun h => by omega, fun h => by omega⟩
      have q2 : decide ((m : Int) < (n : Int)) = decide (m < n) := decide_eq_decide.2 ⟨fun h => by omega, fun h => by omega⟩
      go_wp2_with fail
      refine (sign_any _ _ _).mono ?_
      rintro e w1 ⟨rfl, rfl⟩
      go_wp2
      go_ret
      exact ⟨congrArg (fun x => Ending.returned (.int .i64 x)) (show signI (decide (n < m)) (decide (m < n)) = cmpT (la.map prX) (lb.map prX) by rw [HT.out, HE.out]), HB.out⟩
theorem info_any : (Tryd.prog.info? 20).map (fun i => (i.zero, i.size, i.bytes)) = some (some .nilIface, 1, 16) := by kernel_rfl
theorem map_take {α β : Type} (f : α → β) {l : List α} {i : Nat} (h : i < l.length) : (l.take (i + 1)).map f = (l.take i).map f ++ [f l[i]] := by
  rw [List.take_add_one, List.getElem?_eq_getElem h, List.map_append]
  rfl
set_option maxRecDepth 100000 in
set_option maxHeartbeats 4000000 in
theorem all_any (A : Option Addr) (n c : Nat) (l : List IR) (w : World) (hA : RowF w 5 irC A n l) (hn : n ≤ 1000) :
    Calls Tryd.prog 14 #[.slice A n c] w fun e w' => ∃ v, e = .returned v ∧ OwnF w' w.heap.size 20 1 itC v (l.map prX) ∧ Below w.heap.size w w' := by
  have HA := Lib.hid hA; clear hA
  have HL := Lib.hid HA.out.1
  go_enter Tryd.func14, Tryd.ntmps14
  go_wp2
  go_loopw [3, 4] (fun o u wr => ∃ i : Nat, u = .int .i64 i ∧ i ≤ n ∧ Hid (OwnF wr w.heap.size 20 1 itC o ((l.take i).map prX)) ∧ Hid (Below w.heap.size w wr)) (fun _ u _ => n - (intOf u).toNat)
  case atStart => exact ⟨0, rfl, Nat.zero_le _, Lib.hid (OwnF.nil ..), Lib.hid (Below.refl _ _)⟩
  case round =>
    obtain ⟨i, rfl, hi, HO, HB⟩ := hrel
    by_cases hlt : i < n
    · obtain ⟨bb, off, hj, rfl, hbW, hc⟩ := HA.out.get i hlt
      have HT := Lib.hid (map_take prX hj)
      have hml : ((l.take i).map prX).length = i := by rw [List.length_map, List.length_take]; omega
      obtain ⟨out, hout⟩ : ∃ out, (l.take i).map prX = out := ⟨_, rfl⟩
      rw [hout] at HT HO hml
      obtain ⟨x, hx⟩ : ∃ x, l[i] = x := ⟨_, rfl⟩
      rw [hx] at hc HT
      have HV := Lib.hid (fun W => value_any x W)
      have BV := Lib.hid (build_item x.p x.d)
      have RV := Lib.hid (fun (W : World) (g : Nat) (h : W.heap[g]? = some (.cells #[itV x.p x.d] 20 (0, 0))) => row_item (prX x) h)
      obtain ⟨k, ii, u, t, d⟩ := x
      have hc := range_below hc HB.out hbW
      have c0 : wr.cell? ⟨bb, off + i * 5, none⟩ = some (.int .u8 (k : Int)) := hc 0 _ rfl
      have c1 : wr.cell? ⟨bb, off + i * 5 + 1, none⟩ = some (.int .i64 ii) := hc 1 _ rfl
      have c2 : wr.cell? ⟨bb, off + i * 5 + 2, none⟩ = some (.int .u64 (u : Int)) := hc 2 _ rfl
      have c3 : wr.cell? ⟨bb, off + i * 5 + 3, none⟩ = some (.string t) := hc 3 _ rfl
      have c4 : wr.cell? ⟨bb, off + i * 5 + 4, none⟩ = some (.bool d) := hc 4 _ rfl
      simp only [IR.arr] at HV BV RV HT
      obtain ⟨px, hpx⟩ : ∃ px, (IR.mk k ii u t d).p = px := ⟨_, rfl⟩
      have hxx : prX ⟨k, ii, u, t, d⟩ = (px, d) := by rw [← hpx]
      rw [hxx] at HT RV
      rw [hpx] at HV BV RV
      clear hpx hxx hx hout
      have HO2 := HO.out
      have hw := next_wrap hlt (by omega)
      obtain ⟨oA, oc, rfl, hoc⟩ := HO2.slice_
      have HLT := Lib.hid hlt
      have HML := Lib.hid hml
      clear hc hj hbW hoc hml HO2
      go_wp2_with fail
      refine (HV.out _).mono ?_
      rintro e w1 ⟨rfl, hb⟩
      replace HB := Lib.hid (HB.out.trans (hb.mono HB.out.size))
      replace HO := Lib.hid (HO.out.below hb)
      clear hb c0 c1 c2 c3 c4
      obtain ⟨V, hV⟩ : ∃ V, itV px d = V := ⟨_, rfl⟩
      have HVV := Lib.hid hV
      rw [hV] at BV RV ⊢
      obtain ⟨v3, w3, hr3, ho3, hg3, -⟩ := run_app_rows (P := Tryd.prog) (W := w1.alloc (.cells #[V] 20)) 36 36 Tryd.underlying36 info_any rfl (by decide) (by decide) itC_len itC_one (HO.out.below (below_alloc (Below.refl _ w1) (.cells #[V] 20))) (c := 1) (RV.out _ _ (blk_new w1 (.cells #[V] 20))) (Nat.le_trans HB.out.size (below_alloc (Below.refl _ w1) (.cells #[V] 20)).size) (by rw [HML.out]; clear hw; omega)
      have HB3 := Lib.hid ((below_alloc HB.out (.cells #[V] 20)).grown hg3 (Nat.le_trans HB.out.size (below_alloc (Below.refl _ w1) (.cells #[V] 20)).size) (fun q hq => (HO.out.block_ge q hq).1))
      have HO3 := Lib.hid ho3; clear ho3 hg3 hV
      have ho1 := HO3.out.one_cell
      rw [HML.out] at hr3 ⊢
      go_wp2_with (first | refine wpl_build (v := V) rfl 36 1 (.tmp 16) rfl (by rfl) (BV.out _) ?_ | (at_builtin; refine wpl_app rfl (.tmp 11) (.tmp 17) 36 rfl rfl rfl hr3 ?_) | fail)
      go_roundw
      case rel => exact ⟨i + 1, by go_num, HLT.out, by rw [HT.out]; exact HO3, HB3⟩
      case measure => first | exact kup_w HLT.out hw | exact kup_n HLT.out
    · obtain rfl : i = n := by omega
      have e : l.take i = l := List.take_of_length_le (by rw [HL.out]; exact Nat.le_refl _)
      rw [e] at HO
      go_wp2
      go_ret
      exact ⟨_, rfl, HO.out, HB.out⟩
end Go.Proofs.YtbbjnnbabikefaaDoor.My
