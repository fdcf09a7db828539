/- mvcc.Store.Install, walked. -/
import Derived.Test.YtcnehponkgofiaaInst2
namespace Go.Proofs.Ytcnehponkgofiaa.My
set_option linter.unusedSimpArgs false
set_option linter.unusedVariables false
open Go.RowKit Go.Proofs.YtcnehponkgofiaaW.PrintWords Go.Proofs.YtcnehponkgofiaaW.PrintLast Go.Proofs.Ytcnehponkgofiaa.Pm

theorem err3 {es : List EntP} {key : ByteArray} {x : VerT} (h : ¬ (key.size ≤ 100 ∧ x.2.2.size ≤ 500)) : errS es key x = 3 := by unfold errS; rw [if_pos h]
theorem err1 {es : List EntP} {key : ByteArray} {x : VerT} (h : key.size ≤ 100 ∧ x.2.2.size ≤ 500) (h1 : ¬ rightV [x]) : errS es key x = 1 := by
  unfold errS
  rw [if_neg (fun e => e h), if_pos (Classical.byContradiction fun e => h1 ((right_one x).2 e))]
theorem err8 {es : List EntP} {key : ByteArray} {x : VerT} (h : key.size ≤ 100 ∧ x.2.2.size ≤ 500) (h1 : rightV [x]) (h2 : x.1 ≤ lastS (chS es key)) : errS es key x = 8 := by
  unfold errS
  rw [if_neg (fun e => e h), if_neg ((right_one x).1 h1), if_pos h2]
theorem err11 {es : List EntP} {key : ByteArray} {x : VerT} (h : key.size ≤ 100 ∧ x.2.2.size ≤ 500) (h1 : rightV [x]) (h2 : ¬ x.1 ≤ lastS (chS es key)) (h3 : 200 ≤ (chS es key).length) : errS es key x = 11 := by
  unfold errS
  rw [if_neg (fun e => e h), if_neg ((right_one x).1 h1), if_neg h2, if_pos h3]
theorem err0 {es : List EntP} {key : ByteArray} {x : VerT} (h : key.size ≤ 100 ∧ x.2.2.size ≤ 500) (h1 : rightV [x]) (h2 : ¬ x.1 ≤ lastS (chS es key)) (h3 : ¬ 200 ≤ (chS es key).length) : errS es key x = 0 := by
  unfold errS
  rw [if_neg (fun e => e h), if_neg ((right_one x).1 h1), if_neg h2, if_neg h3]
/-- The blocks that an installation turns. -/
def StB (g : Nat) (v : Value) : Nat → Prop := fun k => k = g ∨ v.ownBlock = some k
set_option maxRecDepth 100000 in
set_option maxHeartbeats 16000000 in
theorem install_any (base g : Nat) (v : Value) (es : List EntP) (key : ByteArray) (x : VerT) (w : World) (hM : MSt w base g v es) (hlen : es.length ≤ 500) (hx : x.1 < 18446744073709551616) (hks : key.size ≤ 140737488351232) (hxs : x.2.2.size ≤ 140737488351232) :
    Calls Try.prog 10 #[.pointer (some ⟨g, 0, none⟩), .string key, .agg #[.int .u64 (x.1 : Int), .bool x.2.1, .string x.2.2]] w fun e w' =>
      e = .returned (.int .i64 (errS es key x : Nat)) ∧ Keeps (StB g v) w w' ∧ ∃ v' es', MSt w' base g v' es' ∧ es'.length ≤ es.length + 1 ∧ (errS es key x ≠ 0 → es' = es) ∧ (errS es key x = 0 → InstIs es es' key x) := by
  obtain ⟨A, c, rfl, hc, hr, ha⟩ := hM.args
  have hbw : base ≤ w.heap.size := Nat.le_trans hM.ge (Nat.le_of_lt (blk_lt hM.blk))
  have g0 : w.cell? ⟨g, 0, none⟩ = some (.slice A es.length c) := (blk_cell hM.blk 0).trans rfl
  have HM := Lib.hid (hM.below (below_alloc (Below.refl w.heap.size w) (.cells #[.int .u64 (x.1 : Int), .bool x.2.1, .string x.2.2] 25)))
  have HX := Lib.hid (blk_new w (.cells #[.int .u64 (x.1 : Int), .bool x.2.1, .string x.2.2] 25))
  have HB := Lib.hid (below_alloc (Below.refl w.heap.size w) (.cells #[.int .u64 (x.1 : Int), .bool x.2.1, .string x.2.2] 25))
  have g1 : (w.alloc (.cells #[.int .u64 (x.1 : Int), .bool x.2.1, .string x.2.2] 25)).cell? ⟨g, 0, none⟩ = some (.slice A es.length c) := (blk_cell HM.out.blk 0).trans rfl
  have HF := Lib.hid (find_any A es.length c key (es.map pr) _ (ha.below (below_alloc (Below.refl w.heap.size w) (.cells #[.int .u64 (x.1 : Int), .bool x.2.1, .string x.2.2] 25))) (by omega) (ris_mono hM.ris key))
  have HR := Lib.hid hr
  have HGL := Lib.hid (blk_lt hM.blk)
  have HOWN := Lib.hid hM.own
  clear ha hM g0 hr
  go_enter Try.func10, Try.ntmps10
  go_wp2_with fail
  refine HF.out.mono ?_
  rintro e w1 ⟨k, ok, rfl, hk, hl, hgt, ho, hb⟩
  have HL := Lib.hid hl; clear hl
  have HGT := Lib.hid hgt; clear hgt
  have HO := Lib.hid ho; clear ho
  replace HM := Lib.hid (HM.out.below hb)
  replace HX := Lib.hid (blk_below HX.out hb)
  replace HB := Lib.hid (HB.out.trans (hb.mono HB.out.size)); clear hb g1
  have x0 : w1.cell? ⟨w.heap.size, 0, none⟩ = some (.int .u64 (x.1 : Int)) := (blk_cell HX.out 0).trans rfl
  have x1 : w1.cell? ⟨w.heap.size, 1, none⟩ = some (.bool x.2.1) := (blk_cell HX.out 1).trans rfl
  have x2 : w1.cell? ⟨w.heap.size, 2, none⟩ = some (.string x.2.2) := (blk_cell HX.out 2).trans rfl
  go_wp2_with fail
  refine (fits_any key x _).mono ?_
  rintro e w2 ⟨rfl, hb⟩
  replace HM := Lib.hid (HM.out.below hb)
  replace HX := Lib.hid (blk_below HX.out hb)
  replace HB := Lib.hid (HB.out.trans (hb.mono HB.out.size)); clear hb x0 x1 x2
  have x0 : w2.cell? ⟨w.heap.size, 0, none⟩ = some (.int .u64 (x.1 : Int)) := (blk_cell HX.out 0).trans rfl
  have x1 : w2.cell? ⟨w.heap.size, 1, none⟩ = some (.bool x.2.1) := (blk_cell HX.out 1).trans rfl
  have x2 : w2.cell? ⟨w.heap.size, 2, none⟩ = some (.string x.2.2) := (blk_cell HX.out 2).trans rfl
  by_cases hfit : key.size ≤ 100 ∧ x.2.2.size ≤ 500
  case neg =>
    have hfb : (decide (key.size ≤ 100) && decide (x.2.2.size ≤ 500)) = false := by
      rw [Bool.and_eq_false_iff, decide_eq_false_iff_not, decide_eq_false_iff_not]
      by_cases h : key.size ≤ 100
      · exact .inr fun e => hfit ⟨h, e⟩
      · exact .inl h
    have HE := Lib.hid (err3 (es := es) hfit)
    rw [hfb]
    clear hfit hfb
    go_wp2
    go_ret
    rw [HE.out]
    exact ⟨rfl, Keeps.of_below _ HB.out, _, es, HM.out, by omega, fun _ => rfl, fun e => by cases e⟩
  case pos =>
  have hfb : (decide (key.size ≤ 100) && decide (x.2.2.size ≤ 500)) = true := by rw [decide_eq_true hfit.1, decide_eq_true hfit.2]; rfl
  rw [hfb]
  clear hfb
  have HFIT := Lib.hid hfit; clear hfit
  have hvx : ArgVers (w2.alloc (.cells #[.int .u64 (x.1 : Int), .bool x.2.1, .string x.2.2] 25)) (some ⟨w2.heap.size, 0, none⟩) 1 [x] := ver_arg ((OwnF.one (base := 0) (f := verC) (x := x) (blk_new w2 (.cells #[.int .u64 (x.1 : Int), .bool x.2.1, .string x.2.2] 25)) (Nat.zero_le _) rfl (verC_len x)).row verC_len) (fun p hp => by obtain rfl := List.mem_singleton.1 hp; exact ⟨hx, hxs⟩)
  have HRT := Lib.hid (right_any (some ⟨w2.heap.size, 0, none⟩) 1 1 [x] _ hvx (by decide))
  replace HM := Lib.hid (HM.out.alloc (.cells #[.int .u64 (x.1 : Int), .bool x.2.1, .string x.2.2] 25))
  replace HX := Lib.hid (blk_alloc HX.out (.cells #[.int .u64 (x.1 : Int), .bool x.2.1, .string x.2.2] 25))
  replace HB := Lib.hid (below_alloc HB.out (.cells #[.int .u64 (x.1 : Int), .bool x.2.1, .string x.2.2] 25))
  clear hvx
  go_wp2_with fail
  refine HRT.out.mono ?_
  rintro e w3 ⟨rt, rfl, hrt, hb⟩
  replace HM := Lib.hid (HM.out.below hb)
  replace HX := Lib.hid (blk_below HX.out hb)
  replace HB := Lib.hid (HB.out.trans (hb.mono HB.out.size)); clear hb x0 x1 x2 HRT
  cases rt with
  | false =>
    have HE := Lib.hid (err1 (es := es) HFIT.out (fun h => by have := hrt.2 h; cases this))
    clear hrt
    go_wp2
    go_ret
    rw [HE.out]
    exact ⟨rfl, Keeps.of_below _ HB.out, _, es, HM.out, by omega, fun _ => rfl, fun e => by cases e⟩
  | true =>
    have HRT := Lib.hid (hrt.1 rfl); clear hrt
    have x0 : w3.cell? ⟨w.heap.size, 0, none⟩ = some (.int .u64 (x.1 : Int)) := (blk_cell HX.out 0).trans rfl
    have hxl := blk_lt HX.out
    have HLA := Lib.hid (fun W hM => last_any base g (.slice A es.length c) es key W hM)
    obtain ⟨la, hla⟩ : ∃ la, lastS (chS es key) = la := ⟨_, rfl⟩
    simp only [hla] at HLA
    by_cases hle : x.1 ≤ la
    · have z1 : decide ((x.1 : Int) ≤ (la : Int)) = true := by simp; omega
      have z1n := decide_eq_true hle
      have HE := Lib.hid (err8 (es := es) HFIT.out HRT.out (by rw [hla]; exact hle))
      clear hla
      go_wp2
      refine start_ (n := 7) (S := fun w' => w.heap.size < w'.heap.size ∧ w'.cell? ⟨w.heap.size, 0, none⟩ = some (.int .u64 (x.1 : Int)) ∧ MSt w' base g (.slice A es.length c) es) (ds := []) #[false, false, false, false, false, false, false] (by kernel_rfl) rfl rfl ⟨hxl, x0, HM.out.drew⟩ (fun hHeld => ?_)
      replace HB := Lib.hid (below_drew HB.out)
      replace HX := Lib.hid (blk_drew HX.out)
      refine pure_ (i := 0) (N := some 29) (v := ?_) (a' := ?_) #[true, false, false, false, false, false, false] rfl rfl (by kernel_rfl) (fun _ _ _ h => h) (Or.inl ⟨by rfl, ?_⟩) ?_ ?_
      rotate_left
      · intro w'
        go_simp
        with_reducible rfl
      rotate_left
      · simp only [Act.put, List.setIfInBounds_toArray, List.set_cons_zero, List.set_cons_succ, i64_w, i32_w]
        rfl
      refine pure_ (i := 2) (N := some 31) (v := ?_) (a' := ?_) #[true, false, true, false, false, false, false] rfl rfl (by kernel_rfl) (fun _ _ _ h => h) (Or.inl ⟨by rfl, ?_⟩) ?_ ?_
      rotate_left
      · intro w'
        go_simp
        with_reducible rfl
      rotate_left
      · simp only [Act.put, List.setIfInBounds_toArray, List.set_cons_zero, List.set_cons_succ, i64_w, i32_w]
        rfl
      refine pure_ (i := 3) (N := some 32) (v := ?_) (a' := ?_) #[true, false, true, true, false, false, false] rfl rfl (by kernel_rfl) (fun _ _ _ h => h) (Or.inl ⟨by rfl, ?_⟩) ?_ ?_
      rotate_left
      · intro w'
        go_simp
        with_reducible rfl
      rotate_left
      · simp only [Act.put, List.setIfInBounds_toArray, List.set_cons_zero, List.set_cons_succ, i64_w, i32_w]
        rfl
      refine take_ (i := 1) (N := some 30) (v := ?_) (a' := ?_) #[true, true, true, true, false, false, false] rfl rfl (by kernel_rfl) (fun _ _ _ h => h) (Or.inl ⟨by rfl, ?_⟩) hHeld ?_ ?_
      rotate_left
      · rintro w' ⟨s0, s1, s2⟩
        go_simp
        with_reducible rfl
      rotate_left
      · simp only [Act.put, List.setIfInBounds_toArray, List.set_cons_zero, List.set_cons_succ, i64_w, i32_w]
        rfl
      refine one_ (i := 4) (N := some 33) #[true, true, true, true, true, false, false] rfl rfl (by kernel_rfl) (by decide) (fun K hK => ?_)
      refine goes_ Try.func18 (by kernel_rfl) rfl #[.pointer (some ⟨g, 0, none⟩), .string key] (by rfl) rfl rfl (by (try simp only [List.map_toArray, List.map_cons, List.map_nil]); first | done | rfl) ?_
      with_reducible refine ((HLA.out _ hHeld.2.2)).mono ?_
      rintro e w6 ⟨rfl, hb⟩
      refine ⟨_, rfl, ?_⟩
      replace HX := Lib.hid (blk_below HX.out hb)
      replace HB := Lib.hid (HB.out.trans (hb.mono HB.out.size))
      refine hK.out _ _ ⟨Nat.lt_of_lt_of_le hHeld.1 hb.size, (hb.cell (p := ⟨w.heap.size, 0, none⟩) hHeld.1).trans hHeld.2.1, hHeld.2.2.below hb⟩ (fun hHeld => ?_)
      clear hK K
      refine norm_ (a' := ?_) ?_ ?_
      rotate_left
      · show Act.put _ (some 33) _ = _
        simp only [Act.put, List.setIfInBounds_toArray, List.set_cons_zero, List.set_cons_succ, i64_w, i32_w]
        rfl
      refine pure_ (i := 5) (N := some 34) (v := ?_) (a' := ?_) #[true, true, true, true, true, true, false] rfl rfl (by kernel_rfl) (fun _ _ _ h => h) (Or.inl ⟨by rfl, ?_⟩) ?_ ?_
      rotate_left
      · intro w'
        go_simp
        with_reducible rfl
      rotate_left
      · simp only [Act.put, List.setIfInBounds_toArray, List.set_cons_zero, List.set_cons_succ, i64_w, i32_w]
        rfl
      refine pure_ (i := 6) (N := some 28) (v := ?_) (a' := ?_) #[true, true, true, true, true, true, true] rfl rfl (by kernel_rfl) (fun _ _ _ h => h) (Or.inl ⟨by rfl, ?_⟩) ?_ ?_
      rotate_left
      · intro w'
        go_simp
        with_reducible rfl
      rotate_left
      · simp only [Act.put, List.setIfInBounds_toArray, List.set_cons_zero, List.set_cons_succ, i64_w, i32_w]
        rfl
      refine done_ (by kernel_rfl) ?_

      have HM := Lib.hid hHeld.2.2
      clear hHeld
      go_wp2
      go_ret
      rw [HE.out]
      exact ⟨rfl, Keeps.of_below _ HB.out, _, es, HM.out, by omega, fun _ => rfl, fun e => by cases e⟩
    · have z1 : decide ((x.1 : Int) ≤ (la : Int)) = false := by simp; omega
      have z1n := decide_eq_false hle
      go_wp2
      refine start_ (n := 7) (S := fun w' => w.heap.size < w'.heap.size ∧ w'.cell? ⟨w.heap.size, 0, none⟩ = some (.int .u64 (x.1 : Int)) ∧ MSt w' base g (.slice A es.length c) es) (ds := []) #[false, false, false, false, false, false, false] (by kernel_rfl) rfl rfl ⟨hxl, x0, HM.out.drew⟩ (fun hHeld => ?_)
      replace HB := Lib.hid (below_drew HB.out)
      replace HX := Lib.hid (blk_drew HX.out)
      refine pure_ (i := 0) (N := some 29) (v := ?_) (a' := ?_) #[true, false, false, false, false, false, false] rfl rfl (by kernel_rfl) (fun _ _ _ h => h) (Or.inl ⟨by rfl, ?_⟩) ?_ ?_
      rotate_left
      · intro w'
        go_simp
        with_reducible rfl
      rotate_left
      · simp only [Act.put, List.setIfInBounds_toArray, List.set_cons_zero, List.set_cons_succ, i64_w, i32_w]
        rfl
      refine pure_ (i := 2) (N := some 31) (v := ?_) (a' := ?_) #[true, false, true, false, false, false, false] rfl rfl (by kernel_rfl) (fun _ _ _ h => h) (Or.inl ⟨by rfl, ?_⟩) ?_ ?_
      rotate_left
      · intro w'
        go_simp
        with_reducible rfl
      rotate_left
      · simp only [Act.put, List.setIfInBounds_toArray, List.set_cons_zero, List.set_cons_succ, i64_w, i32_w]
        rfl
      refine pure_ (i := 3) (N := some 32) (v := ?_) (a' := ?_) #[true, false, true, true, false, false, false] rfl rfl (by kernel_rfl) (fun _ _ _ h => h) (Or.inl ⟨by rfl, ?_⟩) ?_ ?_
      rotate_left
      · intro w'
        go_simp
        with_reducible rfl
      rotate_left
      · simp only [Act.put, List.setIfInBounds_toArray, List.set_cons_zero, List.set_cons_succ, i64_w, i32_w]
        rfl
      refine take_ (i := 1) (N := some 30) (v := ?_) (a' := ?_) #[true, true, true, true, false, false, false] rfl rfl (by kernel_rfl) (fun _ _ _ h => h) (Or.inl ⟨by rfl, ?_⟩) hHeld ?_ ?_
      rotate_left
      · rintro w' ⟨s0, s1, s2⟩
        go_simp
        with_reducible rfl
      rotate_left
      · simp only [Act.put, List.setIfInBounds_toArray, List.set_cons_zero, List.set_cons_succ, i64_w, i32_w]
        rfl
      refine one_ (i := 4) (N := some 33) #[true, true, true, true, true, false, false] rfl rfl (by kernel_rfl) (by decide) (fun K hK => ?_)
      refine goes_ Try.func18 (by kernel_rfl) rfl #[.pointer (some ⟨g, 0, none⟩), .string key] (by rfl) rfl rfl (by (try simp only [List.map_toArray, List.map_cons, List.map_nil]); first | done | rfl) ?_
      with_reducible refine ((HLA.out _ hHeld.2.2)).mono ?_
      rintro e w6 ⟨rfl, hb⟩
      refine ⟨_, rfl, ?_⟩
      replace HX := Lib.hid (blk_below HX.out hb)
      replace HB := Lib.hid (HB.out.trans (hb.mono HB.out.size))
      refine hK.out _ _ ⟨Nat.lt_of_lt_of_le hHeld.1 hb.size, (hb.cell (p := ⟨w.heap.size, 0, none⟩) hHeld.1).trans hHeld.2.1, hHeld.2.2.below hb⟩ (fun hHeld => ?_)
      clear hK K
      refine norm_ (a' := ?_) ?_ ?_
      rotate_left
      · show Act.put _ (some 33) _ = _
        simp only [Act.put, List.setIfInBounds_toArray, List.set_cons_zero, List.set_cons_succ, i64_w, i32_w]
        rfl
      refine pure_ (i := 5) (N := some 34) (v := ?_) (a' := ?_) #[true, true, true, true, true, true, false] rfl rfl (by kernel_rfl) (fun _ _ _ h => h) (Or.inl ⟨by rfl, ?_⟩) ?_ ?_
      rotate_left
      · intro w'
        go_simp
        with_reducible rfl
      rotate_left
      · simp only [Act.put, List.setIfInBounds_toArray, List.set_cons_zero, List.set_cons_succ, i64_w, i32_w]
        rfl
      refine pure_ (i := 6) (N := some 28) (v := ?_) (a' := ?_) #[true, true, true, true, true, true, true] rfl rfl (by kernel_rfl) (fun _ _ _ h => h) (Or.inl ⟨by rfl, ?_⟩) ?_ ?_
      rotate_left
      · intro w'
        go_simp
        with_reducible rfl
      rotate_left
      · simp only [Act.put, List.setIfInBounds_toArray, List.set_cons_zero, List.set_cons_succ, i64_w, i32_w]
        rfl
      refine done_ (by kernel_rfl) ?_

      have HM := Lib.hid hHeld.2.2
      clear hHeld x0 hxl
      go_wp2_with fail
      refine (chain_any base g (.slice A es.length c) es key _ HM.out).mono ?_
      rintro e w7 ⟨A2, c2, rfl, ha2, hr2, hc2, hb⟩
      replace HM := Lib.hid (HM.out.below hb)
      replace HX := Lib.hid (blk_below HX.out hb)
      replace HB := Lib.hid (HB.out.trans (hb.mono HB.out.size)); clear hb ha2
      obtain ⟨cn, hcn⟩ : ∃ cn, (chS es key).length = cn := ⟨_, rfl⟩
      rw [hcn]
      by_cases h200 : 200 ≤ cn
      · have z2 : decide (200 ≤ (cn : Int)) = true := by simp; omega
        have z2n := decide_eq_true h200
        have HE := Lib.hid (err11 (es := es) HFIT.out HRT.out (by rw [hla]; exact hle) (by rw [hcn]; exact h200))
        clear hla hcn
        go_wp2
        go_ret
        rw [HE.out]
        exact ⟨rfl, Keeps.of_below _ HB.out, _, es, HM.out, by omega, fun _ => rfl, fun e => by cases e⟩
      · have z2 : decide (200 ≤ (cn : Int)) = false := by simp; omega
        have z2n := decide_eq_false h200
        have HE := Lib.hid (err0 (es := es) HFIT.out HRT.out (by rw [hla]; exact hle) (by rw [hcn]; exact h200))
        have HLT := Lib.hid (show lastS (chS es key) < x.1 by rw [hla]; omega)
        have HL2 := Lib.hid (show (chS es key).length < 200 by rw [hcn]; omega)
        cases ok with
        | true =>
          obtain ⟨hk', hke'⟩ := HO.out.1 rfl
          rw [List.length_map] at hk'
          rw [List.getElem_map] at hke'
          have HCH := Lib.hid (show chS es key = es[k].ch by unfold chS; rw [entOf_some HL.out hk' hke'])
          have HKE := Lib.hid (show es[k].key = key from hke')
          have hkm : (k : Int) < (es.length : Int) := by omega
          have HIN := Lib.hid (show ∀ (y : EntP), y.key = key → y.ch = es[k].ch ++ [x] → InstIs es (es.set k y) key x from fun y h1 h2 => .inl ⟨k, hk', hke', by rw [List.map_set]; unfold pr; rw [h1, h2]⟩)
          have hle1 : es.length ≤ es.length + 1 := by omega
          have HBB := Lib.hid (Keeps.of_below (StB g (.slice A es.length c)) HB.out)
          have hm1 : es.length ≤ 1000 := by omega
          obtain ⟨p, hp⟩ : ∃ p, es[k] = p := ⟨_, rfl⟩
          simp only [hp] at HIN HKE HCH
          have HP := Lib.hid hp
          have hst : ∃ vb, A = some ⟨vb, 0, none⟩ ∧ ∃ cur, w7.heap[vb]? = some (.cells cur 65 (0, 0)) := by
            rcases HM.out.own.2 with ⟨e, e0⟩ | ⟨g', cap, cur, e, _, hg, _⟩
            · omega
            · injection e with e
              exact ⟨g', e, cur, hg⟩
          obtain ⟨vb, rfl, cur, hvb⟩ := hst
          have HVS := Lib.hid (show StB g (.slice (some ⟨vb, 0, none⟩) es.length c) vb ∨ w.heap.size ≤ vb from .inl (.inr rfl))
          have HVB := Lib.hid (show ∃ cur, w7.heap[vb]? = some (.cells cur 65 (0, 0)) from ⟨cur, hvb⟩); clear hvb
          clear hp hke' hla hcn hr2 hc2 z1 z1n z2 z2n
          go_wp2
          obtain ⟨pk, pA, pc, ch⟩ := p
          simp only at HIN HKE HCH
          have HEOK := Lib.hid (show EntOk w7 base ⟨pk, pA, pc, ch⟩ from by have := HM.out.ok _ (List.getElem_mem hk'); rw [HP.out] at this; exact this)
          have HRW := Lib.hid (HM.out.own.row entC_len)
          have c0 : w7.cell? ⟨g, 0, none⟩ = some (.slice (some ⟨vb, 0, none⟩) es.length c) := (blk_cell HM.out.blk 0).trans rfl
          have c1 : w7.cell? ⟨vb, k * 2 + 1, none⟩ = some (.slice pA ch.length pc) := by
            obtain ⟨b', off', hj', e', _, hcs⟩ := HRW.out.get k (by omega)
            cases e'
            rw [HP.out] at hcs
            have := hcs 1 _ rfl
            rw [Nat.zero_add] at this
            exact this
          have x0 : w7.cell? ⟨w.heap.size, 0, none⟩ = some (.int .u64 (x.1 : Int)) := (blk_cell HX.out 0).trans rfl
          have x1 : w7.cell? ⟨w.heap.size, 1, none⟩ = some (.bool x.2.1) := (blk_cell HX.out 1).trans rfl
          have x2 : w7.cell? ⟨w.heap.size, 2, none⟩ = some (.string x.2.2) := (blk_cell HX.out 2).trans rfl
          have hgl := blk_lt HM.out.blk
          have hxl := blk_lt HX.out
          have hvl : vb < w7.heap.size := by obtain ⟨cur, h⟩ := HVB.out; exact blk_lt h
          have hch : ch.length ≤ 200 := HEOK.out.right.2
          have hbase : base ≤ w7.heap.size := Nat.le_trans HM.out.ge (Nat.le_of_lt hgl)
          refine start_ (n := 20) (S := fun w' => Below w7.heap.size w7 w' ∧ w'.cell? ⟨g, 0, none⟩ = some (.slice (some ⟨vb, 0, none⟩) es.length c) ∧ w'.cell? ⟨vb, k * 2 + 1, none⟩ = some (.slice pA ch.length pc) ∧ w'.cell? ⟨w.heap.size, 0, none⟩ = some (.int .u64 (x.1 : Int)) ∧ w'.cell? ⟨w.heap.size, 1, none⟩ = some (.bool x.2.1) ∧ w'.cell? ⟨w.heap.size, 2, none⟩ = some (.string x.2.2)) (ds := [19]) #[false, false, false, false, false, false, false, false, false, false, false, false, false, false, false, false, false, false, false, false] (by kernel_rfl) rfl rfl ⟨(below_drew (Below.refl _ _)), c0, c1, x0, x1, x2⟩ (fun hHeld => ?_)
          refine pure_ (i := 0) (N := some 55) (v := ?_) (a' := ?_) #[true, false, false, false, false, false, false, false, false, false, false, false, false, false, false, false, false, false, false, false] rfl rfl (by kernel_rfl) (fun _ _ _ h => h) (Or.inl ⟨by rfl, ?_⟩) ?_ ?_
          rotate_left
          · intro w'
            go_simp
            with_reducible rfl
          rotate_left
          · simp only [Act.put, List.setIfInBounds_toArray, List.set_cons_zero, List.set_cons_succ, i64_w, i32_w]
            rfl
          refine pure_ (i := 1) (N := some 56) (v := ?_) (a' := ?_) #[true, true, false, false, false, false, false, false, false, false, false, false, false, false, false, false, false, false, false, false] rfl rfl (by kernel_rfl) (fun _ _ _ h => h) (Or.inl ⟨by rfl, ?_⟩) ?_ ?_
          rotate_left
          · intro w'
            go_simp
            with_reducible rfl
          rotate_left
          · simp only [Act.put, List.setIfInBounds_toArray, List.set_cons_zero, List.set_cons_succ, i64_w, i32_w]
            rfl
          refine pure_ (i := 2) (N := some 57) (v := ?_) (a' := ?_) #[true, true, true, false, false, false, false, false, false, false, false, false, false, false, false, false, false, false, false, false] rfl rfl (by kernel_rfl) (fun _ _ _ h => h) (Or.inl ⟨by rfl, ?_⟩) ?_ ?_
          rotate_left
          · intro w'
            go_simp
            with_reducible rfl
          rotate_left
          · simp only [Act.put, List.setIfInBounds_toArray, List.set_cons_zero, List.set_cons_succ, i64_w, i32_w]
            rfl
          refine pure_ (i := 4) (N := some 59) (v := ?_) (a' := ?_) #[true, true, true, false, true, false, false, false, false, false, false, false, false, false, false, false, false, false, false, false] rfl rfl (by kernel_rfl) (fun _ _ _ h => h) (Or.inl ⟨by rfl, ?_⟩) ?_ ?_
          rotate_left
          · intro w'
            go_simp
            with_reducible rfl
          rotate_left
          · simp only [Act.put, List.setIfInBounds_toArray, List.set_cons_zero, List.set_cons_succ, i64_w, i32_w]
            rfl
          refine pure_ (i := 5) (N := some 60) (v := ?_) (a' := ?_) #[true, true, true, false, true, true, false, false, false, false, false, false, false, false, false, false, false, false, false, false] rfl rfl (by kernel_rfl) (fun _ _ _ h => h) (Or.inl ⟨by rfl, ?_⟩) ?_ ?_
          rotate_left
          · intro w'
            go_simp
            with_reducible rfl
          rotate_left
          · simp only [Act.put, List.setIfInBounds_toArray, List.set_cons_zero, List.set_cons_succ, i64_w, i32_w]
            rfl
          refine pure_ (i := 6) (N := some 61) (v := ?_) (a' := ?_) #[true, true, true, false, true, true, true, false, false, false, false, false, false, false, false, false, false, false, false, false] rfl rfl (by kernel_rfl) (fun _ _ _ h => h) (Or.inl ⟨by rfl, ?_⟩) ?_ ?_
          rotate_left
          · intro w'
            go_simp
            with_reducible rfl
          rotate_left
          · simp only [Act.put, List.setIfInBounds_toArray, List.set_cons_zero, List.set_cons_succ, i64_w, i32_w]
            rfl
          refine pure_ (i := 7) (N := some 62) (v := ?_) (a' := ?_) #[true, true, true, false, true, true, true, true, false, false, false, false, false, false, false, false, false, false, false, false] rfl rfl (by kernel_rfl) (fun _ _ _ h => h) (Or.inl ⟨by rfl, ?_⟩) ?_ ?_
          rotate_left
          · intro w'
            go_simp
            with_reducible rfl
          rotate_left
          · simp only [Act.put, List.setIfInBounds_toArray, List.set_cons_zero, List.set_cons_succ, i64_w, i32_w]
            rfl
          refine pure_ (i := 9) (N := some 64) (v := ?_) (a' := ?_) #[true, true, true, false, true, true, true, true, false, true, false, false, false, false, false, false, false, false, false, false] rfl rfl (by kernel_rfl) (fun _ _ _ h => h) (Or.inl ⟨by rfl, ?_⟩) ?_ ?_
          rotate_left
          · intro w'
            go_simp
            with_reducible rfl
          rotate_left
          · simp only [Act.put, List.setIfInBounds_toArray, List.set_cons_zero, List.set_cons_succ, i64_w, i32_w]
            rfl
          refine take_ (i := 3) (N := some 58) (v := ?_) (a' := ?_) #[true, true, true, true, true, true, true, true, false, true, false, false, false, false, false, false, false, false, false, false] rfl rfl (by kernel_rfl) (fun _ _ _ h => h) (Or.inl ⟨by rfl, ?_⟩) hHeld ?_ ?_
          rotate_left
          · rintro w' ⟨s0, s1, s2, s3, s4, s5⟩
            go_simp
            with_reducible rfl
          rotate_left
          · simp only [Act.put, List.setIfInBounds_toArray, List.set_cons_zero, List.set_cons_succ, i64_w, i32_w]
            rfl
          refine take_ (i := 8) (N := some 63) (v := ?_) (a' := ?_) #[true, true, true, true, true, true, true, true, true, true, false, false, false, false, false, false, false, false, false, false] rfl rfl (by kernel_rfl) (fun _ _ _ h => h) (Or.inl ⟨by rfl, ?_⟩) hHeld ?_ ?_
          rotate_left
          · rintro w' ⟨s0, s1, s2, s3, s4, s5⟩
            go_simp
            with_reducible rfl
          rotate_left
          · simp only [Act.put, List.setIfInBounds_toArray, List.set_cons_zero, List.set_cons_succ, i64_w, i32_w]
            rfl
          refine pure_ (i := 10) (N := some 65) (v := ?_) (a' := ?_) #[true, true, true, true, true, true, true, true, true, true, true, false, false, false, false, false, false, false, false, false] rfl rfl (by kernel_rfl) (fun _ _ _ h => h) (Or.inl ⟨by rfl, ?_⟩) ?_ ?_
          rotate_left
          · intro w'
            go_simp
            with_reducible rfl
          rotate_left
          · simp only [Act.put, List.setIfInBounds_toArray, List.set_cons_zero, List.set_cons_succ, i64_w, i32_w]
            rfl
          refine pure_ (i := 11) (N := some 66) (v := ?_) (a' := ?_) #[true, true, true, true, true, true, true, true, true, true, true, true, false, false, false, false, false, false, false, false] rfl rfl (by kernel_rfl) (fun _ _ _ h => h) (Or.inl ⟨by rfl, ?_⟩) ?_ ?_
          rotate_left
          · intro w'
            go_simp
            with_reducible rfl
          rotate_left
          · simp only [Act.put, List.setIfInBounds_toArray, List.set_cons_zero, List.set_cons_succ, i64_w, i32_w]
            rfl
          refine take_ (i := 12) (N := some 67) (v := ?_) (a' := ?_) #[true, true, true, true, true, true, true, true, true, true, true, true, true, false, false, false, false, false, false, false] rfl rfl (by kernel_rfl) (fun _ _ _ h => h) (Or.inl ⟨by rfl, ?_⟩) hHeld ?_ ?_
          rotate_left
          · rintro w' ⟨s0, s1, s2, s3, s4, s5⟩
            go_simp
            with_reducible rfl
          rotate_left
          · simp only [Act.put, List.setIfInBounds_toArray, List.set_cons_zero, List.set_cons_succ, i64_w, i32_w]
            rfl
          refine take_ (i := 14) (N := some 69) (v := ?_) (a' := ?_) #[true, true, true, true, true, true, true, true, true, true, true, true, true, false, true, false, false, false, false, false] rfl rfl (by kernel_rfl) (fun _ _ _ h => h) (Or.inl ⟨by rfl, ?_⟩) hHeld ?_ ?_
          rotate_left
          · rintro w' ⟨s0, s1, s2, s3, s4, s5⟩
            go_simp
            with_reducible rfl
          rotate_left
          · simp only [Act.put, List.setIfInBounds_toArray, List.set_cons_zero, List.set_cons_succ, i64_w, i32_w]
            rfl
          refine join_ (σ := Value × Nat) 4 #[true, true, true, true, true, true, true, true, true, true, true, true, true, true, true, true, false, false, false, false] (fun s => [(68, s.1), (70, .slice (some ⟨s.2, 0, none⟩) 1 1)]) (fun s w' => (Below w7.heap.size w7 w' ∧ w'.cell? ⟨g, 0, none⟩ = some (.slice (some ⟨vb, 0, none⟩) es.length c) ∧ w'.cell? ⟨vb, k * 2 + 1, none⟩ = some (.slice pA ch.length pc) ∧ w'.cell? ⟨w.heap.size, 0, none⟩ = some (.int .u64 (x.1 : Int)) ∧ w'.cell? ⟨w.heap.size, 1, none⟩ = some (.bool x.2.1) ∧ w'.cell? ⟨w.heap.size, 2, none⟩ = some (.string x.2.2)) ∧ OwnF w' w7.heap.size 25 3 verC s.1 ch ∧ w'.heap[s.2]? = some (.cells #[.int .u64 (x.1 : Int), .bool x.2.1, .string x.2.2] 25 (0, 0))) ?_ ?_
          rotate_left
          · intro hCont
            refine two_ (i := 13) (j := 15) (Ni := some 68) (Nj := some 70) #[true, true, true, true, true, true, true, true, true, true, true, true, true, true, true, false, false, false, false, false] #[true, true, true, true, true, true, true, true, true, true, true, true, true, false, true, true, false, false, false, false] rfl rfl rfl rfl (by kernel_rfl) (by decide) (by decide) (fun K hK => ?_) (fun K hK => ?_)
            · skip
              refine goes_ Try.func36 (by kernel_rfl) rfl #[.slice pA ch.length pc] (by rfl) rfl rfl (by (try simp only [List.map_toArray, List.map_cons, List.map_nil]); first | done | rfl) ?_
              with_reducible refine ((clone_any pA ch.length pc ch _ ((HEOK.out.own.below hHeld.1).row verC_len) (by omega))).mono ?_
              rintro e w8 ⟨v68, rfl, ho68, hb68⟩
              refine ⟨_, rfl, ?_⟩
              have HN := Lib.hid (hHeld.1.trans (hb68.mono hHeld.1.size))
              have HO68 := Lib.hid (ho68.lower (base' := w7.heap.size) hHeld.1.size); clear ho68
              refine hK.out _ _ ⟨HN.out, (HN.out.cell (p := ⟨g, 0, none⟩) hgl).trans c0, (HN.out.cell (p := ⟨vb, k * 2 + 1, none⟩) hvl).trans c1, (HN.out.cell (p := ⟨w.heap.size, 0, none⟩) hxl).trans x0, (HN.out.cell (p := ⟨w.heap.size, 1, none⟩) hxl).trans x1, (HN.out.cell (p := ⟨w.heap.size, 2, none⟩) hxl).trans x2⟩ (fun hHeld => ?_)
              clear hK K
              refine norm_ (a' := ?_) ?_ ?_
              rotate_left
              · show Act.put _ (some 68) _ = _
                simp only [Act.put, List.setIfInBounds_toArray, List.set_cons_zero, List.set_cons_succ, i64_w, i32_w]
                rfl
              refine one_ (i := 15) (N := some 70) #[true, true, true, true, true, true, true, true, true, true, true, true, true, true, true, true, false, false, false, false] rfl rfl (by kernel_rfl) (by decide) (fun K hK => ?_)
              refine value_ (w1 := ?_) (v := ?_) (by rfl) rfl ?_ ?_
              rotate_left 2
              · go_simp
                constructor
                · rfl
                · rfl
              have H70 := Lib.hid (blk_new w8 (.cells #[.int .u64 (x.1 : Int), .bool x.2.1, .string x.2.2] 25))
              have HN := Lib.hid (hHeld.1.alloc hHeld.1.size (.cells #[.int .u64 (x.1 : Int), .bool x.2.1, .string x.2.2] 25))
              replace HO68 := Lib.hid (HO68.out.below (below_alloc (Below.refl _ _) (.cells #[.int .u64 (x.1 : Int), .bool x.2.1, .string x.2.2] 25)))
              refine hK.out _ _ ⟨HN.out, (HN.out.cell (p := ⟨g, 0, none⟩) hgl).trans c0, (HN.out.cell (p := ⟨vb, k * 2 + 1, none⟩) hvl).trans c1, (HN.out.cell (p := ⟨w.heap.size, 0, none⟩) hxl).trans x0, (HN.out.cell (p := ⟨w.heap.size, 1, none⟩) hxl).trans x1, (HN.out.cell (p := ⟨w.heap.size, 2, none⟩) hxl).trans x2⟩ (fun hHeld => ?_)
              clear hK K
              refine norm_ (a' := ?_) ?_ ?_
              rotate_left
              · show Act.put _ (some 70) _ = _
                simp only [Act.put, List.setIfInBounds_toArray, List.set_cons_zero, List.set_cons_succ, i64_w, i32_w]
                rfl
              exact norm_ (by simp only [putAll, Act.put, List.setIfInBounds_toArray, List.set_cons_zero, List.set_cons_succ]) (hCont (v68, w8.heap.size) _ ⟨hHeld, HO68.out, H70.out⟩)
            · skip
              refine value_ (w1 := ?_) (v := ?_) (by rfl) rfl ?_ ?_
              rotate_left 2
              · go_simp
                constructor
                · rfl
                · rfl
              have H70 := Lib.hid (blk_new w7.drew (.cells #[.int .u64 (x.1 : Int), .bool x.2.1, .string x.2.2] 25))
              have HN := Lib.hid (hHeld.1.alloc hHeld.1.size (.cells #[.int .u64 (x.1 : Int), .bool x.2.1, .string x.2.2] 25))
              refine hK.out _ _ ⟨HN.out, (HN.out.cell (p := ⟨g, 0, none⟩) hgl).trans c0, (HN.out.cell (p := ⟨vb, k * 2 + 1, none⟩) hvl).trans c1, (HN.out.cell (p := ⟨w.heap.size, 0, none⟩) hxl).trans x0, (HN.out.cell (p := ⟨w.heap.size, 1, none⟩) hxl).trans x1, (HN.out.cell (p := ⟨w.heap.size, 2, none⟩) hxl).trans x2⟩ (fun hHeld => ?_)
              clear hK K
              refine norm_ (a' := ?_) ?_ ?_
              rotate_left
              · show Act.put _ (some 70) _ = _
                simp only [Act.put, List.setIfInBounds_toArray, List.set_cons_zero, List.set_cons_succ, i64_w, i32_w]
                rfl
              refine one_ (i := 13) (N := some 68) #[true, true, true, true, true, true, true, true, true, true, true, true, true, true, true, true, false, false, false, false] rfl rfl (by kernel_rfl) (by decide) (fun K hK => ?_)
              refine goes_ Try.func36 (by kernel_rfl) rfl #[.slice pA ch.length pc] (by rfl) rfl rfl (by (try simp only [List.map_toArray, List.map_cons, List.map_nil]); first | done | rfl) ?_
              with_reducible refine ((clone_any pA ch.length pc ch _ ((HEOK.out.own.below hHeld.1).row verC_len) (by omega))).mono ?_
              rintro e w8 ⟨v68, rfl, ho68, hb68⟩
              refine ⟨_, rfl, ?_⟩
              have HN := Lib.hid (hHeld.1.trans (hb68.mono hHeld.1.size))
              have HO68 := Lib.hid (ho68.lower (base' := w7.heap.size) hHeld.1.size); clear ho68
              replace H70 := Lib.hid (blk_below H70.out hb68)
              refine hK.out _ _ ⟨HN.out, (HN.out.cell (p := ⟨g, 0, none⟩) hgl).trans c0, (HN.out.cell (p := ⟨vb, k * 2 + 1, none⟩) hvl).trans c1, (HN.out.cell (p := ⟨w.heap.size, 0, none⟩) hxl).trans x0, (HN.out.cell (p := ⟨w.heap.size, 1, none⟩) hxl).trans x1, (HN.out.cell (p := ⟨w.heap.size, 2, none⟩) hxl).trans x2⟩ (fun hHeld => ?_)
              clear hK K
              refine norm_ (a' := ?_) ?_ ?_
              rotate_left
              · show Act.put _ (some 68) _ = _
                simp only [Act.put, List.setIfInBounds_toArray, List.set_cons_zero, List.set_cons_succ, i64_w, i32_w]
                rfl
              exact norm_ (by simp only [putAll, Act.put, List.setIfInBounds_toArray, List.set_cons_zero, List.set_cons_succ]) (hCont (v68, w7.heap.size) _ ⟨hHeld, HO68.out, H70.out⟩)
          rintro ⟨v68, g70⟩ w9 ⟨hHeld, ho68, h70⟩
          have HO68 := Lib.hid ho68; clear ho68
          have H70 := Lib.hid h70; clear h70
          refine norm_ (a' := ?_) ?_ ?_
          rotate_left
          · simp only [putAll, Act.put, List.setIfInBounds_toArray, List.set_cons_zero, List.set_cons_succ]
            rfl
          refine one_ (i := 16) (N := some 71) #[true, true, true, true, true, true, true, true, true, true, true, true, true, true, true, true, true, false, false, false] rfl rfl (by kernel_rfl) (by decide) (fun K hK => ?_)
          have HR70 := Lib.hid (show RowF w9 3 verC (some ⟨g70, 0, none⟩) 1 [x] from (OwnF.one (base := 0) (f := verC) (x := x) H70.out (Nat.zero_le _) rfl (verC_len x)).row verC_len)
          obtain ⟨v71, wa, hr71, ho71, hg71, _⟩ := run_app_rows (P := Try.prog) (base := w7.heap.size) 63 63 Try.underlying63 info_vr rfl (by decide) (by decide) verC_len verC_one HO68.out (c := 1) HR70.out hHeld.1.size (by omega)
          obtain ⟨A7, c7, e7, _⟩ := ho71.slice_
          obtain ⟨m7, hm7⟩ : ∃ m, m = (ch ++ [x]).length := ⟨_, rfl⟩
          rw [← hm7] at e7
          obtain rfl := e7
          have HM7 := Lib.hid hm7; clear hm7
          have HN := Lib.hid (hHeld.1.grown hg71 hHeld.1.size (fun q hq => (HO68.out.block_ge q hq).1))
          have HO71 := Lib.hid ho71; clear ho71 hg71
          have c9 : wa.cell? ⟨vb, k * 2 + 1, none⟩ = some (.slice pA ch.length pc) := (HN.out.cell (p := ⟨vb, k * 2 + 1, none⟩) hvl).trans c1
          have f9 : wa.frozen? ⟨vb, k * 2 + 1, none⟩ = false := by obtain ⟨cur, h⟩ := HVB.out; exact blk_frozen ((HN.out.block vb hvl).trans h) _
          refine step_app (by rfl) (.tmp 68) (.tmp 70) 63 rfl rfl rfl hr71 ?_
          refine hK.out _ _ ⟨HN.out, (HN.out.cell (p := ⟨g, 0, none⟩) hgl).trans c0, (HN.out.cell (p := ⟨vb, k * 2 + 1, none⟩) hvl).trans c1, (HN.out.cell (p := ⟨w.heap.size, 0, none⟩) hxl).trans x0, (HN.out.cell (p := ⟨w.heap.size, 1, none⟩) hxl).trans x1, (HN.out.cell (p := ⟨w.heap.size, 2, none⟩) hxl).trans x2⟩ (fun hHeld => ?_)
          clear hK K
          refine norm_ (a' := ?_) ?_ ?_
          rotate_left
          · show Act.put _ (some 71) _ = _
            simp only [Act.put, List.setIfInBounds_toArray, List.set_cons_zero, List.set_cons_succ, i64_w, i32_w]
            rfl
          refine pure_ (i := 17) (N := some 72) (v := ?_) (a' := ?_) #[true, true, true, true, true, true, true, true, true, true, true, true, true, true, true, true, true, true, false, false] rfl rfl (by kernel_rfl) (fun _ _ _ h => h) (Or.inl ⟨by rfl, ?_⟩) ?_ ?_
          rotate_left
          · intro w'
            go_simp
            with_reducible rfl
          rotate_left
          · simp only [Act.put, List.setIfInBounds_toArray, List.set_cons_zero, List.set_cons_succ, i64_w, i32_w]
            rfl
          refine pure_ (i := 18) (N := some 73) (v := ?_) (a' := ?_) #[true, true, true, true, true, true, true, true, true, true, true, true, true, true, true, true, true, true, true, false] rfl rfl (by kernel_rfl) (fun _ _ _ h => h) (Or.inl ⟨by rfl, ?_⟩) ?_ ?_
          rotate_left
          · intro w'
            go_simp
            with_reducible rfl
          rotate_left
          · simp only [Act.put, List.setIfInBounds_toArray, List.set_cons_zero, List.set_cons_succ, i64_w, i32_w]
            rfl
          refine last_ (i := 19) (N := none) #[true, true, true, true, true, true, true, true, true, true, true, true, true, true, true, true, true, true, true, true] rfl rfl (by kernel_rfl) (by decide) (fun K hK => ?_)
          refine skip_ (w1 := ?_) (by rfl) rfl ?_ ?_
          rotate_left
          · go_simp
            rfl
          refine hK.out _ _ ?_
          clear hK K
          refine done_ (by kernel_rfl) ?_

          clear hHeld
          have HOK7 := Lib.hid (show EntOk wa base ⟨key, A7, c7, ch ++ [x]⟩ from ⟨by have := HO71.out.lower hbase; rw [← HM7.out]; exact this, right_snoc HEOK.out.right ((right_one x).1 HRT.out) (by rw [← HCH.out]; exact HLT.out) (by rw [← HCH.out]; exact HL2.out), HFIT.out.1, fun y hy => by
            rcases List.mem_append.1 hy with h | h
            · exact HEOK.out.val y h
            · obtain rfl := List.mem_singleton.1 h
              exact ⟨hx, HFIT.out.2⟩⟩)
          have HFIN := Lib.hid (MSt.put (HM.out.below HN.out) (show k < es.length from hk') (x := ⟨key, A7, c7, ch ++ [x]⟩) (by rw [HP.out]; exact HKE.out.symm) HOK7.out)
          simp only [← HM7.out] at HFIN
          go_wp2
          go_ret
          rw [HE.out]
          exact ⟨rfl, ((HBB.out.below HN.out).set (p := ⟨vb, k * 2 + 1, none⟩) HVS.out _), _, _, HFIN.out, by rw [List.length_set]; exact hle1, fun h => absurd rfl h, fun _ => HIN.out _ rfl rfl⟩
        | false =>
          have hnone : entOf es key = none := entOf_none HM.out.ris HL.out HGT.out (fun h => by have := HO.out.2 h; cases this)
          have HCH0 : chS es key = [] := by unfold chS; rw [hnone]
          have HKL := Lib.hid (show ∀ t (h : t < es.length), t < k → keyLess es[t].key key from fun t h hk => by have := HL.out t (by rw [List.length_map]; exact h) hk; rw [List.getElem_map] at this; exact this)
          have HKG := Lib.hid (show ∀ t (h : t < es.length), k ≤ t → keyLess key es[t].key from fun t h hk => by
            have h1 := HGT.out t (by rw [List.length_map]; exact h) hk
            rw [List.getElem_map] at h1
            refine Classical.byContradiction fun h2 => ?_
            have h3 : es[t].key = key := by
              have e1 : Op.bytesLess es[t].key.toList key.toList = false := by simpa [keyLess, pr] using h1
              have e2 : Op.bytesLess key.toList es[t].key.toList = false := by simpa [keyLess] using h2
              have e3 := bless_total _ _ e1 e2
              rw [ByteArray.toList_eq, ByteArray.toList_eq] at e3
              exact Go.WideShapes.bytes_inj e3
            unfold entOf at hnone
            have := List.find?_eq_none.1 hnone _ (List.getElem_mem h)
            simp only [decide_eq_true_eq] at this
            exact this h3)
          have hbs : base ≤ w7.heap.size := Nat.le_trans HM.out.ge (Nat.le_of_lt (blk_lt HM.out.blk))
          have HNE := Lib.hid (show (Value.slice A es.length c).ownBlock ≠ some w7.heap.size from fun e => Nat.lt_irrefl _ (HM.out.own.block_ge _ e).2)
          have HIQ := Lib.hid (insert_any base A es.length c k es ⟨key, none, 0, []⟩ w7.heap.size (w7.alloc (.cells #[.string key, .slice none 0 0] 65)) (HM.out.own.below (below_alloc (Below.refl _ _) _)) rfl (by omega) hk (blk_new w7 (.cells #[.string key, .slice none 0 0] 65)) hbs HNE.out (by simp; omega))
          have c0 : (w7.alloc (.cells #[.string key, .slice none 0 0] 65)).cell? ⟨g, 0, none⟩ = some (.slice A es.length c) := (blk_cell (blk_alloc HM.out.blk _) 0).trans rfl
          have c0' : w7.cell? ⟨g, 0, none⟩ = some (.slice A es.length c) := (blk_cell HM.out.blk 0).trans rfl
          have HGA := Lib.hid (show ¬ OwnB A w.heap.size from fun ⟨o, s, e⟩ => by
            have := (HOWN.out.block_ge w.heap.size (by rw [e]; rfl)).2
            omega)
          have HGA2 := Lib.hid (show ¬ OwnB A g from fun ⟨o, s, e⟩ => HM.out.own.ne_type HM.out.blk (by decide) (by rw [e]; rfl))
          have HBB0 := Lib.hid (Keeps.of_below (StB g (.slice A es.length c)) HB.out)
          have HWL := Lib.hid HB.out.size
          have HINB := Lib.hid (show ∀ (y : EntP), y.key = key → y.ch = ([] : List VerT) ++ [x] → InstIs es ((es.take k ++ ⟨key, none, 0, []⟩ :: es.drop k).set k y) key x from fun y h1 h2 => .inr ⟨k, hk, hnone, by
            rw [List.set_append_right _ _ (by rw [List.length_take]; omega), List.length_take, Nat.min_eq_left hk, Nat.sub_self, List.set_cons_zero, List.map_append, List.map_cons, List.map_take, List.map_drop]
            unfold pr
            rw [h1, h2]
            rfl⟩)
          clear hla hcn hr2 hc2 z1 z1n z2 z2n hnone
          have HBo := HB
          go_wp2_with fail
          refine HIQ.out.mono ?_
          rintro e w8 ⟨v', rfl, ho8, hk8, hvo8⟩
          have HME := Lib.hid (MSt.ins (HM.out.alloc (.cells #[.string key, .slice none 0 0] 65)) hk8 ho8 (x := ⟨key, none, 0, []⟩) ⟨OwnF.nil _ _ _ _ _, ⟨fun j h => by simp at h, by simp⟩, HFIT.out.1, fun y hy => by simp at hy⟩ hk HKL.out HKG.out (by omega))
          have KX8 := hk8.blk (blk_alloc HX.out (.cells #[.string key, .slice none 0 0] 65)) HGA.out
          have f0 : w8.frozen? ⟨g, 0, none⟩ = false := blk_frozen (hk8.blk (blk_alloc HM.out.blk (.cells #[.string key, .slice none 0 0] 65)) HGA2.out) 0
          have g8 : w8.cell? ⟨g, 0, none⟩ = some (.slice A es.length c) := (blk_cell (hk8.blk (blk_alloc HM.out.blk (.cells #[.string key, .slice none 0 0] 65)) HGA2.out) 0).trans rfl
          have HX9 := Lib.hid (show (w8.setCell ⟨g, 0, none⟩ v').heap[w.heap.size]? = some (.cells #[.int .u64 (x.1 : Int), .bool x.2.1, .string x.2.2] 25 (0, 0)) from (Below.heap_setCell w8 ⟨g, 0, none⟩ v' w.heap.size (by have := HGL.out; show w.heap.size ≠ g; omega)).trans KX8)
          have HBB := Lib.hid (show Keeps (StB g (.slice A es.length c)) w (w8.setCell ⟨g, 0, none⟩ v') from ((HBB0.out.alloc (.cells #[.string key, .slice none 0 0] 65)).then_ hk8 (fun j ⟨o, s, e⟩ => .inl (.inr (by rw [e]; rfl)))).set (p := ⟨g, 0, none⟩) (.inl (.inl rfl)) _)
          obtain ⟨A8, c8, e8, _⟩ := ho8.slice_
          obtain ⟨E1, hE1⟩ : ∃ E, es.take k ++ (⟨key, none, 0, []⟩ : EntP) :: es.drop k = E := ⟨_, rfl⟩
          have hEl : E1.length = es.length + 1 := by rw [← hE1, List.length_append, List.length_take, List.length_cons, List.length_drop]; omega
          have hk1 : k < E1.length := by omega
          have hE1k : E1[k] = ⟨key, none, 0, []⟩ := by
            simp only [← hE1]
            rw [List.getElem_append_right (by rw [List.length_take]; omega)]
            simp [List.length_take, Nat.min_eq_left hk]
          rw [hE1] at HME ho8 e8
          simp only [hE1] at HINB
          obtain ⟨m8, hm8⟩ : ∃ m, E1.length = m := ⟨_, rfl⟩
          rw [hm8] at e8 hEl
          obtain rfl := e8
          have HM8 := Lib.hid hm8
          have HIN := HINB
          have HKE := Lib.hid (show key = key from rfl)
          have HCH := Lib.hid HCH0
          have HP := Lib.hid hE1k
          have hkm : (k : Int) < (m8 : Int) := by omega
          have hle1 : E1.length ≤ es.length + 1 := by omega
          have hst : ∃ vb, A8 = some ⟨vb, 0, none⟩ ∧ ∃ cur, (w8.setCell ⟨g, 0, none⟩ (.slice A8 m8 c8)).heap[vb]? = some (.cells cur 65 (0, 0)) := by
            rcases HME.out.own.2 with ⟨e, e0⟩ | ⟨g', cap, cur, e, _, hg, _⟩
            · omega
            · injection e with e
              exact ⟨g', e, cur, hg⟩
          obtain ⟨vb, rfl, cur, hvb⟩ := hst
          have HVS := Lib.hid (show StB g (.slice A es.length c) vb ∨ w.heap.size ≤ vb from by
            rcases hvo8 vb rfl with ⟨o, s, e⟩ | h
            · exact .inl (.inr (by rw [e]; rfl))
            · have := HWL.out
              simp at h
              exact .inr (by omega))
          have HEL := Lib.hid hEl
          have hm1 : m8 ≤ 1000 := by omega
          clear hEl hm8
          clear hvo8
          clear HM HX HB HBB0 HIQ hk8 ho8 KX8 HNE HGA c0 c0' hE1k HCH0 HINB HGA2
          go_wp2
          have HM := HME
          have HX := HX9
          generalize w8.setCell ⟨g, 0, none⟩ (.slice (some ⟨vb, 0, none⟩) m8 c8) = W9 at *
          have HVB := Lib.hid (show ∃ cur, W9.heap[vb]? = some (.cells cur 65 (0, 0)) from ⟨cur, hvb⟩); clear hvb
          clear HME HX9
          obtain ⟨p, hp⟩ : ∃ p : EntP, p = ⟨key, none, 0, []⟩ := ⟨_, rfl⟩
          rw [show ([] : List VerT) = p.ch by rw [hp]] at HCH
          replace HIN := Lib.hid (show ∀ (y : EntP), y.key = key → y.ch = p.ch ++ [x] → InstIs es (E1.set k y) key x from fun y h1 h2 => HIN.out y h1 (by rw [h2, hp]))
          replace HKE := Lib.hid (show p.key = key by rw [hp])
          rw [← hp] at HP
          clear hp
          obtain ⟨pk, pA, pc, ch⟩ := p
          simp only at HIN HKE HCH
          have HEOK := Lib.hid (show EntOk W9 base ⟨pk, pA, pc, ch⟩ from by have := HM.out.ok _ (List.getElem_mem hk1); rw [HP.out] at this; exact this)
          have HRW := Lib.hid (HM.out.own.row entC_len)
          have c0 : W9.cell? ⟨g, 0, none⟩ = some (.slice (some ⟨vb, 0, none⟩) m8 c8) := (blk_cell HM.out.blk 0).trans rfl
          have c1 : W9.cell? ⟨vb, k * 2 + 1, none⟩ = some (.slice pA ch.length pc) := by
            obtain ⟨b', off', hj', e', _, hcs⟩ := HRW.out.get k (by omega)
            cases e'
            rw [HP.out] at hcs
            have := hcs 1 _ rfl
            rw [Nat.zero_add] at this
            exact this
          have x0 : W9.cell? ⟨w.heap.size, 0, none⟩ = some (.int .u64 (x.1 : Int)) := (blk_cell HX.out 0).trans rfl
          have x1 : W9.cell? ⟨w.heap.size, 1, none⟩ = some (.bool x.2.1) := (blk_cell HX.out 1).trans rfl
          have x2 : W9.cell? ⟨w.heap.size, 2, none⟩ = some (.string x.2.2) := (blk_cell HX.out 2).trans rfl
          have hgl := blk_lt HM.out.blk
          have hxl := blk_lt HX.out
          have hvl : vb < W9.heap.size := by obtain ⟨cur, h⟩ := HVB.out; exact blk_lt h
          have hch : ch.length ≤ 200 := HEOK.out.right.2
          have hbase : base ≤ W9.heap.size := Nat.le_trans HM.out.ge (Nat.le_of_lt hgl)
          refine start_ (n := 20) (S := fun w' => Below W9.heap.size W9 w' ∧ w'.cell? ⟨g, 0, none⟩ = some (.slice (some ⟨vb, 0, none⟩) m8 c8) ∧ w'.cell? ⟨vb, k * 2 + 1, none⟩ = some (.slice pA ch.length pc) ∧ w'.cell? ⟨w.heap.size, 0, none⟩ = some (.int .u64 (x.1 : Int)) ∧ w'.cell? ⟨w.heap.size, 1, none⟩ = some (.bool x.2.1) ∧ w'.cell? ⟨w.heap.size, 2, none⟩ = some (.string x.2.2)) (ds := [19]) #[false, false, false, false, false, false, false, false, false, false, false, false, false, false, false, false, false, false, false, false] (by kernel_rfl) rfl rfl ⟨(below_drew (Below.refl _ _)), c0, c1, x0, x1, x2⟩ (fun hHeld => ?_)
          refine pure_ (i := 0) (N := some 55) (v := ?_) (a' := ?_) #[true, false, false, false, false, false, false, false, false, false, false, false, false, false, false, false, false, false, false, false] rfl rfl (by kernel_rfl) (fun _ _ _ h => h) (Or.inl ⟨by rfl, ?_⟩) ?_ ?_
          rotate_left
          · intro w'
            go_simp
            with_reducible rfl
          rotate_left
          · simp only [Act.put, List.setIfInBounds_toArray, List.set_cons_zero, List.set_cons_succ, i64_w, i32_w]
            rfl
          refine pure_ (i := 1) (N := some 56) (v := ?_) (a' := ?_) #[true, true, false, false, false, false, false, false, false, false, false, false, false, false, false, false, false, false, false, false] rfl rfl (by kernel_rfl) (fun _ _ _ h => h) (Or.inl ⟨by rfl, ?_⟩) ?_ ?_
          rotate_left
          · intro w'
            go_simp
            with_reducible rfl
          rotate_left
          · simp only [Act.put, List.setIfInBounds_toArray, List.set_cons_zero, List.set_cons_succ, i64_w, i32_w]
            rfl
          refine pure_ (i := 2) (N := some 57) (v := ?_) (a' := ?_) #[true, true, true, false, false, false, false, false, false, false, false, false, false, false, false, false, false, false, false, false] rfl rfl (by kernel_rfl) (fun _ _ _ h => h) (Or.inl ⟨by rfl, ?_⟩) ?_ ?_
          rotate_left
          · intro w'
            go_simp
            with_reducible rfl
          rotate_left
          · simp only [Act.put, List.setIfInBounds_toArray, List.set_cons_zero, List.set_cons_succ, i64_w, i32_w]
            rfl
          refine pure_ (i := 4) (N := some 59) (v := ?_) (a' := ?_) #[true, true, true, false, true, false, false, false, false, false, false, false, false, false, false, false, false, false, false, false] rfl rfl (by kernel_rfl) (fun _ _ _ h => h) (Or.inl ⟨by rfl, ?_⟩) ?_ ?_
          rotate_left
          · intro w'
            go_simp
            with_reducible rfl
          rotate_left
          · simp only [Act.put, List.setIfInBounds_toArray, List.set_cons_zero, List.set_cons_succ, i64_w, i32_w]
            rfl
          refine pure_ (i := 5) (N := some 60) (v := ?_) (a' := ?_) #[true, true, true, false, true, true, false, false, false, false, false, false, false, false, false, false, false, false, false, false] rfl rfl (by kernel_rfl) (fun _ _ _ h => h) (Or.inl ⟨by rfl, ?_⟩) ?_ ?_
          rotate_left
          · intro w'
            go_simp
            with_reducible rfl
          rotate_left
          · simp only [Act.put, List.setIfInBounds_toArray, List.set_cons_zero, List.set_cons_succ, i64_w, i32_w]
            rfl
          refine pure_ (i := 6) (N := some 61) (v := ?_) (a' := ?_) #[true, true, true, false, true, true, true, false, false, false, false, false, false, false, false, false, false, false, false, false] rfl rfl (by kernel_rfl) (fun _ _ _ h => h) (Or.inl ⟨by rfl, ?_⟩) ?_ ?_
          rotate_left
          · intro w'
            go_simp
            with_reducible rfl
          rotate_left
          · simp only [Act.put, List.setIfInBounds_toArray, List.set_cons_zero, List.set_cons_succ, i64_w, i32_w]
            rfl
          refine pure_ (i := 7) (N := some 62) (v := ?_) (a' := ?_) #[true, true, true, false, true, true, true, true, false, false, false, false, false, false, false, false, false, false, false, false] rfl rfl (by kernel_rfl) (fun _ _ _ h => h) (Or.inl ⟨by rfl, ?_⟩) ?_ ?_
          rotate_left
          · intro w'
            go_simp
            with_reducible rfl
          rotate_left
          · simp only [Act.put, List.setIfInBounds_toArray, List.set_cons_zero, List.set_cons_succ, i64_w, i32_w]
            rfl
          refine pure_ (i := 9) (N := some 64) (v := ?_) (a' := ?_) #[true, true, true, false, true, true, true, true, false, true, false, false, false, false, false, false, false, false, false, false] rfl rfl (by kernel_rfl) (fun _ _ _ h => h) (Or.inl ⟨by rfl, ?_⟩) ?_ ?_
          rotate_left
          · intro w'
            go_simp
            with_reducible rfl
          rotate_left
          · simp only [Act.put, List.setIfInBounds_toArray, List.set_cons_zero, List.set_cons_succ, i64_w, i32_w]
            rfl
          refine take_ (i := 3) (N := some 58) (v := ?_) (a' := ?_) #[true, true, true, true, true, true, true, true, false, true, false, false, false, false, false, false, false, false, false, false] rfl rfl (by kernel_rfl) (fun _ _ _ h => h) (Or.inl ⟨by rfl, ?_⟩) hHeld ?_ ?_
          rotate_left
          · rintro w' ⟨s0, s1, s2, s3, s4, s5⟩
            go_simp
            with_reducible rfl
          rotate_left
          · simp only [Act.put, List.setIfInBounds_toArray, List.set_cons_zero, List.set_cons_succ, i64_w, i32_w]
            rfl
          refine take_ (i := 8) (N := some 63) (v := ?_) (a' := ?_) #[true, true, true, true, true, true, true, true, true, true, false, false, false, false, false, false, false, false, false, false] rfl rfl (by kernel_rfl) (fun _ _ _ h => h) (Or.inl ⟨by rfl, ?_⟩) hHeld ?_ ?_
          rotate_left
          · rintro w' ⟨s0, s1, s2, s3, s4, s5⟩
            go_simp
            with_reducible rfl
          rotate_left
          · simp only [Act.put, List.setIfInBounds_toArray, List.set_cons_zero, List.set_cons_succ, i64_w, i32_w]
            rfl
          refine pure_ (i := 10) (N := some 65) (v := ?_) (a' := ?_) #[true, true, true, true, true, true, true, true, true, true, true, false, false, false, false, false, false, false, false, false] rfl rfl (by kernel_rfl) (fun _ _ _ h => h) (Or.inl ⟨by rfl, ?_⟩) ?_ ?_
          rotate_left
          · intro w'
            go_simp
            with_reducible rfl
          rotate_left
          · simp only [Act.put, List.setIfInBounds_toArray, List.set_cons_zero, List.set_cons_succ, i64_w, i32_w]
            rfl
          refine pure_ (i := 11) (N := some 66) (v := ?_) (a' := ?_) #[true, true, true, true, true, true, true, true, true, true, true, true, false, false, false, false, false, false, false, false] rfl rfl (by kernel_rfl) (fun _ _ _ h => h) (Or.inl ⟨by rfl, ?_⟩) ?_ ?_
          rotate_left
          · intro w'
            go_simp
            with_reducible rfl
          rotate_left
          · simp only [Act.put, List.setIfInBounds_toArray, List.set_cons_zero, List.set_cons_succ, i64_w, i32_w]
            rfl
          refine take_ (i := 12) (N := some 67) (v := ?_) (a' := ?_) #[true, true, true, true, true, true, true, true, true, true, true, true, true, false, false, false, false, false, false, false] rfl rfl (by kernel_rfl) (fun _ _ _ h => h) (Or.inl ⟨by rfl, ?_⟩) hHeld ?_ ?_
          rotate_left
          · rintro w' ⟨s0, s1, s2, s3, s4, s5⟩
            go_simp
            with_reducible rfl
          rotate_left
          · simp only [Act.put, List.setIfInBounds_toArray, List.set_cons_zero, List.set_cons_succ, i64_w, i32_w]
            rfl
          refine take_ (i := 14) (N := some 69) (v := ?_) (a' := ?_) #[true, true, true, true, true, true, true, true, true, true, true, true, true, false, true, false, false, false, false, false] rfl rfl (by kernel_rfl) (fun _ _ _ h => h) (Or.inl ⟨by rfl, ?_⟩) hHeld ?_ ?_
          rotate_left
          · rintro w' ⟨s0, s1, s2, s3, s4, s5⟩
            go_simp
            with_reducible rfl
          rotate_left
          · simp only [Act.put, List.setIfInBounds_toArray, List.set_cons_zero, List.set_cons_succ, i64_w, i32_w]
            rfl
          refine join_ (σ := Value × Nat) 4 #[true, true, true, true, true, true, true, true, true, true, true, true, true, true, true, true, false, false, false, false] (fun s => [(68, s.1), (70, .slice (some ⟨s.2, 0, none⟩) 1 1)]) (fun s w' => (Below W9.heap.size W9 w' ∧ w'.cell? ⟨g, 0, none⟩ = some (.slice (some ⟨vb, 0, none⟩) m8 c8) ∧ w'.cell? ⟨vb, k * 2 + 1, none⟩ = some (.slice pA ch.length pc) ∧ w'.cell? ⟨w.heap.size, 0, none⟩ = some (.int .u64 (x.1 : Int)) ∧ w'.cell? ⟨w.heap.size, 1, none⟩ = some (.bool x.2.1) ∧ w'.cell? ⟨w.heap.size, 2, none⟩ = some (.string x.2.2)) ∧ OwnF w' W9.heap.size 25 3 verC s.1 ch ∧ w'.heap[s.2]? = some (.cells #[.int .u64 (x.1 : Int), .bool x.2.1, .string x.2.2] 25 (0, 0))) ?_ ?_
          rotate_left
          · intro hCont
            refine two_ (i := 13) (j := 15) (Ni := some 68) (Nj := some 70) #[true, true, true, true, true, true, true, true, true, true, true, true, true, true, true, false, false, false, false, false] #[true, true, true, true, true, true, true, true, true, true, true, true, true, false, true, true, false, false, false, false] rfl rfl rfl rfl (by kernel_rfl) (by decide) (by decide) (fun K hK => ?_) (fun K hK => ?_)
            · skip
              refine goes_ Try.func36 (by kernel_rfl) rfl #[.slice pA ch.length pc] (by rfl) rfl rfl (by (try simp only [List.map_toArray, List.map_cons, List.map_nil]); first | done | rfl) ?_
              with_reducible refine ((clone_any pA ch.length pc ch _ ((HEOK.out.own.below hHeld.1).row verC_len) (by omega))).mono ?_
              rintro e w8 ⟨v68, rfl, ho68, hb68⟩
              refine ⟨_, rfl, ?_⟩
              have HN := Lib.hid (hHeld.1.trans (hb68.mono hHeld.1.size))
              have HO68 := Lib.hid (ho68.lower (base' := W9.heap.size) hHeld.1.size); clear ho68
              refine hK.out _ _ ⟨HN.out, (HN.out.cell (p := ⟨g, 0, none⟩) hgl).trans c0, (HN.out.cell (p := ⟨vb, k * 2 + 1, none⟩) hvl).trans c1, (HN.out.cell (p := ⟨w.heap.size, 0, none⟩) hxl).trans x0, (HN.out.cell (p := ⟨w.heap.size, 1, none⟩) hxl).trans x1, (HN.out.cell (p := ⟨w.heap.size, 2, none⟩) hxl).trans x2⟩ (fun hHeld => ?_)
              clear hK K
              refine norm_ (a' := ?_) ?_ ?_
              rotate_left
              · show Act.put _ (some 68) _ = _
                simp only [Act.put, List.setIfInBounds_toArray, List.set_cons_zero, List.set_cons_succ, i64_w, i32_w]
                rfl
              refine one_ (i := 15) (N := some 70) #[true, true, true, true, true, true, true, true, true, true, true, true, true, true, true, true, false, false, false, false] rfl rfl (by kernel_rfl) (by decide) (fun K hK => ?_)
              refine value_ (w1 := ?_) (v := ?_) (by rfl) rfl ?_ ?_
              rotate_left 2
              · go_simp
                constructor
                · rfl
                · rfl
              have H70 := Lib.hid (blk_new w8 (.cells #[.int .u64 (x.1 : Int), .bool x.2.1, .string x.2.2] 25))
              have HN := Lib.hid (hHeld.1.alloc hHeld.1.size (.cells #[.int .u64 (x.1 : Int), .bool x.2.1, .string x.2.2] 25))
              replace HO68 := Lib.hid (HO68.out.below (below_alloc (Below.refl _ _) (.cells #[.int .u64 (x.1 : Int), .bool x.2.1, .string x.2.2] 25)))
              refine hK.out _ _ ⟨HN.out, (HN.out.cell (p := ⟨g, 0, none⟩) hgl).trans c0, (HN.out.cell (p := ⟨vb, k * 2 + 1, none⟩) hvl).trans c1, (HN.out.cell (p := ⟨w.heap.size, 0, none⟩) hxl).trans x0, (HN.out.cell (p := ⟨w.heap.size, 1, none⟩) hxl).trans x1, (HN.out.cell (p := ⟨w.heap.size, 2, none⟩) hxl).trans x2⟩ (fun hHeld => ?_)
              clear hK K
              refine norm_ (a' := ?_) ?_ ?_
              rotate_left
              · show Act.put _ (some 70) _ = _
                simp only [Act.put, List.setIfInBounds_toArray, List.set_cons_zero, List.set_cons_succ, i64_w, i32_w]
                rfl
              exact norm_ (by simp only [putAll, Act.put, List.setIfInBounds_toArray, List.set_cons_zero, List.set_cons_succ]) (hCont (v68, w8.heap.size) _ ⟨hHeld, HO68.out, H70.out⟩)
            · skip
              refine value_ (w1 := ?_) (v := ?_) (by rfl) rfl ?_ ?_
              rotate_left 2
              · go_simp
                constructor
                · rfl
                · rfl
              have H70 := Lib.hid (blk_new W9.drew (.cells #[.int .u64 (x.1 : Int), .bool x.2.1, .string x.2.2] 25))
              have HN := Lib.hid (hHeld.1.alloc hHeld.1.size (.cells #[.int .u64 (x.1 : Int), .bool x.2.1, .string x.2.2] 25))
              refine hK.out _ _ ⟨HN.out, (HN.out.cell (p := ⟨g, 0, none⟩) hgl).trans c0, (HN.out.cell (p := ⟨vb, k * 2 + 1, none⟩) hvl).trans c1, (HN.out.cell (p := ⟨w.heap.size, 0, none⟩) hxl).trans x0, (HN.out.cell (p := ⟨w.heap.size, 1, none⟩) hxl).trans x1, (HN.out.cell (p := ⟨w.heap.size, 2, none⟩) hxl).trans x2⟩ (fun hHeld => ?_)
              clear hK K
              refine norm_ (a' := ?_) ?_ ?_
              rotate_left
              · show Act.put _ (some 70) _ = _
                simp only [Act.put, List.setIfInBounds_toArray, List.set_cons_zero, List.set_cons_succ, i64_w, i32_w]
                rfl
              refine one_ (i := 13) (N := some 68) #[true, true, true, true, true, true, true, true, true, true, true, true, true, true, true, true, false, false, false, false] rfl rfl (by kernel_rfl) (by decide) (fun K hK => ?_)
              refine goes_ Try.func36 (by kernel_rfl) rfl #[.slice pA ch.length pc] (by rfl) rfl rfl (by (try simp only [List.map_toArray, List.map_cons, List.map_nil]); first | done | rfl) ?_
              with_reducible refine ((clone_any pA ch.length pc ch _ ((HEOK.out.own.below hHeld.1).row verC_len) (by omega))).mono ?_
              rintro e w8 ⟨v68, rfl, ho68, hb68⟩
              refine ⟨_, rfl, ?_⟩
              have HN := Lib.hid (hHeld.1.trans (hb68.mono hHeld.1.size))
              have HO68 := Lib.hid (ho68.lower (base' := W9.heap.size) hHeld.1.size); clear ho68
              replace H70 := Lib.hid (blk_below H70.out hb68)
              refine hK.out _ _ ⟨HN.out, (HN.out.cell (p := ⟨g, 0, none⟩) hgl).trans c0, (HN.out.cell (p := ⟨vb, k * 2 + 1, none⟩) hvl).trans c1, (HN.out.cell (p := ⟨w.heap.size, 0, none⟩) hxl).trans x0, (HN.out.cell (p := ⟨w.heap.size, 1, none⟩) hxl).trans x1, (HN.out.cell (p := ⟨w.heap.size, 2, none⟩) hxl).trans x2⟩ (fun hHeld => ?_)
              clear hK K
              refine norm_ (a' := ?_) ?_ ?_
              rotate_left
              · show Act.put _ (some 68) _ = _
                simp only [Act.put, List.setIfInBounds_toArray, List.set_cons_zero, List.set_cons_succ, i64_w, i32_w]
                rfl
              exact norm_ (by simp only [putAll, Act.put, List.setIfInBounds_toArray, List.set_cons_zero, List.set_cons_succ]) (hCont (v68, W9.heap.size) _ ⟨hHeld, HO68.out, H70.out⟩)
          rintro ⟨v68, g70⟩ w9 ⟨hHeld, ho68, h70⟩
          have HO68 := Lib.hid ho68; clear ho68
          have H70 := Lib.hid h70; clear h70
          refine norm_ (a' := ?_) ?_ ?_
          rotate_left
          · simp only [putAll, Act.put, List.setIfInBounds_toArray, List.set_cons_zero, List.set_cons_succ]
            rfl
          refine one_ (i := 16) (N := some 71) #[true, true, true, true, true, true, true, true, true, true, true, true, true, true, true, true, true, false, false, false] rfl rfl (by kernel_rfl) (by decide) (fun K hK => ?_)
          have HR70 := Lib.hid (show RowF w9 3 verC (some ⟨g70, 0, none⟩) 1 [x] from (OwnF.one (base := 0) (f := verC) (x := x) H70.out (Nat.zero_le _) rfl (verC_len x)).row verC_len)
          obtain ⟨v71, wa, hr71, ho71, hg71, _⟩ := run_app_rows (P := Try.prog) (base := W9.heap.size) 63 63 Try.underlying63 info_vr rfl (by decide) (by decide) verC_len verC_one HO68.out (c := 1) HR70.out hHeld.1.size (by omega)
          obtain ⟨A7, c7, e7, _⟩ := ho71.slice_
          obtain ⟨m7, hm7⟩ : ∃ m, m = (ch ++ [x]).length := ⟨_, rfl⟩
          rw [← hm7] at e7
          obtain rfl := e7
          have HM7 := Lib.hid hm7; clear hm7
          have HN := Lib.hid (hHeld.1.grown hg71 hHeld.1.size (fun q hq => (HO68.out.block_ge q hq).1))
          have HO71 := Lib.hid ho71; clear ho71 hg71
          have c9 : wa.cell? ⟨vb, k * 2 + 1, none⟩ = some (.slice pA ch.length pc) := (HN.out.cell (p := ⟨vb, k * 2 + 1, none⟩) hvl).trans c1
          have f9 : wa.frozen? ⟨vb, k * 2 + 1, none⟩ = false := by obtain ⟨cur, h⟩ := HVB.out; exact blk_frozen ((HN.out.block vb hvl).trans h) _
          refine step_app (by rfl) (.tmp 68) (.tmp 70) 63 rfl rfl rfl hr71 ?_
          refine hK.out _ _ ⟨HN.out, (HN.out.cell (p := ⟨g, 0, none⟩) hgl).trans c0, (HN.out.cell (p := ⟨vb, k * 2 + 1, none⟩) hvl).trans c1, (HN.out.cell (p := ⟨w.heap.size, 0, none⟩) hxl).trans x0, (HN.out.cell (p := ⟨w.heap.size, 1, none⟩) hxl).trans x1, (HN.out.cell (p := ⟨w.heap.size, 2, none⟩) hxl).trans x2⟩ (fun hHeld => ?_)
          clear hK K
          refine norm_ (a' := ?_) ?_ ?_
          rotate_left
          · show Act.put _ (some 71) _ = _
            simp only [Act.put, List.setIfInBounds_toArray, List.set_cons_zero, List.set_cons_succ, i64_w, i32_w]
            rfl
          refine pure_ (i := 17) (N := some 72) (v := ?_) (a' := ?_) #[true, true, true, true, true, true, true, true, true, true, true, true, true, true, true, true, true, true, false, false] rfl rfl (by kernel_rfl) (fun _ _ _ h => h) (Or.inl ⟨by rfl, ?_⟩) ?_ ?_
          rotate_left
          · intro w'
            go_simp
            with_reducible rfl
          rotate_left
          · simp only [Act.put, List.setIfInBounds_toArray, List.set_cons_zero, List.set_cons_succ, i64_w, i32_w]
            rfl
          refine pure_ (i := 18) (N := some 73) (v := ?_) (a' := ?_) #[true, true, true, true, true, true, true, true, true, true, true, true, true, true, true, true, true, true, true, false] rfl rfl (by kernel_rfl) (fun _ _ _ h => h) (Or.inl ⟨by rfl, ?_⟩) ?_ ?_
          rotate_left
          · intro w'
            go_simp
            with_reducible rfl
          rotate_left
          · simp only [Act.put, List.setIfInBounds_toArray, List.set_cons_zero, List.set_cons_succ, i64_w, i32_w]
            rfl
          refine last_ (i := 19) (N := none) #[true, true, true, true, true, true, true, true, true, true, true, true, true, true, true, true, true, true, true, true] rfl rfl (by kernel_rfl) (by decide) (fun K hK => ?_)
          refine skip_ (w1 := ?_) (by rfl) rfl ?_ ?_
          rotate_left
          · go_simp
            rfl
          refine hK.out _ _ ?_
          clear hK K
          refine done_ (by kernel_rfl) ?_

          clear hHeld
          have HOK7 := Lib.hid (show EntOk wa base ⟨key, A7, c7, ch ++ [x]⟩ from ⟨by have := HO71.out.lower hbase; rw [← HM7.out]; exact this, right_snoc HEOK.out.right ((right_one x).1 HRT.out) (by rw [← HCH.out]; exact HLT.out) (by rw [← HCH.out]; exact HL2.out), HFIT.out.1, fun y hy => by
            rcases List.mem_append.1 hy with h | h
            · exact HEOK.out.val y h
            · obtain rfl := List.mem_singleton.1 h
              exact ⟨hx, HFIT.out.2⟩⟩)
          have HFIN := Lib.hid (MSt.put (HM.out.below HN.out) (show k < E1.length from hk1) (x := ⟨key, A7, c7, ch ++ [x]⟩) (by rw [HP.out]; exact HKE.out.symm) HOK7.out)
          simp only [← HM7.out] at HFIN
          go_wp2
          go_ret
          rw [HE.out]
          exact ⟨rfl, ((HBB.out.below HN.out).set (p := ⟨vb, k * 2 + 1, none⟩) HVS.out _), _, _, HFIN.out, by rw [List.length_set]; exact hle1, fun h => absurd rfl h, fun _ => HIN.out _ rfl rfl⟩
end Go.Proofs.Ytcnehponkgofiaa.My
