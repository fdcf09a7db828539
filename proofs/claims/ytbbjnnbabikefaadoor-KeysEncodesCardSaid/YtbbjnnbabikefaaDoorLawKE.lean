/- The law KeysEncodes walked. -/
import Derived.Test.YtbbjnnbabikefaaDoorKeysI
import Derived.Test.YtbbjnnbabikefaaDoorOpenKeys
namespace Go.Proofs.YtbbjnnbabikefaaDoor.My
set_option linter.unusedSimpArgs false
set_option linter.unusedVariables false
open Go.RowKit Go.Proofs.YtbbjnnbabikefaaDoorW.PrintWords Go.Proofs.YtbbjnnbabikefaaDoorW.PrintLast Go.Proofs.YtbbjnnbabikefaaDoor.Pm

theorem eg_item (p : PIt) (d : Bool) (W : World) : (eqGuard .neq 20 (.tmp 55) (.tmp 60) (itV p d) (itV p d)).run Tryd.prog W = .ok () W := by cases d <;> cases p <;> kernel_rfl
set_option maxRecDepth 100000 in
set_option maxHeartbeats 16000000 in
theorem keys_encodes_walk (A : Option Addr) (n c : Nat) (la : List IR) (w : World) (hA : RowF w 5 irC A n la) (hn : n ≤ 140737488351232) (ha : ∀ x ∈ la, x.In) (hg : Glob w) :
    Calls Tryd.prog 6 #[.slice A n c] w fun e w' => e = .returned (.bool true) ∧ Below w.heap.size w w' := by
  have HA := Lib.hid (fun (w1 : World) (h : Below w.heap.size w w1) => hA.below h)
  have HA0 := Lib.hid hA
  have HI := Lib.hid ha
  have HG := Lib.hid hg
  have AW := Lib.hid (fun w (hg : Glob w) => awake03 w hg)
  have HN := Lib.hid hn
  have IM := Lib.hid info_item5
  clear hA ha hg hn
  have HB := Lib.hid (Below.refl w.heap.size w)
  go_enter Tryd.func6, Tryd.ntmps6
  go_wp2_with fail
  refine (AW.out _ HG.out).mono ?_
  rintro e w1 ⟨rfl, hb⟩
  replace HB := Lib.hid hb; clear hb
  go_wp2_with fail
  refine (few03_any A n c la w1 (HA.out _ HB.out) HN.out).mono ?_
  rintro e w2 ⟨b, rfl, hfa, rfl⟩
  cases b with
  | false =>
    clear hfa
    go_wp2_with fail
    refine (AW.out _ (HG.out.below HB.out)).mono ?_
    rintro e w3 ⟨rfl, hb⟩
    replace HB := Lib.hid (HB.out.trans (hb.mono HB.out.size))
    go_wp2
    go_ret
    exact ⟨rfl, HB.out⟩
  | true =>
    have HFA := Lib.hid (hfa rfl); clear hfa
    have n1 : n ≤ 1000 := Nat.le_trans HFA.out.1 (by decide)
    have OA := Lib.hid (oks HI.out HFA.out.2)
    have VA := Lib.hid (fun (w1 : World) (h : Below w.heap.size w w1) => all_row A n c la w1 (HA.out _ h) n1)
    have EA := Lib.hid (fun (w1 : World) (A' : Option Addr) (c' : Nat) (h : Below w.heap.size w w1) (h1 : RowF w1 1 itC A' n (la.map prX)) => encode_any A' n c' _ w1 h1 n1 OA.out (HG.out.below h))
    have RE := Lib.hid (fun (w1 : World) (h : Below w.heap.size w w1) => rEncode_any A n c la w1 (HA.out _ h) n1 HI.out HFA.out.2)
    have HML := Lib.hid (show (la.map prX).length = n by rw [List.length_map]; exact HA0.out.1)
    have hz := encL_size OA.out (la.map prX).length (Nat.le_refl _)
    rw [List.take_length, HML.out] at hz
    have hd := decL_enc (la.map prX) (encL (la.map prX)).size OA.out (by rw [← bl_encL, bl_length]; exact Nat.le_refl _)
    rw [← bl_encL] at hd
    have DC := Lib.hid (fun w => decode_any (encL (la.map prX)) w (by have := HFA.out.1; omega))
    have DV := Lib.hid (fun (w w' : World) (e : Ending) (h : decV (encL (la.map prX)) w w' e) => (show ∃ v, e = .returned (.tuple #[v, .int .i64 0]) ∧ OwnF w' w.heap.size 20 1 itC v (la.map prX) by unfold decV at h; rw [hd] at h; exact h))
    clear hz hd OA HFA HI
    generalize encL (la.map prX) = X at *
    go_wp2_with fail
    refine (VA.out _ HB.out).mono ?_
    rintro e w5 ⟨A1, c1, rfl, hr, hb⟩
    replace HB := Lib.hid (HB.out.trans (hb.mono HB.out.size)); clear hb
    go_wp2_with fail
    refine (EA.out _ _ _ HB.out hr).mono ?_
    rintro e w6 ⟨rfl, hb⟩
    replace HB := Lib.hid (HB.out.trans (hb.mono HB.out.size)); clear hb hr
    go_wp2_with fail
    refine (DC.out _).mono ?_
    rintro e w7 ⟨hv, hb⟩
    obtain ⟨v, rfl, ho⟩ := DV.out _ _ _ hv
    replace HB := Lib.hid (HB.out.trans (hb.mono HB.out.size)); clear hb hv
    obtain ⟨A2, c2, rfl, -⟩ := ho.slice_
    have HR := Lib.hid (ho.row itC_len); clear ho
    rw [HML.out] at HR ⊢
    go_wp2_with fail
    refine (RE.out _ HB.out).mono ?_
    rintro e w8 ⟨rfl, hb⟩
    replace HB := Lib.hid (HB.out.trans (hb.mono HB.out.size))
    replace HR := Lib.hid (HR.out.below hb); clear hb
    go_wp2
    go_loopw [7] (fun u wr => ∃ i : Nat, u = .int .i64 i ∧ i ≤ n ∧ Hid (RowF wr 1 itC A2 n (la.map prX)) ∧ Hid (Below w.heap.size w wr)) (fun u _ => n - (intOf u).toNat)
    case atStart => exact ⟨0, rfl, Nat.zero_le _, HR, HB⟩
    case round =>
      clear HR HB
      obtain ⟨i, rfl, hi, HR, HB⟩ := hrel
      by_cases hlt : i < n
      · have y5 : decide ((i : Int) < (n : Int)) = true := decide_eq_true (by omega)
        obtain ⟨b1, o1, hj1, rfl, hbW1, hc1⟩ := HR.out.get i hlt
        rw [List.getElem_map] at hc1
        obtain ⟨b2, o2, hj2, rfl, hbW2, hc2⟩ := (HA.out _ HB.out).get i hlt
        have HV := Lib.hid (fun W => show Calls Tryd.prog 11 #[.agg (irC la[i]).toArray] W fun e w' => e = .returned (itV la[i].p la[i].d) ∧ Below W.heap.size W w' from value_any la[i] W)
        have hne := neq_item la[i].p la[i].d
        have heg := eg_item la[i].p la[i].d
        obtain ⟨x, hx⟩ : ∃ x, la[i] = x := ⟨_, rfl⟩
        rw [hx] at hc1 hc2 HV hne heg
        obtain ⟨V, hVV⟩ : ∃ V, itV x.p x.d = V := ⟨_, rfl⟩
        have hc1 : wr.cell? ⟨b1, o1 + i, none⟩ = some V := by have := hc1 0 _ rfl; rw [Nat.mul_one] at this; rw [← hVV]; exact this
        rw [hVV] at HV hne heg
        have HC1 := Lib.hid hc1
        have HC2 := Lib.hid hc2
        have HW1 := Lib.hid hbW1
        have HW2 := Lib.hid hbW2
        have hw := succ_w' hlt (show n ≤ 140737488351232 by omega)
        have HLT := Lib.hid hlt
        clear hc1 hc2 hx hVV hj1 hj2 hbW1 hbW2
        go_wp2
        refine start_ (n := 10) (S := fun w' => w'.cell? ⟨b1, o1 + i, none⟩ = some V ∧ w'.rangeAt b2 (o2 + i * 5) (irC x)) (ds := []) #[false, false, false, false, false, false, false, false, false, false] (by kernel_rfl) rfl rfl ⟨(show wr.drew.cell? _ = _ from HC1.out), (show wr.drew.rangeAt _ _ _ from HC2.out)⟩ (fun hHeld => ?_)
        have HB := Lib.hid (below_drew HB.out)
        have HR := Lib.hid (HR.out.below (below_drew (Below.refl _ _)))
        refine pure_ (i := 0) (N := some 52) (v := ?_) (a' := ?_) #[true, false, false, false, false, false, false, false, false, false] rfl rfl (by kernel_rfl) (fun _ _ _ h => h) (Or.inl ⟨by rfl, ?_⟩) ?_ ?_
        rotate_left
        · intro w'
          go_simp
          with_reducible rfl
        rotate_left
        · simp only [Act.put, List.setIfInBounds_toArray, List.set_cons_zero, List.set_cons_succ, i64_w, i32_w]
          rfl
        refine pure_ (i := 1) (N := some 53) (v := ?_) (a' := ?_) #[true, true, false, false, false, false, false, false, false, false] rfl rfl (by kernel_rfl) (fun _ _ _ h => h) (Or.inl ⟨by rfl, ?_⟩) ?_ ?_
        rotate_left
        · intro w'
          go_simp
          with_reducible rfl
        rotate_left
        · simp only [Act.put, List.setIfInBounds_toArray, List.set_cons_zero, List.set_cons_succ, i64_w, i32_w]
          rfl
        refine pure_ (i := 2) (N := some 54) (v := ?_) (a' := ?_) #[true, true, true, false, false, false, false, false, false, false] rfl rfl (by kernel_rfl) (fun _ _ _ h => h) (Or.inl ⟨by rfl, ?_⟩) ?_ ?_
        rotate_left
        · intro w'
          go_simp
          with_reducible rfl
        rotate_left
        · simp only [Act.put, List.setIfInBounds_toArray, List.set_cons_zero, List.set_cons_succ, i64_w, i32_w]
          rfl
        refine pure_ (i := 4) (N := some 56) (v := ?_) (a' := ?_) #[true, true, true, false, true, false, false, false, false, false] rfl rfl (by kernel_rfl) (fun _ _ _ h => h) (Or.inl ⟨by rfl, ?_⟩) ?_ ?_
        rotate_left
        · intro w'
          go_simp
          with_reducible rfl
        rotate_left
        · simp only [Act.put, List.setIfInBounds_toArray, List.set_cons_zero, List.set_cons_succ, i64_w, i32_w]
          rfl
        refine pure_ (i := 5) (N := some 57) (v := ?_) (a' := ?_) #[true, true, true, false, true, true, false, false, false, false] rfl rfl (by kernel_rfl) (fun _ _ _ h => h) (Or.inl ⟨by rfl, ?_⟩) ?_ ?_
        rotate_left
        · intro w'
          go_simp
          with_reducible rfl
        rotate_left
        · simp only [Act.put, List.setIfInBounds_toArray, List.set_cons_zero, List.set_cons_succ, i64_w, i32_w]
          rfl
        refine pure_ (i := 6) (N := some 58) (v := ?_) (a' := ?_) #[true, true, true, false, true, true, true, false, false, false] rfl rfl (by kernel_rfl) (fun _ _ _ h => h) (Or.inl ⟨by rfl, ?_⟩) ?_ ?_
        rotate_left
        · intro w'
          go_simp
          with_reducible rfl
        rotate_left
        · simp only [Act.put, List.setIfInBounds_toArray, List.set_cons_zero, List.set_cons_succ, i64_w, i32_w]
          rfl
        refine take_ (i := 3) (N := some 55) (v := ?_) (a' := ?_) #[true, true, true, true, true, true, true, false, false, false] rfl rfl (by kernel_rfl) (fun _ _ _ h => h) (Or.inl ⟨by rfl, ?_⟩) hHeld ?_ ?_
        rotate_left
        · rintro w' ⟨s0, s1⟩
          go_simp
          with_reducible rfl
        rotate_left
        · simp only [Act.put, List.setIfInBounds_toArray, List.set_cons_zero, List.set_cons_succ, i64_w, i32_w]
          rfl
        refine take_ (i := 7) (N := some 59) (v := ?_) (a' := ?_) #[true, true, true, true, true, true, true, true, false, false] rfl rfl (by kernel_rfl) (fun _ _ _ h => h) (Or.inl ⟨by rfl, ?_⟩) hHeld ?_ ?_
        rotate_left
        · rintro w' ⟨s0, s1⟩
          refine run_midrow 24 (.tmp 58) ?_ b2 (o2 + i * 5) ?_ (irC x) _ s1 Tryd.underlying24 rfl IM.out <;> rfl
        rotate_left
        · simp only [Act.put, List.setIfInBounds_toArray, List.set_cons_zero, List.set_cons_succ, i64_w, i32_w]
          rfl
        refine one_ (i := 8) (N := some 60) #[true, true, true, true, true, true, true, true, true, false] rfl rfl (by kernel_rfl) (by decide) (fun K hK => ?_)
        refine goes_ Tryd.func11 (by kernel_rfl) rfl #[.agg (irC x).toArray] (by rfl) rfl rfl (by (try simp only [List.map_toArray, List.map_cons, List.map_nil]); first | done | rfl) ?_
        with_reducible refine ((HV.out _)).mono ?_
        rintro e w9 ⟨rfl, hb9⟩
        refine ⟨_, rfl, ?_⟩
        have HB9 := Lib.hid (HB.out.trans (hb9.mono HB.out.size))
        refine hK.out _ _ ⟨((hb9.cell (p := ⟨b1, o1 + i, none⟩) HW1.out).trans hHeld.1), (range_below hHeld.2 hb9 HW2.out)⟩ (fun hHeld => ?_)
        clear hK K
        refine norm_ (a' := ?_) ?_ ?_
        rotate_left
        · show Act.put _ (some 60) _ = _
          simp only [Act.put, List.setIfInBounds_toArray, List.set_cons_zero, List.set_cons_succ, i64_w, i32_w]
          rfl
        refine pure_ (i := 9) (N := some 61) (v := ?_) (a' := ?_) #[true, true, true, true, true, true, true, true, true, true] rfl rfl (by kernel_rfl) (fun _ _ _ h => h) (Or.inl ⟨by rfl, ?_⟩) ?_ ?_
        rotate_left
        · intro w'
          go_simp
          with_reducible rfl
        rotate_left
        · simp only [Act.put, List.setIfInBounds_toArray, List.set_cons_zero, List.set_cons_succ, i64_w, i32_w]
          rfl
        refine done_ (by kernel_rfl) ?_

        replace HB := HB9
        replace HR := Lib.hid (HR.out.below hb9)
        go_wp2
        go_roundw
        case rel => exact ⟨i + 1, by go_num, HLT.out, HR, HB⟩
        case measure => first | exact kup_w HLT.out hw | exact kup_n HLT.out
      · obtain rfl : i = n := by omega
        have y5 : decide ((i : Int) < (i : Int)) = false := decide_eq_false (by omega)
        go_wp2
        go_ret
        exact ⟨rfl, HB.out⟩
theorem encodes_row (A : Option Addr) (n c : Nat) (la : List IR) (w : World) (hg : Glob w)
    (h1 : n ≤ c) (h2 : n * Tryd.prog.bytesOf 24 ≤ 140737488351232) (h3 : RowSays w (Tryd.prog.cellsOf 24) ItemR A n la) :
    Calls Tryd.prog 6 #[.slice A n c] w fun e w' => e = .returned (.bool true) ∧ Below w.heap.size w w' := by
  obtain ⟨ra, pa⟩ := items_of h3
  rw [items_bytes] at h2
  exact keys_encodes_walk A n c la w ra (by omega) (fun x hx => (pa x hx).1) hg
end Go.Proofs.YtbbjnnbabikefaaDoor.My
