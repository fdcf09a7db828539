/- The law KeysOrder walked. -/
import Derived.Test.YtbbjnnbabikefaaDoorKeysA
namespace Go.Proofs.YtbbjnnbabikefaaDoor.My
set_option linter.unusedSimpArgs false
set_option linter.unusedVariables false
open Go.RowKit Go.Proofs.YtbbjnnbabikefaaDoorW.PrintWords Go.Proofs.YtbbjnnbabikefaaDoorW.PrintLast Go.Proofs.YtbbjnnbabikefaaDoor.Pm

theorem all_row (A : Option Addr) (n c : Nat) (l : List IR) (w : World) (hA : RowF w 5 irC A n l) (hn : n ≤ 1000) :
    Calls Tryd.prog 14 #[.slice A n c] w fun e w' => ∃ A' c', e = .returned (.slice A' n c') ∧ RowF w' 1 itC A' n (l.map prX) ∧ Below w.heap.size w w' :=
  (all_any A n c l w hA hn).mono fun e w' ⟨v, he, ho, hb⟩ => by
    obtain ⟨A', c', hv, _⟩ := ho.slice_
    have hl : (l.map prX).length = n := by rw [List.length_map]; exact hA.1
    rw [hl] at hv
    subst hv
    exact ⟨A', c', he, ho.row itC_len, hb⟩
theorem oks {l : List IR} (h : ∀ x ∈ l, x.In) (ht : ∀ x ∈ l, x.t.size ≤ 100) : ∀ z ∈ l.map prX, z.1.ok := fun z hz => by
  obtain ⟨x, hx, rfl⟩ := List.mem_map.1 hz
  exact IR.ok (h x hx) (ht x hx)
set_option maxRecDepth 100000 in
set_option maxHeartbeats 16000000 in
theorem keys_order_walk (A B : Option Addr) (n c m d : Nat) (la lb : List IR) (w : World) (hA : RowF w 5 irC A n la) (hB : RowF w 5 irC B m lb) (hn : n ≤ 140737488351232) (hm : m ≤ 140737488351232) (ha : ∀ x ∈ la, x.In) (hb : ∀ x ∈ lb, x.In) (hg : Glob w) :
    Calls Tryd.prog 4 #[.slice A n c, .slice B m d] w fun e w' => e = .returned (.bool true) ∧ Below w.heap.size w w' := by
  have HA := Lib.hid (fun (w1 : World) (h : Below w.heap.size w w1) => hA.below h)
  have HBB := Lib.hid (fun (w1 : World) (h : Below w.heap.size w w1) => hB.below h)
  have HI := Lib.hid (And.intro ha hb)
  have HG := Lib.hid hg
  have AW := Lib.hid (fun w (hg : Glob w) => awake03 w hg)
  have HN := Lib.hid (And.intro hn hm)
  clear hA hB ha hb hg hn hm
  have HB := Lib.hid (Below.refl w.heap.size w)
  go_enter Tryd.func4, Tryd.ntmps4
  go_wp2_with fail
  refine (AW.out _ HG.out).mono ?_
  rintro e w1 ⟨rfl, hb⟩
  replace HB := Lib.hid hb; clear hb
  go_wp2_with fail
  refine (few03_any A n c la w1 (HA.out _ HB.out) HN.out.1).mono ?_
  rintro e w2 ⟨b, rfl, hfa, rfl⟩
  cases b with
  | false =>
    clear hfa
    go_wp2_with fail
    refine (AW.out _ (HG.out.below HB.out)).mono ?_
    rintro e w3 ⟨rfl, hb⟩
    replace HB := Lib.hid (HB.out.trans (hb.mono HB.out.size))
    go_wp2
    go_ret
    exact ⟨rfl, HB.out⟩
  | true =>
    have HFA := Lib.hid (hfa rfl); clear hfa
    go_wp2_with fail
    refine (few03_any B m d lb w2 (HBB.out _ HB.out) HN.out.2).mono ?_
    rintro e w3 ⟨b, rfl, hfb, rfl⟩
    cases b with
    | false =>
      clear hfb
      go_wp2_with fail
      refine (AW.out _ (HG.out.below HB.out)).mono ?_
      rintro e w4 ⟨rfl, hb⟩
      replace HB := Lib.hid (HB.out.trans (hb.mono HB.out.size))
      go_wp2
      go_ret
      exact ⟨rfl, HB.out⟩
    | true =>
      have HFB := Lib.hid (hfb rfl); clear hfb
      have n1 : n ≤ 1000 := Nat.le_trans HFA.out.1 (by decide)
      have m1 : m ≤ 1000 := Nat.le_trans HFB.out.1 (by decide)
      have OA := Lib.hid (oks HI.out.1 HFA.out.2)
      have OB := Lib.hid (oks HI.out.2 HFB.out.2)
      have HCE := Lib.hid (cmp_enc OA.out OB.out)
      have VA := Lib.hid (fun (w1 : World) (h : Below w.heap.size w w1) => all_row A n c la w1 (HA.out _ h) n1)
      have VB := Lib.hid (fun (w1 : World) (h : Below w.heap.size w w1) => all_row B m d lb w1 (HBB.out _ h) m1)
      have VC := Lib.hid (fun (w1 : World) (h : Below w.heap.size w w1) => rCompare_any A B n c m d la lb w1 (HA.out _ h) (HBB.out _ h) n1 m1)
      have CK := Lib.hid (fun (w1 : World) (A' B' : Option Addr) (c' d' : Nat) (h : Below w.heap.size w w1) (h1 : RowF w1 1 itC A' n (la.map prX)) (h2 : RowF w1 1 itC B' m (lb.map prX)) => compare_keys A' B' n c' m d' _ _ w1 h1 h2 n1 m1 OA.out OB.out (HG.out.below h))
      have EA := Lib.hid (fun (w1 : World) (A' : Option Addr) (c' : Nat) (h : Below w.heap.size w w1) (h1 : RowF w1 1 itC A' n (la.map prX)) => encode_any A' n c' _ w1 h1 n1 OA.out (HG.out.below h))
      have EB := Lib.hid (fun (w1 : World) (B' : Option Addr) (c' : Nat) (h : Below w.heap.size w w1) (h1 : RowF w1 1 itC B' m (lb.map prX)) => encode_any B' m c' _ w1 h1 m1 OB.out (HG.out.below h))
      clear OA OB HI HFA HFB HA HBB n1 m1
      generalize la.map prX = pa at *
      generalize lb.map prX = pb at *
      generalize encL pa = X at *
      generalize encL pb = Y at *
      obtain ⟨C, hC⟩ : ∃ C, cmpT pa pb = C := ⟨_, rfl⟩
      rw [hC] at HCE VC CK
      have HX := Lib.hid (show (X.toList == Y.toList) = decide (C = 0) by
        rw [ByteArray.toList_eq, ByteArray.toList_eq]
        have h := cmp_zero (bl X) (bl Y)
        rw [HCE.out] at h
        by_cases e : bl X = bl Y
        · rw [decide_eq_true (h.2 e)]; exact beq_iff_eq.2 e
        · rw [decide_eq_false (fun q => e (h.1 q))]; exact beq_eq_false_iff_ne.2 e)
      have HY := Lib.hid (show Op.bytesLess X.toList Y.toList = decide (C < 0) by
        rw [ByteArray.toList_eq, ByteArray.toList_eq]
        have h := cmp_less (bl X) (bl Y)
        rw [HCE.out] at h
        by_cases e : C < 0
        · rw [decide_eq_true e]; exact h.1 e
        · rw [decide_eq_false e]; exact Bool.eq_false_iff.2 (fun q => e (h.2 q)))
      clear HCE hC
      go_wp2_with fail
      refine (VC.out _ HB.out).mono ?_
      rintro e w4 ⟨rfl, hb⟩
      replace HB := Lib.hid (HB.out.trans (hb.mono HB.out.size)); clear hb
      go_wp2_with fail
      refine (VA.out _ HB.out).mono ?_
      rintro e w5 ⟨A1, c1, rfl, hr, hb⟩
      replace HB := Lib.hid (HB.out.trans (hb.mono HB.out.size)); clear hb
      have HR := Lib.hid hr; clear hr
      go_wp2_with fail
      refine (VB.out _ HB.out).mono ?_
      rintro e w6 ⟨B1, d1, rfl, hr, hb⟩
      replace HB := Lib.hid (HB.out.trans (hb.mono HB.out.size))
      replace HR := Lib.hid (HR.out.below hb); clear hb
      have HR2 := Lib.hid hr; clear hr
      go_wp2_with fail
      refine (CK.out _ _ _ _ _ HB.out HR.out HR2.out).mono ?_
      rintro e w7 ⟨rfl, hb⟩
      replace HB := Lib.hid (HB.out.trans (hb.mono HB.out.size)); clear hb HR HR2
      go_wp2_with fail
      refine (VA.out _ HB.out).mono ?_
      rintro e w8 ⟨A2, c2, rfl, hr, hb⟩
      replace HB := Lib.hid (HB.out.trans (hb.mono HB.out.size)); clear hb
      go_wp2_with fail
      refine (EA.out _ _ _ HB.out hr).mono ?_
      rintro e w9 ⟨rfl, hb⟩
      replace HB := Lib.hid (HB.out.trans (hb.mono HB.out.size)); clear hb hr
      go_wp2_with fail
      refine (VB.out _ HB.out).mono ?_
      rintro e w10 ⟨B2, d2, rfl, hr, hb⟩
      replace HB := Lib.hid (HB.out.trans (hb.mono HB.out.size)); clear hb
      go_wp2_with fail
      refine (EB.out _ _ _ HB.out hr).mono ?_
      rintro e w11 ⟨rfl, hb⟩
      replace HB := Lib.hid (HB.out.trans (hb.mono HB.out.size)); clear hb hr
      have hX := HX.out
      have hY := HY.out
      rcases Int.lt_trichotomy C 0 with h | h | h
      · have z1 : decide (C < 0) = true := decide_eq_true h
        have z2 : (C == 0) = false := by simp; omega
        rw [z1] at hY
        rw [decide_eq_false (by omega)] at hX
        clear h
        go_wp2
        go_ret
        exact ⟨rfl, HB.out⟩
      · subst h
        rw [decide_eq_true rfl] at hX
        rw [decide_eq_false (by decide)] at hY
        go_wp2
        go_ret
        exact ⟨rfl, HB.out⟩
      · have z1 : decide (C < 0) = false := decide_eq_false (by omega)
        have z2 : (C == 0) = false := by simp; omega
        rw [z1] at hY
        rw [decide_eq_false (by omega)] at hX
        clear h
        go_wp2
        go_ret
        exact ⟨rfl, HB.out⟩
end Go.Proofs.YtbbjnnbabikefaaDoor.My
