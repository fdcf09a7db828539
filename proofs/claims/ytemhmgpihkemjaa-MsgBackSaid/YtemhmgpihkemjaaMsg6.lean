/- msg.may, Encode, Project, Negotiate. -/
import Derived.Test.YtemhmgpihkemjaaMsg5
namespace Go.Proofs.Ytemhmgpihkemjaa.My
set_option linter.unusedSimpArgs false
set_option linter.unusedVariables false
open Go.RowKit Go.Proofs.YtemhmgpihkemjaaW.PrintWords Go.Proofs.YtemhmgpihkemjaaW.PrintLast Go.Proofs.Ytemhmgpihkemjaa.Pm

def IsMsg (w : World) (pp : Nat) (m : MsgS) (A : Option Addr) (n c : Nat) : Prop := w.heap[pp]? = some (.cells (m.arr A n c) 29 (0, 0))
theorem mcells {w : World} {pp : Nat} {m : MsgS} {A : Option Addr} {n c : Nat} (h : IsMsg w pp m A n c) :
    w.cell? ⟨pp, 0, none⟩ = some (.int .i64 m.kind) ∧ w.cell? ⟨pp, 1, none⟩ = some (.int .i64 m.frm) ∧ w.cell? ⟨pp, 2, none⟩ = some (.int .i64 m.tow) ∧ w.cell? ⟨pp, 3, none⟩ = some (.int .i64 m.node) ∧ w.cell? ⟨pp, 4, none⟩ = some (.int .i64 m.life) ∧ w.cell? ⟨pp, 5, none⟩ = some (.int .i64 m.seq) ∧
    w.cell? ⟨pp, 6, none⟩ = some (.int .u64 m.a) ∧ w.cell? ⟨pp, 7, none⟩ = some (.int .u64 m.b) ∧ w.cell? ⟨pp, 8, none⟩ = some (.string m.key) ∧ w.cell? ⟨pp, 9, none⟩ = some (.bool m.found) ∧ w.cell? ⟨pp, 10, none⟩ = some (.int .u64 m.time) ∧ w.cell? ⟨pp, 11, none⟩ = some (.bool m.gone) ∧ w.cell? ⟨pp, 12, none⟩ = some (.string m.value) ∧
    w.cell? ⟨pp, 13, none⟩ = some (.slice A n c) ∧ w.cell? ⟨pp, 14, none⟩ = some (.string m.note) ∧ w.cell? ⟨pp, 15, none⟩ = some (.int .u64 m.hint) ∧ w.cell? ⟨pp, 16, none⟩ = some (.int .u64 m.must) :=
  ⟨(blk_cell h 0).trans rfl, (blk_cell h 1).trans rfl, (blk_cell h 2).trans rfl, (blk_cell h 3).trans rfl, (blk_cell h 4).trans rfl, (blk_cell h 5).trans rfl, (blk_cell h 6).trans rfl, (blk_cell h 7).trans rfl, (blk_cell h 8).trans rfl, (blk_cell h 9).trans rfl, (blk_cell h 10).trans rfl, (blk_cell h 11).trans rfl, (blk_cell h 12).trans rfl, (blk_cell h 13).trans rfl, (blk_cell h 14).trans rfl, (blk_cell h 15).trans rfl, (blk_cell h 16).trans rfl⟩
def mayE (v : Int) (m : MsgS) : Nat := if knownS v = 0 ∨ rightB m = false then 1 else if m.must ≠ 0 ∧ knownS v < 12 then 4 else 0
theorem negotiate_any (a b : Int) (w : World) : Calls Try.prog 17 #[.int .i64 a, .int .i64 b] w fun e w' => e = .returned (.int .i64 (if knownS a = 0 ∨ knownS b = 0 then 0 else min a b)) ∧ w = w' := by
  have KA := Lib.hid (fun w => known_any a w)
  have KB := Lib.hid (fun w => known_any b w)
  obtain ⟨ka, hka⟩ : ∃ k, knownS a = k := ⟨_, rfl⟩
  obtain ⟨kb, hkb⟩ : ∃ k, knownS b = k := ⟨_, rfl⟩
  rw [hka] at KA ⊢
  rw [hkb] at KB ⊢
  clear hka hkb
  by_cases h0 : ka = 0
  · subst h0
    rw [if_pos (.inl rfl)]
    go_enter Try.func17, Try.ntmps17
    go_wp2_with fail
    refine (KA.out _).mono ?_
    rintro e wq1 ⟨rfl, rfl⟩
    go_wp2
    go_ret
    exact ⟨rfl, rfl⟩
  · have y0 : ((ka : Int) == 0) = false := by simp; exact h0
    by_cases h1 : kb = 0
    · subst h1
      rw [if_pos (.inr rfl)]
      clear h0
      go_enter Try.func17, Try.ntmps17
      go_wp2_with fail
      refine (KA.out _).mono ?_
      rintro e wq2 ⟨rfl, rfl⟩
      go_wp2_with fail
      refine (KB.out _).mono ?_
      rintro e wq3 ⟨rfl, rfl⟩
      go_wp2
      go_ret
      exact ⟨rfl, rfl⟩
    · have y1 : ((kb : Int) == 0) = false := by simp; exact h1
      rw [if_neg (by omega)]
      clear h0 h1
      by_cases hab : a < b
      · rw [show min a b = a by omega]
        have x1 : decide (a < b) = true := decide_eq_true hab
        have x2 : decide (b < a) = false := decide_eq_false (by omega)
        have x3 : ¬ b < a := by omega
        go_enter Try.func17, Try.ntmps17
        go_wp2_with fail
        refine (KA.out _).mono ?_
        rintro e wq4 ⟨rfl, rfl⟩
        go_wp2_with fail
        refine (KB.out _).mono ?_
        rintro e wq5 ⟨rfl, rfl⟩
        go_wp2
        go_ret
        exact ⟨rfl, rfl⟩
      · by_cases hba : b < a
        · rw [show min a b = b by omega]
          have x1 : decide (a < b) = false := decide_eq_false hab
          have x2 : decide (b < a) = true := decide_eq_true hba
          go_enter Try.func17, Try.ntmps17
          go_wp2_with fail
          refine (KA.out _).mono ?_
          rintro e wq6 ⟨rfl, rfl⟩
          go_wp2_with fail
          refine (KB.out _).mono ?_
          rintro e wq7 ⟨rfl, rfl⟩
          go_wp2
          go_ret
          exact ⟨rfl, rfl⟩
        · obtain rfl : a = b := by omega
          rw [show min a a = a by omega]
          clear hab hba
          go_enter Try.func17, Try.ntmps17
          go_wp2_with fail
          refine (KA.out _).mono ?_
          rintro e wq8 ⟨rfl, rfl⟩
          go_wp2_with fail
          refine (KB.out _).mono ?_
          rintro e wq9 ⟨rfl, rfl⟩
          go_wp2
          go_ret
          exact ⟨rfl, rfl⟩
set_option maxRecDepth 100000 in
set_option maxHeartbeats 8000000 in
theorem may_any (v : Int) (m : MsgS) (A : Option Addr) (n c : Nat) (w : World) (z : m.Z) (hw : Wrs w A n m.ws) :
    Calls Try.prog 19 #[.int .i64 v, .agg (m.arr A n c)] w fun e w' => e = .returned (.int .i64 (mayE v m : Nat)) ∧ Below w.heap.size w w' := by
  have KV := Lib.hid (fun w => known_any v w)
  have RT := Lib.hid (fun (w : World) (hw : Wrs w A n m.ws) => right_any m A n c w z hw)
  have HE := Lib.hid (show mayE v m = if knownS v = 0 ∨ rightB m = false then 1 else if m.must ≠ 0 ∧ knownS v < 12 then 4 else 0 from rfl)
  generalize mayE v m = E at *
  generalize rightB m = rb at *
  generalize knownS v = kv at *
  have HW := Lib.hid (hw.below (below_alloc (Below.refl _ w) (.cells (m.arr A n c) 29)))
  have HB := Lib.hid ((Below.refl w.heap.size w).alloc (Nat.le_refl _) (.cells (m.arr A n c) 29))
  have HP := Lib.hid (show IsMsg (w.alloc (.cells (m.arr A n c) 29)) w.heap.size m A n c from blk_new w _)
  have MC := Lib.hid (fun w' (h : IsMsg w' w.heap.size m A n c) => mcells h)
  clear hw z
  unfold MsgS.arr at *
  by_cases h0 : kv = 0
  · subst h0
    obtain ⟨p0, p1, p2, p3, p4, p5, p6, p7, p8, p9, p10, p11, p12, p13, p14, p15, p16⟩ := MC.out _ HP.out
    rw [if_pos (.inl rfl)] at HE
    go_enter Try.func19, Try.ntmps19
    go_wp2_with fail
    refine (KV.out _).mono ?_
    rintro e wq10 ⟨rfl, rfl⟩
    go_wp2
    go_ret
    rw [HE.out]
    exact ⟨rfl, HB.out⟩
  · have y0 : ((kv : Int) == 0) = false := by simp; exact h0
    cases rb with
    | false =>
      rw [if_pos (.inr rfl)] at HE
      clear h0
      obtain ⟨p0, p1, p2, p3, p4, p5, p6, p7, p8, p9, p10, p11, p12, p13, p14, p15, p16⟩ := MC.out _ HP.out
      go_enter Try.func19, Try.ntmps19
      go_wp2_with fail
      refine (KV.out _).mono ?_
      rintro e wq11 ⟨rfl, rfl⟩
      go_wp2_with fail
      refine (RT.out _ HW.out).mono ?_
      rintro e wq12 ⟨rfl, hb⟩
      have HB := Lib.hid (HB.out.trans (hb.mono HB.out.size)); clear hb
      go_wp2
      go_ret
      rw [HE.out]
      exact ⟨rfl, HB.out⟩
    | true =>
      rw [if_neg (by simp; exact h0)] at HE
      clear h0
      by_cases hm : m.must = 0
      · have ym : ((m.must : Int) != 0) = false := by simp; exact hm
        rw [if_neg (fun h => h.1 hm)] at HE
        clear hm
        obtain ⟨p0, p1, p2, p3, p4, p5, p6, p7, p8, p9, p10, p11, p12, p13, p14, p15, p16⟩ := MC.out _ HP.out
        go_enter Try.func19, Try.ntmps19
        go_wp2_with fail
        refine (KV.out _).mono ?_
        rintro e wq13 ⟨rfl, rfl⟩
        go_wp2_with fail
        refine (RT.out _ HW.out).mono ?_
        rintro e wq ⟨rfl, hb⟩
        replace HP := Lib.hid (show IsMsg _ _ m A n c from blk_below HP.out hb)
        replace HB := Lib.hid (HB.out.trans (hb.mono HB.out.size)); clear hb
        clear p0 p1 p2 p3 p4 p5 p6 p7 p8 p9 p10 p11 p12 p13 p14 p15 p16
        have p16 := (MC.out _ HP.out).2.2.2.2.2.2.2.2.2.2.2.2.2.2.2.2
        go_wp2
        go_ret
        rw [HE.out]
        exact ⟨rfl, HB.out⟩
      · have ym : ((m.must : Int) != 0) = true := by simp; exact hm
        by_cases hk : kv < 12
        · have yk : decide ((kv : Int) < 12) = true := by simp; omega
          have ykn : decide (kv < 12) = true := by simp; omega
          rw [if_pos ⟨hm, hk⟩] at HE
          clear hm hk
          obtain ⟨p0, p1, p2, p3, p4, p5, p6, p7, p8, p9, p10, p11, p12, p13, p14, p15, p16⟩ := MC.out _ HP.out
          go_enter Try.func19, Try.ntmps19
          go_wp2_with fail
          refine (KV.out _).mono ?_
          rintro e wq14 ⟨rfl, rfl⟩
          go_wp2_with fail
          refine (RT.out _ HW.out).mono ?_
          rintro e wq ⟨rfl, hb⟩
          replace HP := Lib.hid (show IsMsg _ _ m A n c from blk_below HP.out hb)
          replace HB := Lib.hid (HB.out.trans (hb.mono HB.out.size)); clear hb
          clear p0 p1 p2 p3 p4 p5 p6 p7 p8 p9 p10 p11 p12 p13 p14 p15 p16
          have p16 := (MC.out _ HP.out).2.2.2.2.2.2.2.2.2.2.2.2.2.2.2.2
          go_wp2_with fail
          refine (KV.out _).mono ?_
          rintro e wq15 ⟨rfl, rfl⟩
          go_wp2
          go_ret
          rw [HE.out]
          exact ⟨rfl, HB.out⟩
        · have yk : decide ((kv : Int) < 12) = false := by simp; omega
          have ykn : decide (kv < 12) = false := by simp; omega
          rw [if_neg (fun h => hk h.2)] at HE
          clear hm hk
          obtain ⟨p0, p1, p2, p3, p4, p5, p6, p7, p8, p9, p10, p11, p12, p13, p14, p15, p16⟩ := MC.out _ HP.out
          go_enter Try.func19, Try.ntmps19
          go_wp2_with fail
          refine (KV.out _).mono ?_
          rintro e wq16 ⟨rfl, rfl⟩
          go_wp2_with fail
          refine (RT.out _ HW.out).mono ?_
          rintro e wq ⟨rfl, hb⟩
          replace HP := Lib.hid (show IsMsg _ _ m A n c from blk_below HP.out hb)
          replace HB := Lib.hid (HB.out.trans (hb.mono HB.out.size)); clear hb
          clear p0 p1 p2 p3 p4 p5 p6 p7 p8 p9 p10 p11 p12 p13 p14 p15 p16
          have p16 := (MC.out _ HP.out).2.2.2.2.2.2.2.2.2.2.2.2.2.2.2.2
          go_wp2_with fail
          refine (KV.out _).mono ?_
          rintro e wq17 ⟨rfl, rfl⟩
          go_wp2
          go_ret
          rw [HE.out]
          exact ⟨rfl, HB.out⟩
end Go.Proofs.Ytemhmgpihkemjaa.My
