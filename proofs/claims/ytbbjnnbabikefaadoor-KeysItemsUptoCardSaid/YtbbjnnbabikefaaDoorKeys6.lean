/- keys: no item's bytes begin with another's; the law KeysFirst walked. -/
import Derived.Test.YtbbjnnbabikefaaDoorKeys5
import Derived.Test.YtbbjnnbabikefaaDoorWGuard
namespace Go.Proofs.YtbbjnnbabikefaaDoor.My
set_option linter.unusedSimpArgs false
set_option linter.unusedVariables false
open Go.RowKit Go.Proofs.YtbbjnnbabikefaaDoorW.PrintWords Go.Proofs.YtbbjnnbabikefaaDoorW.PrintLast Go.Proofs.YtbbjnnbabikefaaDoor.Pm

theorem escB_end : ∀ (s t r q : List UInt8), escB s ++ 0 :: 0 :: r = escB t ++ 0 :: 0 :: q → s = t ∧ r = q
  | [], [], r, q, h => by
    simp only [escB, List.nil_append, List.cons.injEq, true_and] at h
    exact ⟨rfl, h⟩
  | [], b :: t, r, q, h => by
    exfalso
    by_cases hb : b = 0
    · simp [escB, hb] at h
    · simp [escB, hb] at h
      exact hb h.1.symm
  | a :: s, [], r, q, h => by
    exfalso
    by_cases ha : a = 0
    · simp [escB, ha] at h
    · simp [escB, ha] at h
  | a :: s, b :: t, r, q, h => by
    by_cases ha : a = 0
    · by_cases hb : b = 0
      · simp [escB, ha, hb] at h
        have ih := escB_end s t r q h
        exact ⟨by rw [ha, hb, ih.1], ih.2⟩
      · exfalso
        simp [escB, ha, hb] at h
        exact hb h.1.symm
    · by_cases hb : b = 0
      · exfalso
        simp [escB, ha, hb] at h
      · simp [escB, ha, hb] at h
        have ih := escB_end s t r q h.2
        exact ⟨by rw [h.1, ih.1], ih.2⟩
/-- An item's bytes behind the first. -/
def tailS : PIt → List UInt8
  | .nul => []
  | .boo _ => []
  | .i64 x => bl (fixedS (x + 9223372036854775808) 8 true)
  | .u64 n => bl (fixedS (n : Int) 8 true)
  | .str s => escB (bl s) ++ [0, 0]
def headS : PIt → UInt8
  | .nul => 16
  | .boo b => if b then 33 else 32
  | .i64 _ => 48
  | .u64 _ => 64
  | .str _ => 80
theorem bl_one (p : PIt) : bl (oneS p) = headS p :: tailS p := by
  cases p with
  | nul => rfl
  | boo b => cases b <;> rfl
  | i64 x => exact (bl_append _ _).trans rfl
  | u64 n => exact (bl_append _ _).trans rfl
  | str s =>
    show bl (⟨#[80]⟩ ++ escS s ++ ⟨#[0, 0]⟩) = _
    rw [bl_append, bl_append]
    rfl
theorem bl_notB (s : ByteArray) : bl (notB s) = (bl s).map notU := rfl
theorem headS_lt (p : PIt) : headS p < 128 := by
  cases p with
  | boo b => cases b <;> decide
  | _ => simp only [headS]; decide
theorem notU_inj {a b : UInt8} (h : notU a = notU b) : a = b := by
  have := congrArg UInt8.toNat h
  rw [notU_nat, notU_nat] at this
  have h1 := a.toNat_lt
  have h2 := b.toNat_lt
  exact UInt8.toNat_inj.1 (by omega)
theorem fixed8_bl (a : Int) : (bl (fixedS a 8 true)).length = 8 := by rw [bl_length, fixed8_size]
theorem tail_first (p q : PIt) (hh : headS p = headS q) (r : List UInt8) (h : tailS q = tailS p ++ r) : r = [] := by
  have hl := congrArg List.length h
  rw [List.length_append] at hl
  have key : (tailS q).length = (tailS p).length → r = [] := fun e => List.length_eq_zero_iff.1 (by omega)
  cases p with
  | nul =>
    cases q with
    | nul => exact key rfl
    | boo b => cases b <;> exact absurd hh (by simp [headS])
    | i64 y => exact absurd hh (by simp [headS])
    | u64 y => exact absurd hh (by simp [headS])
    | str t => exact absurd hh (by simp [headS])
  | boo a =>
    cases q with
    | nul => cases a <;> exact absurd hh (by simp [headS])
    | boo b => exact key rfl
    | i64 y => cases a <;> exact absurd hh (by simp [headS])
    | u64 y => cases a <;> exact absurd hh (by simp [headS])
    | str t => cases a <;> exact absurd hh (by simp [headS])
  | i64 x =>
    cases q with
    | nul => exact absurd hh (by simp [headS])
    | boo b => cases b <;> exact absurd hh (by simp [headS])
    | i64 y => exact key ((fixed8_bl _).trans (fixed8_bl _).symm)
    | u64 y => exact absurd hh (by simp [headS])
    | str t => exact absurd hh (by simp [headS])
  | u64 x =>
    cases q with
    | nul => exact absurd hh (by simp [headS])
    | boo b => cases b <;> exact absurd hh (by simp [headS])
    | i64 y => exact absurd hh (by simp [headS])
    | u64 y => exact key ((fixed8_bl _).trans (fixed8_bl _).symm)
    | str t => exact absurd hh (by simp [headS])
  | str s =>
    cases q with
    | nul => exact absurd hh (by simp [headS])
    | boo b => cases b <;> exact absurd hh (by simp [headS])
    | i64 y => exact absurd hh (by simp [headS])
    | u64 y => exact absurd hh (by simp [headS])
    | str t =>
      have h2 : escB (bl t) ++ 0 :: 0 :: [] = escB (bl s) ++ 0 :: 0 :: r := by
        have h3 : escB (bl t) ++ [0, 0] = escB (bl s) ++ [0, 0] ++ r := h
        rw [List.append_assoc] at h3
        exact h3
      exact (escB_end _ _ _ _ h2).2.symm
/-- An item's bytes begin with no other item's. -/
theorem item_first (x y : ItX) (r : List UInt8) (h : bl (itemS y.1 y.2) = bl (itemS x.1 x.2) ++ r) : r = [] := by
  obtain ⟨p, d⟩ := x
  obtain ⟨q, e⟩ := y
  have hp := headS_lt p
  have hq := headS_lt q
  have hn : ∀ z : PIt, ¬ notU (headS z) < 128 := fun z => by
    have h1 := headS_lt z
    rw [UInt8.lt_iff_toNat_lt, notU_nat]
    rw [UInt8.lt_iff_toNat_lt] at h1
    have e : (128 : UInt8).toNat = 128 := rfl
    omega
  cases d with
  | false =>
    cases e with
    | false =>
      simp only [itemS, Bool.false_eq_true, if_false] at h
      rw [bl_one, bl_one, List.cons_append, List.cons.injEq] at h
      exact tail_first p q h.1.symm r h.2
    | true =>
      simp only [itemS, Bool.false_eq_true, if_false, if_true] at h
      rw [bl_notB, bl_one, bl_one, List.cons_append, List.map_cons, List.cons.injEq] at h
      exact absurd hp (by rw [← h.1]; exact hn q)
  | true =>
    cases e with
    | false =>
      simp only [itemS, Bool.false_eq_true, if_false, if_true] at h
      rw [bl_notB, bl_one, bl_one, List.map_cons, List.cons_append, List.cons.injEq] at h
      exact absurd hq (by rw [h.1]; exact hn p)
    | true =>
      simp only [itemS, if_true] at h
      rw [bl_notB, bl_notB, bl_one, bl_one, List.map_cons, List.map_cons, List.cons_append, List.cons.injEq] at h
      have h1 := notU_inj h.1
      have h2 : tailS q = tailS p ++ r.map notU := by
        have h3 := congrArg (List.map notU) h.2
        have hid : ∀ l : List UInt8, (l.map notU).map notU = l := fun l => by
          rw [List.map_map]
          refine (List.map_congr_left (g := id) fun b _ => ?_).trans (List.map_id l)
          show notU (notU b) = b
          have hb := b.toNat_lt
          refine UInt8.toNat_inj.1 ?_
          rw [notU_nat, notU_nat]
          omega
        rw [hid, List.map_append, hid] at h3
        exact h3
      have := tail_first p q h1.symm _ h2
      exact List.map_eq_nil_iff.1 this
theorem bytes_first (x y : ItX) (hs : (itemS x.1 x.2).size ≤ (itemS y.1 y.2).size) (h : (itemS y.1 y.2).extract 0 (itemS x.1 x.2).size = itemS x.1 x.2) : itemS x.1 x.2 = itemS y.1 y.2 := by
  have h2 : bl (itemS y.1 y.2) = bl (itemS x.1 x.2) ++ (bl (itemS y.1 y.2)).drop (itemS x.1 x.2).size := by
    have h3 := congrArg bl h
    rw [bl_extract, List.drop_zero] at h3
    rw [← h3]
    exact (List.take_append_drop _ _).symm
  have h4 := item_first x y _ h2
  rw [h4, List.append_nil] at h2
  exact (bl_ext h2).symm
end Go.Proofs.YtbbjnnbabikefaaDoor.My
