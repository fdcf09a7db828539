/- keys.Compare; isoglossref03: sign, compare. -/
import Derived.Test.YtbbjnnbabikefaaDoorKeys8
import Derived.Laws.Cover1
namespace Go.Proofs.YtbbjnnbabikefaaDoor.My
set_option linter.unusedSimpArgs false
set_option linter.unusedVariables false
open Go.RowKit Go.Proofs.YtbbjnnbabikefaaDoorW.PrintWords Go.Proofs.YtbbjnnbabikefaaDoorW.PrintLast Go.Proofs.YtbbjnnbabikefaaDoor.Pm

set_option maxHeartbeats 4000000 in
theorem compare_keys (A B : Option Addr) (n c m d : Nat) (la lb : List ItX) (w : World) (hA : RowF w 1 itC A n la) (hB : RowF w 1 itC B m lb) (hn : n ≤ 1000) (hm : m ≤ 1000) (hla : ∀ x ∈ la, x.1.ok) (hlb : ∀ x ∈ lb, x.1.ok) (hg : Glob w) :
    Calls Tryd.prog 13 #[.slice A n c, .slice B m d] w fun e w' => e = .returned (.tuple #[.int .i64 (cmpT la lb), .int .i64 0]) ∧ Below w.heap.size w w' := by
  have EA := Lib.hid (encode_any A n c la w hA hn hla hg)
  have EB := Lib.hid (fun (w1 : World) (hb : Below w.heap.size w w1) => encode_any B m d lb w1 (hB.below hb) hm hlb (hg.below hb))
  have HC := Lib.hid (cmp_enc hla hlb)
  clear hA hB hla hlb hg
  generalize encL la = X at *
  generalize encL lb = Y at *
  go_enter Tryd.func13, Tryd.ntmps13
  go_wp2_with fail
  refine EA.out.mono ?_
  rintro e w1 ⟨rfl, hb⟩
  have HB := Lib.hid hb; clear hb
  go_wp2_with fail
  refine (EB.out _ HB.out).mono ?_
  rintro e w2 ⟨rfl, hb⟩
  replace HB := Lib.hid (HB.out.trans (hb.mono HB.out.size)); clear hb
  go_wp2_with fail
  refine (compare_any _ _ _).mono ?_
  rintro e w3 ⟨rfl, rfl⟩
  go_wp2
  first | go_ret2 | go_ret
  exact ⟨congrArg (fun x => Ending.returned (.tuple #[.int .i64 x, .int .i64 0])) HC.out, HB.out⟩
theorem sign_any (a b : Bool) (w : World) : Calls Tryd.prog 19 #[.bool a, .bool b] w fun e w' => e = .returned (.int .i64 (signI a b)) ∧ w' = w := by
  cases a
  · cases b
    · go_enter Tryd.func19, Tryd.ntmps19
      go_wp2
      go_ret
      exact ⟨rfl, rfl⟩
    · go_enter Tryd.func19, Tryd.ntmps19
      go_wp2
      go_ret
      exact ⟨rfl, rfl⟩
  · go_enter Tryd.func19, Tryd.ntmps19
    go_wp2
    go_ret
    exact ⟨rfl, rfl⟩
theorem gt_less : ∀ x y : List UInt8, (!(Op.bytesLess x y || x == y)) = Op.bytesLess y x
  | [], [] => rfl
  | [], _ :: _ => rfl
  | _ :: _, [] => rfl
  | a :: x, b :: y => by
    have ih := gt_less x y
    by_cases h1 : a < b
    · have h2 := u8_lt_asymm h1
      have hne : ¬ b = a := fun e => by subst e; exact UInt8.lt_irrefl _ h1
      simp [Op.bytesLess, h1, h2, hne]
    · by_cases h2 : b < a
      · have hne : ¬ a = b := fun e => by subst e; exact UInt8.lt_irrefl _ h2
        simp [Op.bytesLess, h1, h2, hne]
      · have e : a = b := UInt8.le_antisymm (UInt8.not_lt.1 h2) (UInt8.not_lt.1 h1)
        subst e
        rw [← show (!(Op.bytesLess (a :: x) (a :: y) || (a :: x) == (a :: y))) = (!(Op.bytesLess x y || x == y)) by simp [Op.bytesLess, h1]] at ih
        rw [ih]
        simp [Op.bytesLess, h1]
theorem gt_less2 (x y : List UInt8) : (!Op.bytesLess x y && !x == y) = Op.bytesLess y x := by
  rw [← gt_less x y, Bool.not_or]
theorem sign_neg (a b : Bool) : wrap64 (-(signI a b)) = -(signI a b) := by cases a <;> cases b <;> exact wrap64_id (by decide) (by decide)
set_option maxRecDepth 100000 in
set_option maxHeartbeats 4000000 in
theorem rc_tf (k1 k2 u1 u2 : Nat) (i1 i2 : Int) (t1 t2 : ByteArray) (w : World) : Calls Tryd.prog 18 #[.agg #[.int .u8 (k1 : Int), .int .i64 i1, .int .u64 (u1 : Int), .string t1, .bool true], .agg #[.int .u8 (k2 : Int), .int .i64 i2, .int .u64 (u2 : Int), .string t2, .bool false]] w fun e w' => e = .returned (.int .i64 (signI false true)) ∧ Below w.heap.size w w' := by
  have HB := Lib.hid (below_alloc (below_alloc (Below.refl w.heap.size w) (.cells #[.int .u8 (k1 : Int), .int .i64 i1, .int .u64 (u1 : Int), .string t1, .bool true] 24)) (.cells #[.int .u8 (k2 : Int), .int .i64 i2, .int .u64 (u2 : Int), .string t2, .bool false] 24))
  skip
  go_enter Tryd.func18, Tryd.ntmps18
  go_wp2_with fail
  refine (sign_any _ _ _).mono ?_
  rintro e w1 ⟨rfl, rfl⟩
  go_wp2
  go_ret
  exact ⟨by first | rfl | (simp only [hneg]; rfl) | (simp only [hneg0]; rfl) | (simp only [ByteArray.toList_eq]; rfl) | (simp only [ByteArray.toList_eq] at hneg ⊢; simp only [hneg]; rfl), HB.out⟩
set_option maxRecDepth 100000 in
set_option maxHeartbeats 4000000 in
theorem rc_ft (k1 k2 u1 u2 : Nat) (i1 i2 : Int) (t1 t2 : ByteArray) (w : World) : Calls Tryd.prog 18 #[.agg #[.int .u8 (k1 : Int), .int .i64 i1, .int .u64 (u1 : Int), .string t1, .bool false], .agg #[.int .u8 (k2 : Int), .int .i64 i2, .int .u64 (u2 : Int), .string t2, .bool true]] w fun e w' => e = .returned (.int .i64 (signI true false)) ∧ Below w.heap.size w w' := by
  have HB := Lib.hid (below_alloc (below_alloc (Below.refl w.heap.size w) (.cells #[.int .u8 (k1 : Int), .int .i64 i1, .int .u64 (u1 : Int), .string t1, .bool false] 24)) (.cells #[.int .u8 (k2 : Int), .int .i64 i2, .int .u64 (u2 : Int), .string t2, .bool true] 24))
  skip
  go_enter Tryd.func18, Tryd.ntmps18
  go_wp2_with fail
  refine (sign_any _ _ _).mono ?_
  rintro e w1 ⟨rfl, rfl⟩
  go_wp2
  go_ret
  exact ⟨by first | rfl | (simp only [hneg]; rfl) | (simp only [hneg0]; rfl) | (simp only [ByteArray.toList_eq]; rfl) | (simp only [ByteArray.toList_eq] at hneg ⊢; simp only [hneg]; rfl), HB.out⟩
set_option maxRecDepth 100000 in
set_option maxHeartbeats 4000000 in
theorem rc_ltp (k1 k2 u1 u2 : Nat) (i1 i2 : Int) (t1 t2 : ByteArray) (w : World) (h : k1 % 6 < k2 % 6) : Calls Tryd.prog 18 #[.agg #[.int .u8 (k1 : Int), .int .i64 i1, .int .u64 (u1 : Int), .string t1, .bool false], .agg #[.int .u8 (k2 : Int), .int .i64 i2, .int .u64 (u2 : Int), .string t2, .bool false]] w fun e w' => e = .returned (.int .i64 (-1)) ∧ Below w.heap.size w w' := by
  have HB := Lib.hid (below_alloc (below_alloc (Below.refl w.heap.size w) (.cells #[.int .u8 (k1 : Int), .int .i64 i1, .int .u64 (u1 : Int), .string t1, .bool false] 24)) (.cells #[.int .u8 (k2 : Int), .int .i64 i2, .int .u64 (u2 : Int), .string t2, .bool false] 24))
  have x1 : (k1 : Int) % 6 = ((k1 % 6 : Nat) : Int) := by omega
  have y1 : Int.tmod (k1 : Int) 6 = ((k1 % 6 : Nat) : Int) := by rw [Int.tmod_eq_emod_of_nonneg (by omega)]; exact x1
  have x2 : (k2 : Int) % 6 = ((k2 % 6 : Nat) : Int) := by omega
  have y2 : Int.tmod (k2 : Int) 6 = ((k2 % 6 : Nat) : Int) := by rw [Int.tmod_eq_emod_of_nonneg (by omega)]; exact x2
  generalize k1 % 6 = r1 at *
  generalize k2 % 6 = r2 at *
  have z1 : decide ((r1 : Int) < (r2 : Int)) = true := by simp; omega
  have z2 : decide ((r2 : Int) < (r1 : Int)) = false := by simp; omega
  have z3 : decide (r1 < r2) = true := by simp; omega
  have z4 : decide (r2 < r1) = false := by simp; omega
  have hneg := sign_neg true false
  clear h
  go_enter Tryd.func18, Tryd.ntmps18
  go_wp2_with fail
  refine (sign_any _ _ _).mono ?_
  rintro e w1 ⟨rfl, rfl⟩
  go_wp2
  go_ret
  exact ⟨by first | rfl | (simp only [hneg]; rfl) | (simp only [hneg0]; rfl) | (simp only [ByteArray.toList_eq]; rfl) | (simp only [ByteArray.toList_eq] at hneg ⊢; simp only [hneg]; rfl), HB.out⟩
set_option maxRecDepth 100000 in
set_option maxHeartbeats 4000000 in
theorem rc_gtp (k1 k2 u1 u2 : Nat) (i1 i2 : Int) (t1 t2 : ByteArray) (w : World) (h : k2 % 6 < k1 % 6) : Calls Tryd.prog 18 #[.agg #[.int .u8 (k1 : Int), .int .i64 i1, .int .u64 (u1 : Int), .string t1, .bool false], .agg #[.int .u8 (k2 : Int), .int .i64 i2, .int .u64 (u2 : Int), .string t2, .bool false]] w fun e w' => e = .returned (.int .i64 (1)) ∧ Below w.heap.size w w' := by
  have HB := Lib.hid (below_alloc (below_alloc (Below.refl w.heap.size w) (.cells #[.int .u8 (k1 : Int), .int .i64 i1, .int .u64 (u1 : Int), .string t1, .bool false] 24)) (.cells #[.int .u8 (k2 : Int), .int .i64 i2, .int .u64 (u2 : Int), .string t2, .bool false] 24))
  have x1 : (k1 : Int) % 6 = ((k1 % 6 : Nat) : Int) := by omega
  have y1 : Int.tmod (k1 : Int) 6 = ((k1 % 6 : Nat) : Int) := by rw [Int.tmod_eq_emod_of_nonneg (by omega)]; exact x1
  have x2 : (k2 : Int) % 6 = ((k2 % 6 : Nat) : Int) := by omega
  have y2 : Int.tmod (k2 : Int) 6 = ((k2 % 6 : Nat) : Int) := by rw [Int.tmod_eq_emod_of_nonneg (by omega)]; exact x2
  generalize k1 % 6 = r1 at *
  generalize k2 % 6 = r2 at *
  have z1 : decide ((r1 : Int) < (r2 : Int)) = false := by simp; omega
  have z2 : decide ((r2 : Int) < (r1 : Int)) = true := by simp; omega
  have z3 : decide (r1 < r2) = false := by simp; omega
  have z4 : decide (r2 < r1) = true := by simp; omega
  have hneg := sign_neg false true
  clear h
  go_enter Tryd.func18, Tryd.ntmps18
  go_wp2_with fail
  refine (sign_any _ _ _).mono ?_
  rintro e w1 ⟨rfl, rfl⟩
  go_wp2
  go_ret
  exact ⟨by first | rfl | (simp only [hneg]; rfl) | (simp only [hneg0]; rfl) | (simp only [ByteArray.toList_eq]; rfl) | (simp only [ByteArray.toList_eq] at hneg ⊢; simp only [hneg]; rfl), HB.out⟩
set_option maxRecDepth 100000 in
set_option maxHeartbeats 4000000 in
theorem rc_eq0p (k1 k2 u1 u2 : Nat) (i1 i2 : Int) (t1 t2 : ByteArray) (w : World) (h1 : k1 % 6 = 0) (h2 : k2 % 6 = 0) : Calls Tryd.prog 18 #[.agg #[.int .u8 (k1 : Int), .int .i64 i1, .int .u64 (u1 : Int), .string t1, .bool false], .agg #[.int .u8 (k2 : Int), .int .i64 i2, .int .u64 (u2 : Int), .string t2, .bool false]] w fun e w' => e = .returned (.int .i64 (0)) ∧ Below w.heap.size w w' := by
  have HB := Lib.hid (below_alloc (below_alloc (Below.refl w.heap.size w) (.cells #[.int .u8 (k1 : Int), .int .i64 i1, .int .u64 (u1 : Int), .string t1, .bool false] 24)) (.cells #[.int .u8 (k2 : Int), .int .i64 i2, .int .u64 (u2 : Int), .string t2, .bool false] 24))
  have x1 : (k1 : Int) % 6 = 0 := by omega
  have y1 : Int.tmod (k1 : Int) 6 = 0 := by rw [Int.tmod_eq_emod_of_nonneg (by omega)]; exact x1
  have x2 : (k2 : Int) % 6 = 0 := by omega
  have y2 : Int.tmod (k2 : Int) 6 = 0 := by rw [Int.tmod_eq_emod_of_nonneg (by omega)]; exact x2
  clear h1 h2
  have hneg0 := sign_neg false false
  go_enter Tryd.func18, Tryd.ntmps18
  go_wp2_with fail
  refine (sign_any _ _ _).mono ?_
  rintro e w1 ⟨rfl, rfl⟩
  go_wp2
  go_ret
  exact ⟨by first | rfl | (simp only [hneg]; rfl) | (simp only [hneg0]; rfl) | (simp only [ByteArray.toList_eq]; rfl) | (simp only [ByteArray.toList_eq] at hneg ⊢; simp only [hneg]; rfl), HB.out⟩
set_option maxRecDepth 100000 in
set_option maxHeartbeats 4000000 in
theorem rc_eq1p (k1 k2 u1 u2 : Nat) (i1 i2 : Int) (t1 t2 : ByteArray) (w : World) (h1 : k1 % 6 = 1) (h2 : k2 % 6 = 1) : Calls Tryd.prog 18 #[.agg #[.int .u8 (k1 : Int), .int .i64 i1, .int .u64 (u1 : Int), .string t1, .bool false], .agg #[.int .u8 (k2 : Int), .int .i64 i2, .int .u64 (u2 : Int), .string t2, .bool false]] w fun e w' => e = .returned (.int .i64 (0)) ∧ Below w.heap.size w w' := by
  have HB := Lib.hid (below_alloc (below_alloc (Below.refl w.heap.size w) (.cells #[.int .u8 (k1 : Int), .int .i64 i1, .int .u64 (u1 : Int), .string t1, .bool false] 24)) (.cells #[.int .u8 (k2 : Int), .int .i64 i2, .int .u64 (u2 : Int), .string t2, .bool false] 24))
  have x1 : (k1 : Int) % 6 = 1 := by omega
  have y1 : Int.tmod (k1 : Int) 6 = 1 := by rw [Int.tmod_eq_emod_of_nonneg (by omega)]; exact x1
  have x2 : (k2 : Int) % 6 = 1 := by omega
  have y2 : Int.tmod (k2 : Int) 6 = 1 := by rw [Int.tmod_eq_emod_of_nonneg (by omega)]; exact x2
  clear h1 h2
  have hneg0 := sign_neg false false
  go_enter Tryd.func18, Tryd.ntmps18
  go_wp2_with fail
  refine (sign_any _ _ _).mono ?_
  rintro e w1 ⟨rfl, rfl⟩
  go_wp2
  go_ret
  exact ⟨by first | rfl | (simp only [hneg]; rfl) | (simp only [hneg0]; rfl) | (simp only [ByteArray.toList_eq]; rfl) | (simp only [ByteArray.toList_eq] at hneg ⊢; simp only [hneg]; rfl), HB.out⟩
set_option maxRecDepth 100000 in
set_option maxHeartbeats 4000000 in
theorem rc_eq2p (k1 k2 u1 u2 : Nat) (i1 i2 : Int) (t1 t2 : ByteArray) (w : World) (h1 : k1 % 6 = 2) (h2 : k2 % 6 = 2) : Calls Tryd.prog 18 #[.agg #[.int .u8 (k1 : Int), .int .i64 i1, .int .u64 (u1 : Int), .string t1, .bool false], .agg #[.int .u8 (k2 : Int), .int .i64 i2, .int .u64 (u2 : Int), .string t2, .bool false]] w fun e w' => e = .returned (.int .i64 (0)) ∧ Below w.heap.size w w' := by
  have HB := Lib.hid (below_alloc (below_alloc (Below.refl w.heap.size w) (.cells #[.int .u8 (k1 : Int), .int .i64 i1, .int .u64 (u1 : Int), .string t1, .bool false] 24)) (.cells #[.int .u8 (k2 : Int), .int .i64 i2, .int .u64 (u2 : Int), .string t2, .bool false] 24))
  have x1 : (k1 : Int) % 6 = 2 := by omega
  have y1 : Int.tmod (k1 : Int) 6 = 2 := by rw [Int.tmod_eq_emod_of_nonneg (by omega)]; exact x1
  have x2 : (k2 : Int) % 6 = 2 := by omega
  have y2 : Int.tmod (k2 : Int) 6 = 2 := by rw [Int.tmod_eq_emod_of_nonneg (by omega)]; exact x2
  clear h1 h2
  have hneg0 := sign_neg false false
  go_enter Tryd.func18, Tryd.ntmps18
  go_wp2_with fail
  refine (sign_any _ _ _).mono ?_
  rintro e w1 ⟨rfl, rfl⟩
  go_wp2
  go_ret
  exact ⟨by first | rfl | (simp only [hneg]; rfl) | (simp only [hneg0]; rfl) | (simp only [ByteArray.toList_eq]; rfl) | (simp only [ByteArray.toList_eq] at hneg ⊢; simp only [hneg]; rfl), HB.out⟩
set_option maxRecDepth 100000 in
set_option maxHeartbeats 4000000 in
theorem rc_eq3p (k1 k2 u1 u2 : Nat) (i1 i2 : Int) (t1 t2 : ByteArray) (w : World) (h1 : k1 % 6 = 3) (h2 : k2 % 6 = 3) : Calls Tryd.prog 18 #[.agg #[.int .u8 (k1 : Int), .int .i64 i1, .int .u64 (u1 : Int), .string t1, .bool false], .agg #[.int .u8 (k2 : Int), .int .i64 i2, .int .u64 (u2 : Int), .string t2, .bool false]] w fun e w' => e = .returned (.int .i64 (signI (decide (i1 < i2)) (decide (i2 < i1)))) ∧ Below w.heap.size w w' := by
  have HB := Lib.hid (below_alloc (below_alloc (Below.refl w.heap.size w) (.cells #[.int .u8 (k1 : Int), .int .i64 i1, .int .u64 (u1 : Int), .string t1, .bool false] 24)) (.cells #[.int .u8 (k2 : Int), .int .i64 i2, .int .u64 (u2 : Int), .string t2, .bool false] 24))
  have x1 : (k1 : Int) % 6 = 3 := by omega
  have y1 : Int.tmod (k1 : Int) 6 = 3 := by rw [Int.tmod_eq_emod_of_nonneg (by omega)]; exact x1
  have x2 : (k2 : Int) % 6 = 3 := by omega
  have y2 : Int.tmod (k2 : Int) 6 = 3 := by rw [Int.tmod_eq_emod_of_nonneg (by omega)]; exact x2
  clear h1 h2
  have hneg0 := sign_neg false false
  go_enter Tryd.func18, Tryd.ntmps18
  go_wp2_with fail
  refine (sign_any _ _ _).mono ?_
  rintro e w1 ⟨rfl, rfl⟩
  go_wp2_with fail
  refine (sign_any _ _ _).mono ?_
  rintro e w1 ⟨rfl, rfl⟩
  have hneg := sign_neg (decide (i1 < i2)) (decide (i2 < i1))
  go_wp2
  go_ret
  exact ⟨by first | rfl | (simp only [hneg]; rfl) | (simp only [hneg0]; rfl) | (simp only [ByteArray.toList_eq]; rfl) | (simp only [ByteArray.toList_eq] at hneg ⊢; simp only [hneg]; rfl), HB.out⟩
set_option maxRecDepth 100000 in
set_option maxHeartbeats 4000000 in
theorem rc_eq4p (k1 k2 u1 u2 : Nat) (i1 i2 : Int) (t1 t2 : ByteArray) (w : World) (h1 : k1 % 6 = 4) (h2 : k2 % 6 = 4) : Calls Tryd.prog 18 #[.agg #[.int .u8 (k1 : Int), .int .i64 i1, .int .u64 (u1 : Int), .string t1, .bool false], .agg #[.int .u8 (k2 : Int), .int .i64 i2, .int .u64 (u2 : Int), .string t2, .bool false]] w fun e w' => e = .returned (.int .i64 (signI (decide (u1 < u2)) (decide (u2 < u1)))) ∧ Below w.heap.size w w' := by
  have HB := Lib.hid (below_alloc (below_alloc (Below.refl w.heap.size w) (.cells #[.int .u8 (k1 : Int), .int .i64 i1, .int .u64 (u1 : Int), .string t1, .bool false] 24)) (.cells #[.int .u8 (k2 : Int), .int .i64 i2, .int .u64 (u2 : Int), .string t2, .bool false] 24))
  have x1 : (k1 : Int) % 6 = 4 := by omega
  have y1 : Int.tmod (k1 : Int) 6 = 4 := by rw [Int.tmod_eq_emod_of_nonneg (by omega)]; exact x1
  have x2 : (k2 : Int) % 6 = 4 := by omega
  have y2 : Int.tmod (k2 : Int) 6 = 4 := by rw [Int.tmod_eq_emod_of_nonneg (by omega)]; exact x2
  clear h1 h2
  have hneg0 := sign_neg false false
  go_enter Tryd.func18, Tryd.ntmps18
  go_wp2_with fail
  refine (sign_any _ _ _).mono ?_
  rintro e w1 ⟨rfl, rfl⟩
  go_wp2_with fail
  refine (sign_any _ _ _).mono ?_
  rintro e w1 ⟨rfl, rfl⟩
  have hneg := sign_neg (decide (u1 < u2)) (decide (u2 < u1))
  go_wp2
  go_ret
  exact ⟨by first | rfl | (simp only [hneg]; rfl) | (simp only [hneg0]; rfl) | (simp only [ByteArray.toList_eq]; rfl) | (simp only [ByteArray.toList_eq] at hneg ⊢; simp only [hneg]; rfl), HB.out⟩
set_option maxRecDepth 100000 in
set_option maxHeartbeats 4000000 in
theorem rc_eq5p (k1 k2 u1 u2 : Nat) (i1 i2 : Int) (t1 t2 : ByteArray) (w : World) (h1 : k1 % 6 = 5) (h2 : k2 % 6 = 5) : Calls Tryd.prog 18 #[.agg #[.int .u8 (k1 : Int), .int .i64 i1, .int .u64 (u1 : Int), .string t1, .bool false], .agg #[.int .u8 (k2 : Int), .int .i64 i2, .int .u64 (u2 : Int), .string t2, .bool false]] w fun e w' => e = .returned (.int .i64 (signI (Op.bytesLess t1.toList t2.toList) (!Op.bytesLess t1.toList t2.toList && !t1.toList == t2.toList))) ∧ Below w.heap.size w w' := by
  have HB := Lib.hid (below_alloc (below_alloc (Below.refl w.heap.size w) (.cells #[.int .u8 (k1 : Int), .int .i64 i1, .int .u64 (u1 : Int), .string t1, .bool false] 24)) (.cells #[.int .u8 (k2 : Int), .int .i64 i2, .int .u64 (u2 : Int), .string t2, .bool false] 24))
  have x1 : (k1 : Int) % 6 = 5 := by omega
  have y1 : Int.tmod (k1 : Int) 6 = 5 := by rw [Int.tmod_eq_emod_of_nonneg (by omega)]; exact x1
  have x2 : (k2 : Int) % 6 = 5 := by omega
  have y2 : Int.tmod (k2 : Int) 6 = 5 := by rw [Int.tmod_eq_emod_of_nonneg (by omega)]; exact x2
  clear h1 h2
  have hneg0 := sign_neg false false
  go_enter Tryd.func18, Tryd.ntmps18
  go_wp2_with fail
  refine (sign_any _ _ _).mono ?_
  rintro e w1 ⟨rfl, rfl⟩
  go_wp2_with fail
  refine (sign_any _ _ _).mono ?_
  rintro e w1 ⟨rfl, rfl⟩
  have hneg := sign_neg (Op.bytesLess t1.toList t2.toList) (!Op.bytesLess t1.toList t2.toList && !t1.toList == t2.toList)
  go_wp2
  go_ret
  exact ⟨by first | rfl | (simp only [hneg]; rfl) | (simp only [hneg0]; rfl) | (simp only [ByteArray.toList_eq]; rfl) | (simp only [ByteArray.toList_eq] at hneg ⊢; simp only [hneg]; rfl), HB.out⟩
set_option maxRecDepth 100000 in
set_option maxHeartbeats 4000000 in
theorem rc_ltn (k1 k2 u1 u2 : Nat) (i1 i2 : Int) (t1 t2 : ByteArray) (w : World) (h : k1 % 6 < k2 % 6) : Calls Tryd.prog 18 #[.agg #[.int .u8 (k1 : Int), .int .i64 i1, .int .u64 (u1 : Int), .string t1, .bool true], .agg #[.int .u8 (k2 : Int), .int .i64 i2, .int .u64 (u2 : Int), .string t2, .bool true]] w fun e w' => e = .returned (.int .i64 (1)) ∧ Below w.heap.size w w' := by
  have HB := Lib.hid (below_alloc (below_alloc (Below.refl w.heap.size w) (.cells #[.int .u8 (k1 : Int), .int .i64 i1, .int .u64 (u1 : Int), .string t1, .bool true] 24)) (.cells #[.int .u8 (k2 : Int), .int .i64 i2, .int .u64 (u2 : Int), .string t2, .bool true] 24))
  have x1 : (k1 : Int) % 6 = ((k1 % 6 : Nat) : Int) := by omega
  have y1 : Int.tmod (k1 : Int) 6 = ((k1 % 6 : Nat) : Int) := by rw [Int.tmod_eq_emod_of_nonneg (by omega)]; exact x1
  have x2 : (k2 : Int) % 6 = ((k2 % 6 : Nat) : Int) := by omega
  have y2 : Int.tmod (k2 : Int) 6 = ((k2 % 6 : Nat) : Int) := by rw [Int.tmod_eq_emod_of_nonneg (by omega)]; exact x2
  generalize k1 % 6 = r1 at *
  generalize k2 % 6 = r2 at *
  have z1 : decide ((r1 : Int) < (r2 : Int)) = true := by simp; omega
  have z2 : decide ((r2 : Int) < (r1 : Int)) = false := by simp; omega
  have z3 : decide (r1 < r2) = true := by simp; omega
  have z4 : decide (r2 < r1) = false := by simp; omega
  have hneg := sign_neg true false
  clear h
  go_enter Tryd.func18, Tryd.ntmps18
  go_wp2_with fail
  refine (sign_any _ _ _).mono ?_
  rintro e w1 ⟨rfl, rfl⟩
  go_wp2
  go_ret
  exact ⟨by first | rfl | (simp only [hneg]; rfl) | (simp only [hneg0]; rfl) | (simp only [ByteArray.toList_eq]; rfl) | (simp only [ByteArray.toList_eq] at hneg ⊢; simp only [hneg]; rfl), HB.out⟩
set_option maxRecDepth 100000 in
set_option maxHeartbeats 4000000 in
theorem rc_gtn (k1 k2 u1 u2 : Nat) (i1 i2 : Int) (t1 t2 : ByteArray) (w : World) (h : k2 % 6 < k1 % 6) : Calls Tryd.prog 18 #[.agg #[.int .u8 (k1 : Int), .int .i64 i1, .int .u64 (u1 : Int), .string t1, .bool true], .agg #[.int .u8 (k2 : Int), .int .i64 i2, .int .u64 (u2 : Int), .string t2, .bool true]] w fun e w' => e = .returned (.int .i64 (-1)) ∧ Below w.heap.size w w' := by
  have HB := Lib.hid (below_alloc (below_alloc (Below.refl w.heap.size w) (.cells #[.int .u8 (k1 : Int), .int .i64 i1, .int .u64 (u1 : Int), .string t1, .bool true] 24)) (.cells #[.int .u8 (k2 : Int), .int .i64 i2, .int .u64 (u2 : Int), .string t2, .bool true] 24))
  have x1 : (k1 : Int) % 6 = ((k1 % 6 : Nat) : Int) := by omega
  have y1 : Int.tmod (k1 : Int) 6 = ((k1 % 6 : Nat) : Int) := by rw [Int.tmod_eq_emod_of_nonneg (by omega)]; exact x1
  have x2 : (k2 : Int) % 6 = ((k2 % 6 : Nat) : Int) := by omega
  have y2 : Int.tmod (k2 : Int) 6 = ((k2 % 6 : Nat) : Int) := by rw [Int.tmod_eq_emod_of_nonneg (by omega)]; exact x2
  generalize k1 % 6 = r1 at *
  generalize k2 % 6 = r2 at *
  have z1 : decide ((r1 : Int) < (r2 : Int)) = false := by simp; omega
  have z2 : decide ((r2 : Int) < (r1 : Int)) = true := by simp; omega
  have z3 : decide (r1 < r2) = false := by simp; omega
  have z4 : decide (r2 < r1) = true := by simp; omega
  have hneg := sign_neg false true
  clear h
  go_enter Tryd.func18, Tryd.ntmps18
  go_wp2_with fail
  refine (sign_any _ _ _).mono ?_
  rintro e w1 ⟨rfl, rfl⟩
  go_wp2
  go_ret
  exact ⟨by first | rfl | (simp only [hneg]; rfl) | (simp only [hneg0]; rfl) | (simp only [ByteArray.toList_eq]; rfl) | (simp only [ByteArray.toList_eq] at hneg ⊢; simp only [hneg]; rfl), HB.out⟩
set_option maxRecDepth 100000 in
set_option maxHeartbeats 4000000 in
theorem rc_eq0n (k1 k2 u1 u2 : Nat) (i1 i2 : Int) (t1 t2 : ByteArray) (w : World) (h1 : k1 % 6 = 0) (h2 : k2 % 6 = 0) : Calls Tryd.prog 18 #[.agg #[.int .u8 (k1 : Int), .int .i64 i1, .int .u64 (u1 : Int), .string t1, .bool true], .agg #[.int .u8 (k2 : Int), .int .i64 i2, .int .u64 (u2 : Int), .string t2, .bool true]] w fun e w' => e = .returned (.int .i64 (0)) ∧ Below w.heap.size w w' := by
  have HB := Lib.hid (below_alloc (below_alloc (Below.refl w.heap.size w) (.cells #[.int .u8 (k1 : Int), .int .i64 i1, .int .u64 (u1 : Int), .string t1, .bool true] 24)) (.cells #[.int .u8 (k2 : Int), .int .i64 i2, .int .u64 (u2 : Int), .string t2, .bool true] 24))
  have x1 : (k1 : Int) % 6 = 0 := by omega
  have y1 : Int.tmod (k1 : Int) 6 = 0 := by rw [Int.tmod_eq_emod_of_nonneg (by omega)]; exact x1
  have x2 : (k2 : Int) % 6 = 0 := by omega
  have y2 : Int.tmod (k2 : Int) 6 = 0 := by rw [Int.tmod_eq_emod_of_nonneg (by omega)]; exact x2
  clear h1 h2
  have hneg0 := sign_neg false false
  go_enter Tryd.func18, Tryd.ntmps18
  go_wp2_with fail
  refine (sign_any _ _ _).mono ?_
  rintro e w1 ⟨rfl, rfl⟩
  go_wp2
  go_ret
  exact ⟨by first | rfl | (simp only [hneg]; rfl) | (simp only [hneg0]; rfl) | (simp only [ByteArray.toList_eq]; rfl) | (simp only [ByteArray.toList_eq] at hneg ⊢; simp only [hneg]; rfl), HB.out⟩
set_option maxRecDepth 100000 in
set_option maxHeartbeats 4000000 in
theorem rc_eq1n (k1 k2 u1 u2 : Nat) (i1 i2 : Int) (t1 t2 : ByteArray) (w : World) (h1 : k1 % 6 = 1) (h2 : k2 % 6 = 1) : Calls Tryd.prog 18 #[.agg #[.int .u8 (k1 : Int), .int .i64 i1, .int .u64 (u1 : Int), .string t1, .bool true], .agg #[.int .u8 (k2 : Int), .int .i64 i2, .int .u64 (u2 : Int), .string t2, .bool true]] w fun e w' => e = .returned (.int .i64 (0)) ∧ Below w.heap.size w w' := by
  have HB := Lib.hid (below_alloc (below_alloc (Below.refl w.heap.size w) (.cells #[.int .u8 (k1 : Int), .int .i64 i1, .int .u64 (u1 : Int), .string t1, .bool true] 24)) (.cells #[.int .u8 (k2 : Int), .int .i64 i2, .int .u64 (u2 : Int), .string t2, .bool true] 24))
  have x1 : (k1 : Int) % 6 = 1 := by omega
  have y1 : Int.tmod (k1 : Int) 6 = 1 := by rw [Int.tmod_eq_emod_of_nonneg (by omega)]; exact x1
  have x2 : (k2 : Int) % 6 = 1 := by omega
  have y2 : Int.tmod (k2 : Int) 6 = 1 := by rw [Int.tmod_eq_emod_of_nonneg (by omega)]; exact x2
  clear h1 h2
  have hneg0 := sign_neg false false
  go_enter Tryd.func18, Tryd.ntmps18
  go_wp2_with fail
  refine (sign_any _ _ _).mono ?_
  rintro e w1 ⟨rfl, rfl⟩
  go_wp2
  go_ret
  exact ⟨by first | rfl | (simp only [hneg]; rfl) | (simp only [hneg0]; rfl) | (simp only [ByteArray.toList_eq]; rfl) | (simp only [ByteArray.toList_eq] at hneg ⊢; simp only [hneg]; rfl), HB.out⟩
set_option maxRecDepth 100000 in
set_option maxHeartbeats 4000000 in
theorem rc_eq2n (k1 k2 u1 u2 : Nat) (i1 i2 : Int) (t1 t2 : ByteArray) (w : World) (h1 : k1 % 6 = 2) (h2 : k2 % 6 = 2) : Calls Tryd.prog 18 #[.agg #[.int .u8 (k1 : Int), .int .i64 i1, .int .u64 (u1 : Int), .string t1, .bool true], .agg #[.int .u8 (k2 : Int), .int .i64 i2, .int .u64 (u2 : Int), .string t2, .bool true]] w fun e w' => e = .returned (.int .i64 (0)) ∧ Below w.heap.size w w' := by
  have HB := Lib.hid (below_alloc (below_alloc (Below.refl w.heap.size w) (.cells #[.int .u8 (k1 : Int), .int .i64 i1, .int .u64 (u1 : Int), .string t1, .bool true] 24)) (.cells #[.int .u8 (k2 : Int), .int .i64 i2, .int .u64 (u2 : Int), .string t2, .bool true] 24))
  have x1 : (k1 : Int) % 6 = 2 := by omega
  have y1 : Int.tmod (k1 : Int) 6 = 2 := by rw [Int.tmod_eq_emod_of_nonneg (by omega)]; exact x1
  have x2 : (k2 : Int) % 6 = 2 := by omega
  have y2 : Int.tmod (k2 : Int) 6 = 2 := by rw [Int.tmod_eq_emod_of_nonneg (by omega)]; exact x2
  clear h1 h2
  have hneg0 := sign_neg false false
  go_enter Tryd.func18, Tryd.ntmps18
  go_wp2_with fail
  refine (sign_any _ _ _).mono ?_
  rintro e w1 ⟨rfl, rfl⟩
  go_wp2
  go_ret
  exact ⟨by first | rfl | (simp only [hneg]; rfl) | (simp only [hneg0]; rfl) | (simp only [ByteArray.toList_eq]; rfl) | (simp only [ByteArray.toList_eq] at hneg ⊢; simp only [hneg]; rfl), HB.out⟩
set_option maxRecDepth 100000 in
set_option maxHeartbeats 4000000 in
theorem rc_eq3n (k1 k2 u1 u2 : Nat) (i1 i2 : Int) (t1 t2 : ByteArray) (w : World) (h1 : k1 % 6 = 3) (h2 : k2 % 6 = 3) : Calls Tryd.prog 18 #[.agg #[.int .u8 (k1 : Int), .int .i64 i1, .int .u64 (u1 : Int), .string t1, .bool true], .agg #[.int .u8 (k2 : Int), .int .i64 i2, .int .u64 (u2 : Int), .string t2, .bool true]] w fun e w' => e = .returned (.int .i64 (-(signI (decide (i1 < i2)) (decide (i2 < i1))))) ∧ Below w.heap.size w w' := by
  have HB := Lib.hid (below_alloc (below_alloc (Below.refl w.heap.size w) (.cells #[.int .u8 (k1 : Int), .int .i64 i1, .int .u64 (u1 : Int), .string t1, .bool true] 24)) (.cells #[.int .u8 (k2 : Int), .int .i64 i2, .int .u64 (u2 : Int), .string t2, .bool true] 24))
  have x1 : (k1 : Int) % 6 = 3 := by omega
  have y1 : Int.tmod (k1 : Int) 6 = 3 := by rw [Int.tmod_eq_emod_of_nonneg (by omega)]; exact x1
  have x2 : (k2 : Int) % 6 = 3 := by omega
  have y2 : Int.tmod (k2 : Int) 6 = 3 := by rw [Int.tmod_eq_emod_of_nonneg (by omega)]; exact x2
  clear h1 h2
  have hneg0 := sign_neg false false
  go_enter Tryd.func18, Tryd.ntmps18
  go_wp2_with fail
  refine (sign_any _ _ _).mono ?_
  rintro e w1 ⟨rfl, rfl⟩
  go_wp2_with fail
  refine (sign_any _ _ _).mono ?_
  rintro e w1 ⟨rfl, rfl⟩
  have hneg := sign_neg (decide (i1 < i2)) (decide (i2 < i1))
  go_wp2
  go_ret
  exact ⟨by first | rfl | (simp only [hneg]; rfl) | (simp only [hneg0]; rfl) | (simp only [ByteArray.toList_eq]; rfl) | (simp only [ByteArray.toList_eq] at hneg ⊢; simp only [hneg]; rfl), HB.out⟩
set_option maxRecDepth 100000 in
set_option maxHeartbeats 4000000 in
theorem rc_eq4n (k1 k2 u1 u2 : Nat) (i1 i2 : Int) (t1 t2 : ByteArray) (w : World) (h1 : k1 % 6 = 4) (h2 : k2 % 6 = 4) : Calls Tryd.prog 18 #[.agg #[.int .u8 (k1 : Int), .int .i64 i1, .int .u64 (u1 : Int), .string t1, .bool true], .agg #[.int .u8 (k2 : Int), .int .i64 i2, .int .u64 (u2 : Int), .string t2, .bool true]] w fun e w' => e = .returned (.int .i64 (-(signI (decide (u1 < u2)) (decide (u2 < u1))))) ∧ Below w.heap.size w w' := by
  have HB := Lib.hid (below_alloc (below_alloc (Below.refl w.heap.size w) (.cells #[.int .u8 (k1 : Int), .int .i64 i1, .int .u64 (u1 : Int), .string t1, .bool true] 24)) (.cells #[.int .u8 (k2 : Int), .int .i64 i2, .int .u64 (u2 : Int), .string t2, .bool true] 24))
  have x1 : (k1 : Int) % 6 = 4 := by omega
  have y1 : Int.tmod (k1 : Int) 6 = 4 := by rw [Int.tmod_eq_emod_of_nonneg (by omega)]; exact x1
  have x2 : (k2 : Int) % 6 = 4 := by omega
  have y2 : Int.tmod (k2 : Int) 6 = 4 := by rw [Int.tmod_eq_emod_of_nonneg (by omega)]; exact x2
  clear h1 h2
  have hneg0 := sign_neg false false
  go_enter Tryd.func18, Tryd.ntmps18
  go_wp2_with fail
  refine (sign_any _ _ _).mono ?_
  rintro e w1 ⟨rfl, rfl⟩
  go_wp2_with fail
  refine (sign_any _ _ _).mono ?_
  rintro e w1 ⟨rfl, rfl⟩
  have hneg := sign_neg (decide (u1 < u2)) (decide (u2 < u1))
  go_wp2
  go_ret
  exact ⟨by first | rfl | (simp only [hneg]; rfl) | (simp only [hneg0]; rfl) | (simp only [ByteArray.toList_eq]; rfl) | (simp only [ByteArray.toList_eq] at hneg ⊢; simp only [hneg]; rfl), HB.out⟩
set_option maxRecDepth 100000 in
set_option maxHeartbeats 4000000 in
theorem rc_eq5n (k1 k2 u1 u2 : Nat) (i1 i2 : Int) (t1 t2 : ByteArray) (w : World) (h1 : k1 % 6 = 5) (h2 : k2 % 6 = 5) : Calls Tryd.prog 18 #[.agg #[.int .u8 (k1 : Int), .int .i64 i1, .int .u64 (u1 : Int), .string t1, .bool true], .agg #[.int .u8 (k2 : Int), .int .i64 i2, .int .u64 (u2 : Int), .string t2, .bool true]] w fun e w' => e = .returned (.int .i64 (-(signI (Op.bytesLess t1.toList t2.toList) (!Op.bytesLess t1.toList t2.toList && !t1.toList == t2.toList)))) ∧ Below w.heap.size w w' := by
  have HB := Lib.hid (below_alloc (below_alloc (Below.refl w.heap.size w) (.cells #[.int .u8 (k1 : Int), .int .i64 i1, .int .u64 (u1 : Int), .string t1, .bool true] 24)) (.cells #[.int .u8 (k2 : Int), .int .i64 i2, .int .u64 (u2 : Int), .string t2, .bool true] 24))
  have x1 : (k1 : Int) % 6 = 5 := by omega
  have y1 : Int.tmod (k1 : Int) 6 = 5 := by rw [Int.tmod_eq_emod_of_nonneg (by omega)]; exact x1
  have x2 : (k2 : Int) % 6 = 5 := by omega
  have y2 : Int.tmod (k2 : Int) 6 = 5 := by rw [Int.tmod_eq_emod_of_nonneg (by omega)]; exact x2
  clear h1 h2
  have hneg0 := sign_neg false false
  go_enter Tryd.func18, Tryd.ntmps18
  go_wp2_with fail
  refine (sign_any _ _ _).mono ?_
  rintro e w1 ⟨rfl, rfl⟩
  go_wp2_with fail
  refine (sign_any _ _ _).mono ?_
  rintro e w1 ⟨rfl, rfl⟩
  have hneg := sign_neg (Op.bytesLess t1.toList t2.toList) (!Op.bytesLess t1.toList t2.toList && !t1.toList == t2.toList)
  go_wp2
  go_ret
  exact ⟨by first | rfl | (simp only [hneg]; rfl) | (simp only [hneg0]; rfl) | (simp only [ByteArray.toList_eq]; rfl) | (simp only [ByteArray.toList_eq] at hneg ⊢; simp only [hneg]; rfl), HB.out⟩
end Go.Proofs.YtbbjnnbabikefaaDoor.My
