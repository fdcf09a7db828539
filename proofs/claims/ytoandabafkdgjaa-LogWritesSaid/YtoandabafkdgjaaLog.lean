/- log.made, fits; isoglossref08.Made. -/
import Derived.Test.YtoandabafkdgjaaCrcM
import Derived.Test.YtoandabafkdgjaaRef02
import Derived.Test.YtoandabafkdgjaaRef01
import Derived.Test.YtoandabafkdgjaaFixed
import Derived.Test.YtoandabafkdgjaaCode
namespace Go.Proofs.Ytoandabafkdgjaa.My
set_option linter.unusedSimpArgs false
set_option linter.unusedVariables false
open Go.RowKit Go.Proofs.YtoandabafkdgjaaW.PrintWords Go.Proofs.YtoandabafkdgjaaW.PrintLast Go.Proofs.Ytoandabafkdgjaa.Pm

theorem sumL_lt32 (l : List UInt8) : sumL l < 4294967296 := by unfold sumL ends; omega
/-- A record's bytes: its length, the sum, itself. -/
def fx (n k : Nat) : ByteArray := strOfNums (fixedTo n k true k)
theorem fx_size (n k : Nat) : (fx n k).size = k := by
  unfold fx strOfNums
  show (List.map _ (fixedTo n k true k)).toArray.size = k
  rw [List.size_toArray, List.length_map, fixedTo_length]
def recSum (r : ByteArray) : Nat := sumL (fx r.size 2 ++ r).data.toList
def recS (r : ByteArray) : ByteArray := fx r.size 2 ++ fx (recSum r) 4 ++ r
theorem recS_size (r : ByteArray) : (recS r).size = 6 + r.size := by unfold recS; rw [ByteArray.size_append, ByteArray.size_append, fx_size, fx_size]
theorem logfits_any (n : Int) (w : World) : Calls Try.prog 37 #[.int .i64 n] w fun e w' => e = .returned (.bool (decide (1 ≤ n) && decide (n ≤ 4000))) ∧ w = w' := by
  by_cases h1 : 1 ≤ n
  · have x1 : decide (1 ≤ n) = true := decide_eq_true h1
    by_cases h2 : n ≤ 4000
    · have x2 : decide (n ≤ 4000) = true := decide_eq_true h2
      rw [x1, x2]
      clear h1 h2
      go_enter Try.func37, Try.ntmps37
      go_wp2
      go_ret
      exact ⟨rfl, rfl⟩
    · have x2 : decide (n ≤ 4000) = false := decide_eq_false h2
      rw [x1, x2]
      clear h1 h2
      go_enter Try.func37, Try.ntmps37
      go_wp2
      go_ret
      exact ⟨rfl, rfl⟩
  · have x1 : decide (1 ≤ n) = false := decide_eq_false h1
    rw [x1]
    clear h1
    go_enter Try.func37, Try.ntmps37
    go_wp2
    go_ret
    exact ⟨rfl, rfl⟩
set_option maxRecDepth 100000 in
set_option maxHeartbeats 4000000 in
theorem made_any (r : ByteArray) (w : World) (hr : r.size ≤ 1000000) :
    Calls Try.prog 38 #[.agg tab, .string r] w fun e w' => e = .returned (.string (recS r)) ∧ Below w.heap.size w w' := by
  have U1 := Lib.hid (fun w => fixed_good r.size 2 true w (by omega) (by omega))
  have z1 := fx_size r.size 2
  have U2 := Lib.hid (fun w => crc_sum (fx r.size 2 ++ r) w (by rw [ByteArray.size_append, z1]; omega))
  have hs := sumL_lt32 (fx r.size 2 ++ r).data.toList
  have U3 := Lib.hid (fun w => fixed_good (recSum r) 4 true w (by omega) (by omega))
  have q1 : IntKind.u64.wrap (r.size : Int) = (r.size : Int) := wrap_u64_nat (by omega)
  have q2 : IntKind.u64.wrap (recSum r : Int) = (recSum r : Int) := wrap_u64_nat (by unfold recSum; omega)
  have HB := Lib.hid (Below.refl w.heap.size w)
  have hi1 : (Try.prog.info? 53).map (·.size) = some tab.size := by unfold tab; rw [tabTo_size]; kernel_rfl
  have HI := Lib.hid hi1; clear hi1
  have HE := Lib.hid (show recS r = fx r.size 2 ++ fx (recSum r) 4 ++ r from rfl)
  have z2 := fx_size (recSum r) 4
  change Hid (∀ w, Calls Try.prog _ _ w fun e w' => e = .returned (.string (fx r.size 2)) ∧ _) at U1
  change Hid (∀ w, Calls Try.prog _ _ w fun e w' => e = .returned (.int .u32 (recSum r : Nat)) ∧ _) at U2
  change Hid (∀ w, Calls Try.prog _ _ w fun e w' => e = .returned (.string (fx (recSum r) 4)) ∧ _) at U3
  generalize recS r = R at *
  clear hs
  generalize fx r.size 2 = s1 at *
  generalize fx (recSum r) 4 = s2 at *
  generalize recSum r = s at *
  generalize tab = T at *
  rw [show ((2 : Nat) : Int) = 2 from rfl] at U1
  rw [show ((4 : Nat) : Int) = 4 from rfl] at U3
  have n1 : s1.size + r.size ≤ 140737488355328 := by omega
  have n2 : s1.size + s2.size ≤ 140737488355328 := by omega
  have n3 : (s1 ++ s2).size + r.size ≤ 140737488355328 := by rw [ByteArray.size_append]; omega
  clear z1 z2
  have K0 := Lib.hid (blk_new w (.cells T 53 (0, 0)))
  replace HB := Lib.hid (below_alloc HB.out (.cells T 53))
  go_enter Try.func38, Try.ntmps38
  go_wp2_with fail
  refine (U1.out _).mono ?_
  rintro e w1 ⟨rfl, hb⟩
  replace K0 := Lib.hid (blk_below K0.out hb)
  replace HB := Lib.hid (HB.out.trans (hb.mono HB.out.size)); clear hb
  go_wp2_with (first | refine wpList_load_row rfl 53 _ rfl w.heap.size rfl 53 T (0, 0) _ K0.out Try.underlying53 rfl HI.out ?_ | fail)
  refine (U2.out _).mono ?_
  rintro e w2 ⟨rfl, hb⟩
  replace HB := Lib.hid (HB.out.trans (hb.mono HB.out.size)); clear hb
  go_wp2_with fail
  refine (U3.out _).mono ?_
  rintro e w3 ⟨rfl, hb⟩
  replace HB := Lib.hid (HB.out.trans (hb.mono HB.out.size)); clear hb
  go_wp2
  go_ret
  rw [HE.out]
  exact ⟨rfl, HB.out⟩
set_option maxRecDepth 100000 in
set_option maxHeartbeats 4000000 in
theorem rmade_any (r : ByteArray) (w : World) (hr : r.size ≤ 1000000) :
    Calls Try.prog 27 #[.string r] w fun e w' => e = .returned (.string (recS r)) ∧ Below w.heap.size w w' := by
  have z1 := fx_size r.size 2
  have U1 := Lib.hid (fun w => rfixed_any r.size 2 true w (by omega) (by omega) (by omega))
  have U2 := Lib.hid (fun w => rsum_any (fx r.size 2 ++ r) w (by rw [ByteArray.size_append, z1]; omega))
  have hs := sumL_lt32 (fx r.size 2 ++ r).data.toList
  have U3 := Lib.hid (fun w => rfixed_any (recSum r) 4 true w (by unfold recSum; omega) (by omega) (by omega))
  have q1 : IntKind.u64.wrap (r.size : Int) = (r.size : Int) := wrap_u64_nat (by omega)
  have q2 : IntKind.u64.wrap (recSum r : Int) = (recSum r : Int) := wrap_u64_nat (by unfold recSum; omega)
  have HB := Lib.hid (Below.refl w.heap.size w)
  have HE := Lib.hid (show recS r = fx r.size 2 ++ fx (recSum r) 4 ++ r from rfl)
  have z2 := fx_size (recSum r) 4
  change Hid (∀ w, Calls Try.prog _ _ w fun e w' => e = .returned (.string (fx r.size 2)) ∧ _) at U1
  change Hid (∀ w, Calls Try.prog _ _ w fun e w' => e = .returned (.int .u32 (recSum r : Nat)) ∧ _) at U2
  change Hid (∀ w, Calls Try.prog _ _ w fun e w' => e = .returned (.string (fx (recSum r) 4)) ∧ _) at U3
  generalize recS r = R at *
  clear hs
  generalize fx r.size 2 = s1 at *
  generalize fx (recSum r) 4 = s2 at *
  generalize recSum r = s at *
  rw [show ((2 : Nat) : Int) = 2 from rfl] at U1
  rw [show ((4 : Nat) : Int) = 4 from rfl] at U3
  have n1 : s1.size + r.size ≤ 140737488355328 := by omega
  have n2 : s1.size + s2.size ≤ 140737488355328 := by omega
  have n3 : (s1 ++ s2).size + r.size ≤ 140737488355328 := by rw [ByteArray.size_append]; omega
  clear z1 z2
  go_enter Try.func27, Try.ntmps27
  go_wp2_with fail
  refine (U1.out _).mono ?_
  rintro e wq1 ⟨rfl, hb⟩
  have HB := Lib.hid (HB.out.trans (hb.mono HB.out.size)); clear hb
  go_wp2_with fail
  refine (U2.out _).mono ?_
  rintro e wq2 ⟨rfl, rfl⟩
  go_wp2_with fail
  refine (U3.out _).mono ?_
  rintro e wq3 ⟨rfl, hb⟩
  have HB := Lib.hid (HB.out.trans (hb.mono HB.out.size)); clear hb
  go_wp2
  go_ret
  rw [HE.out]
  exact ⟨rfl, HB.out⟩
end Go.Proofs.Ytoandabafkdgjaa.My
