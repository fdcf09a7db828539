/- msg.Project. -/
import Derived.Test.YtemhmgpihkemjaaMsg7
import Derived.Test.YtemhmgpihkemjaaByt
namespace Go.Proofs.Ytemhmgpihkemjaa.My
set_option linter.unusedSimpArgs false
set_option linter.unusedVariables false
open Go.RowKit Go.Proofs.YtemhmgpihkemjaaW.PrintWords Go.Proofs.YtemhmgpihkemjaaW.PrintLast Go.Proofs.Ytemhmgpihkemjaa.Pm

set_option maxRecDepth 100000 in
set_option maxHeartbeats 8000000 in
theorem project_1 (m : MsgS) (A : Option Addr) (n c : Nat) (w : World) (z : m.Z) (hw : Wrs w A n m.ws) (h0 : mayE 1 m = 0) :
    Calls Try.prog 11 #[.int .i64 1, .agg (m.arr A n c)] w fun e w' => e = .returned (.tuple #[.agg ((projS 1 m).arr A n c), .int .i64 0]) ∧ Below w.heap.size w w' := by
  have MY := Lib.hid (fun (w : World) (hw : Wrs w A n m.ws) => may_any 1 m A n c w z hw)
  rw [h0] at MY
  have KV := Lib.hid (fun w => known_any 1 w)
  rw [show knownS 1 = 9 from rfl] at KV
  have hb1 := below_alloc (Below.refl _ w) (.cells (m.arr A n c) 29)
  have hb2 := below_alloc (Below.refl _ (w.alloc (.cells (m.arr A n c) 29))) (.cells (zeroM.arr none 0 0) 29)
  have HW := Lib.hid ((hw.below hb1).below hb2)
  have HB := Lib.hid (hb1.trans (hb2.mono hb1.size))
  have HP := Lib.hid (show IsMsg _ w.heap.size m A n c from blk_below (blk_new w (.cells (m.arr A n c) 29)) hb2)
  have HR := Lib.hid (show IsMsg ((w.alloc (.cells (m.arr A n c) 29)).alloc (.cells (zeroM.arr none 0 0) 29)) (w.heap.size + 1) zeroM none 0 0 from by have := blk_new (w.alloc (.cells (m.arr A n c) 29)) (.cells (zeroM.arr none 0 0) 29); rw [World.size_alloc] at this; exact this)
  have MC := Lib.hid (fun w' (h : IsMsg w' w.heap.size m A n c) => mcells h)
  have HPJ := Lib.hid (show (projS 1 m).arr A n c = #[.int .i64 m.kind, .int .i64 m.frm, .int .i64 m.tow, .int .i64 m.node, .int .i64 m.life, .int .i64 m.seq, .int .u64 m.a, .int .u64 m.b, .string m.key, .bool m.found, .int .u64 m.time, .bool m.gone, .string m.value, .slice A n c, .string ⟨#[]⟩, .int .u64 0, .int .u64 m.must] from rfl)
  rw [HPJ.out]
  clear hw z h0 hb1 hb2 HPJ
  unfold IsMsg MsgS.arr zeroM at *
  simp only at *
  obtain ⟨p0, p1, p2, p3, p4, p5, p6, p7, p8, p9, p10, p11, p12, p13, p14, p15, p16⟩ := MC.out _ HP.out
  go_enter Try.func11, Try.ntmps11
  go_wp2_with fail
  refine (MY.out _ HW.out).mono ?_
  rintro e wq ⟨rfl, hb⟩
  replace HB := Lib.hid (HB.out.trans (hb.mono HB.out.size))
  replace HP := Lib.hid (blk_below HP.out hb)
  replace HR := Lib.hid (blk_below HR.out hb)
  clear p0 p1 p2 p3 p4 p5 p6 p7 p8 p9 p10 p11 p12 p13 p14 p15 p16 hb
  have hne : w.heap.size + 1 ≠ w.heap.size := by omega
  have hrr : w.heap.size ≤ w.heap.size + 1 := by omega
  have q14 := (blk_cell HP.out 14).trans rfl
  have q15 := (blk_cell HP.out 15).trans rfl
  have f14 := blk_frozen HP.out 14
  have f15 := blk_frozen HP.out 15
  go_wp2_with fail
  refine (KV.out _).mono ?_
  rintro e wk1 ⟨rfl, rfl⟩
  go_wp2_with fail
  replace HP := Lib.hid (blk_set HP.out 14 (.string ⟨#[]⟩))
  replace HR := Lib.hid (blk_far HR.out (p := ⟨w.heap.size, 14, none⟩) hne (.string ⟨#[]⟩))
  replace HB := Lib.hid (below_setc (p := ⟨w.heap.size, 14, none⟩) HB.out (Nat.le_refl _) (.string ⟨#[]⟩))
  clear q14 q15 f14 f15
  generalize World.setCell _ ⟨w.heap.size, 14, none⟩ (.string ⟨#[]⟩) = wa at *
  have q15 := (blk_cell HP.out 15).trans rfl
  have f15 := blk_frozen HP.out 15
  refine (KV.out _).mono ?_
  rintro e wk2 ⟨rfl, rfl⟩
  go_wp2_with (first | refine wpList_load_row rfl 29 _ rfl w.heap.size rfl 29 #[.int .i64 m.kind, .int .i64 m.frm, .int .i64 m.tow, .int .i64 m.node, .int .i64 m.life, .int .i64 m.seq, .int .u64 m.a, .int .u64 m.b, .string m.key, .bool m.found, .int .u64 m.time, .bool m.gone, .string m.value, .slice A n c, .string ⟨#[]⟩, .int .u64 0, .int .u64 m.must] (0, 0) _ (blk_set HP.out 15 (.int .u64 0)) Try.underlying29 rfl (by kernel_rfl) ?_ | refine wpList_store_row rfl 29 _ _ rfl (w.heap.size + 1) #[.int .i64 m.kind, .int .i64 m.frm, .int .i64 m.tow, .int .i64 m.node, .int .i64 m.life, .int .i64 m.seq, .int .u64 m.a, .int .u64 m.b, .string m.key, .bool m.found, .int .u64 m.time, .bool m.gone, .string m.value, .slice A n c, .string ⟨#[]⟩, .int .u64 0, .int .u64 m.must] rfl rfl 29 _ (blk_far HR.out (p := ⟨w.heap.size, 15, none⟩) hne (.int .u64 0)) (by kernel_rfl) rfl (by simp [Value.oneCell']) ?_)
  have HR2 := Lib.hid (setRow_heap _ _ _ #[.int .i64 m.kind, .int .i64 m.frm, .int .i64 m.tow, .int .i64 m.node, .int .i64 m.life, .int .i64 m.seq, .int .u64 m.a, .int .u64 m.b, .string m.key, .bool m.found, .int .u64 m.time, .bool m.gone, .string m.value, .slice A n c, .string ⟨#[]⟩, .int .u64 0, .int .u64 m.must] _ _ (blk_far HR.out (p := ⟨w.heap.size, 15, none⟩) hne (.int .u64 0)))
  have HB2 := Lib.hid (below_setRow (below_setc (p := ⟨w.heap.size, 15, none⟩) HB.out (Nat.le_refl _) (.int .u64 0)) hrr #[.int .i64 m.kind, .int .i64 m.frm, .int .i64 m.tow, .int .i64 m.node, .int .i64 m.life, .int .i64 m.seq, .int .u64 m.a, .int .u64 m.b, .string m.key, .bool m.found, .int .u64 m.time, .bool m.gone, .string m.value, .slice A n c, .string ⟨#[]⟩, .int .u64 0, .int .u64 m.must])
  refine bodyPost_ret (res_ct (a := ⟨?g1, 0, none⟩) (v := .agg ?cs1) rfl ?hp1 (load_row (g := ?g1) (cs := ?cs1) (t := ?t1) (fr := ?fr1) ?hrow1 _ _ Try.underlying29 rfl ?hi1)) rfl ?_
  case hp1 => rfl
  case hrow1 => (refine HR2.out <;> simp only [Go.Deep.nblk_alloc])
  case hi1 => exact (by kernel_rfl)
  exact ⟨rfl, HB2.out⟩
set_option maxRecDepth 100000 in
set_option maxHeartbeats 8000000 in
theorem project_2 (m : MsgS) (A : Option Addr) (n c : Nat) (w : World) (z : m.Z) (hw : Wrs w A n m.ws) (h0 : mayE 2 m = 0) :
    Calls Try.prog 11 #[.int .i64 2, .agg (m.arr A n c)] w fun e w' => e = .returned (.tuple #[.agg ((projS 2 m).arr A n c), .int .i64 0]) ∧ Below w.heap.size w w' := by
  have MY := Lib.hid (fun (w : World) (hw : Wrs w A n m.ws) => may_any 2 m A n c w z hw)
  rw [h0] at MY
  have KV := Lib.hid (fun w => known_any 2 w)
  rw [show knownS 2 = 10 from rfl] at KV
  have hb1 := below_alloc (Below.refl _ w) (.cells (m.arr A n c) 29)
  have hb2 := below_alloc (Below.refl _ (w.alloc (.cells (m.arr A n c) 29))) (.cells (zeroM.arr none 0 0) 29)
  have HW := Lib.hid ((hw.below hb1).below hb2)
  have HB := Lib.hid (hb1.trans (hb2.mono hb1.size))
  have HP := Lib.hid (show IsMsg _ w.heap.size m A n c from blk_below (blk_new w (.cells (m.arr A n c) 29)) hb2)
  have HR := Lib.hid (show IsMsg ((w.alloc (.cells (m.arr A n c) 29)).alloc (.cells (zeroM.arr none 0 0) 29)) (w.heap.size + 1) zeroM none 0 0 from by have := blk_new (w.alloc (.cells (m.arr A n c) 29)) (.cells (zeroM.arr none 0 0) 29); rw [World.size_alloc] at this; exact this)
  have MC := Lib.hid (fun w' (h : IsMsg w' w.heap.size m A n c) => mcells h)
  have HPJ := Lib.hid (show (projS 2 m).arr A n c = #[.int .i64 m.kind, .int .i64 m.frm, .int .i64 m.tow, .int .i64 m.node, .int .i64 m.life, .int .i64 m.seq, .int .u64 m.a, .int .u64 m.b, .string m.key, .bool m.found, .int .u64 m.time, .bool m.gone, .string m.value, .slice A n c, .string m.note, .int .u64 0, .int .u64 m.must] from rfl)
  rw [HPJ.out]
  clear hw z h0 hb1 hb2 HPJ
  unfold IsMsg MsgS.arr zeroM at *
  simp only at *
  obtain ⟨p0, p1, p2, p3, p4, p5, p6, p7, p8, p9, p10, p11, p12, p13, p14, p15, p16⟩ := MC.out _ HP.out
  go_enter Try.func11, Try.ntmps11
  go_wp2_with fail
  refine (MY.out _ HW.out).mono ?_
  rintro e wq ⟨rfl, hb⟩
  replace HB := Lib.hid (HB.out.trans (hb.mono HB.out.size))
  replace HP := Lib.hid (blk_below HP.out hb)
  replace HR := Lib.hid (blk_below HR.out hb)
  clear p0 p1 p2 p3 p4 p5 p6 p7 p8 p9 p10 p11 p12 p13 p14 p15 p16 hb
  have hne : w.heap.size + 1 ≠ w.heap.size := by omega
  have hrr : w.heap.size ≤ w.heap.size + 1 := by omega
  have q14 := (blk_cell HP.out 14).trans rfl
  have q15 := (blk_cell HP.out 15).trans rfl
  have f14 := blk_frozen HP.out 14
  have f15 := blk_frozen HP.out 15
  go_wp2_with fail
  refine (KV.out _).mono ?_
  rintro e wk1 ⟨rfl, rfl⟩
  go_wp2_with fail
  refine (KV.out _).mono ?_
  rintro e wk2 ⟨rfl, rfl⟩
  go_wp2_with (first | refine wpList_load_row rfl 29 _ rfl w.heap.size rfl 29 #[.int .i64 m.kind, .int .i64 m.frm, .int .i64 m.tow, .int .i64 m.node, .int .i64 m.life, .int .i64 m.seq, .int .u64 m.a, .int .u64 m.b, .string m.key, .bool m.found, .int .u64 m.time, .bool m.gone, .string m.value, .slice A n c, .string m.note, .int .u64 0, .int .u64 m.must] (0, 0) _ (blk_set HP.out 15 (.int .u64 0)) Try.underlying29 rfl (by kernel_rfl) ?_ | refine wpList_store_row rfl 29 _ _ rfl (w.heap.size + 1) #[.int .i64 m.kind, .int .i64 m.frm, .int .i64 m.tow, .int .i64 m.node, .int .i64 m.life, .int .i64 m.seq, .int .u64 m.a, .int .u64 m.b, .string m.key, .bool m.found, .int .u64 m.time, .bool m.gone, .string m.value, .slice A n c, .string m.note, .int .u64 0, .int .u64 m.must] rfl rfl 29 _ (blk_far HR.out (p := ⟨w.heap.size, 15, none⟩) hne (.int .u64 0)) (by kernel_rfl) rfl (by simp [Value.oneCell']) ?_)
  have HR2 := Lib.hid (setRow_heap _ _ _ #[.int .i64 m.kind, .int .i64 m.frm, .int .i64 m.tow, .int .i64 m.node, .int .i64 m.life, .int .i64 m.seq, .int .u64 m.a, .int .u64 m.b, .string m.key, .bool m.found, .int .u64 m.time, .bool m.gone, .string m.value, .slice A n c, .string m.note, .int .u64 0, .int .u64 m.must] _ _ (blk_far HR.out (p := ⟨w.heap.size, 15, none⟩) hne (.int .u64 0)))
  have HB2 := Lib.hid (below_setRow (below_setc (p := ⟨w.heap.size, 15, none⟩) HB.out (Nat.le_refl _) (.int .u64 0)) hrr #[.int .i64 m.kind, .int .i64 m.frm, .int .i64 m.tow, .int .i64 m.node, .int .i64 m.life, .int .i64 m.seq, .int .u64 m.a, .int .u64 m.b, .string m.key, .bool m.found, .int .u64 m.time, .bool m.gone, .string m.value, .slice A n c, .string m.note, .int .u64 0, .int .u64 m.must])
  refine bodyPost_ret (res_ct (a := ⟨?g2, 0, none⟩) (v := .agg ?cs2) rfl ?hp2 (load_row (g := ?g2) (cs := ?cs2) (t := ?t2) (fr := ?fr2) ?hrow2 _ _ Try.underlying29 rfl ?hi2)) rfl ?_
  case hp2 => rfl
  case hrow2 => (refine HR2.out <;> simp only [Go.Deep.nblk_alloc])
  case hi2 => exact (by kernel_rfl)
  exact ⟨rfl, HB2.out⟩
set_option maxRecDepth 100000 in
set_option maxHeartbeats 8000000 in
theorem project_3 (m : MsgS) (A : Option Addr) (n c : Nat) (w : World) (z : m.Z) (hw : Wrs w A n m.ws) (h0 : mayE 3 m = 0) :
    Calls Try.prog 11 #[.int .i64 3, .agg (m.arr A n c)] w fun e w' => e = .returned (.tuple #[.agg ((projS 3 m).arr A n c), .int .i64 0]) ∧ Below w.heap.size w w' := by
  have MY := Lib.hid (fun (w : World) (hw : Wrs w A n m.ws) => may_any 3 m A n c w z hw)
  rw [h0] at MY
  have KV := Lib.hid (fun w => known_any 3 w)
  rw [show knownS 3 = 12 from rfl] at KV
  have hb1 := below_alloc (Below.refl _ w) (.cells (m.arr A n c) 29)
  have hb2 := below_alloc (Below.refl _ (w.alloc (.cells (m.arr A n c) 29))) (.cells (zeroM.arr none 0 0) 29)
  have HW := Lib.hid ((hw.below hb1).below hb2)
  have HB := Lib.hid (hb1.trans (hb2.mono hb1.size))
  have HP := Lib.hid (show IsMsg _ w.heap.size m A n c from blk_below (blk_new w (.cells (m.arr A n c) 29)) hb2)
  have HR := Lib.hid (show IsMsg ((w.alloc (.cells (m.arr A n c) 29)).alloc (.cells (zeroM.arr none 0 0) 29)) (w.heap.size + 1) zeroM none 0 0 from by have := blk_new (w.alloc (.cells (m.arr A n c) 29)) (.cells (zeroM.arr none 0 0) 29); rw [World.size_alloc] at this; exact this)
  have MC := Lib.hid (fun w' (h : IsMsg w' w.heap.size m A n c) => mcells h)
  have HPJ := Lib.hid (show (projS 3 m).arr A n c = #[.int .i64 m.kind, .int .i64 m.frm, .int .i64 m.tow, .int .i64 m.node, .int .i64 m.life, .int .i64 m.seq, .int .u64 m.a, .int .u64 m.b, .string m.key, .bool m.found, .int .u64 m.time, .bool m.gone, .string m.value, .slice A n c, .string m.note, .int .u64 m.hint, .int .u64 m.must] from rfl)
  rw [HPJ.out]
  clear hw z h0 hb1 hb2 HPJ
  unfold IsMsg MsgS.arr zeroM at *
  simp only at *
  obtain ⟨p0, p1, p2, p3, p4, p5, p6, p7, p8, p9, p10, p11, p12, p13, p14, p15, p16⟩ := MC.out _ HP.out
  go_enter Try.func11, Try.ntmps11
  go_wp2_with fail
  refine (MY.out _ HW.out).mono ?_
  rintro e wq ⟨rfl, hb⟩
  replace HB := Lib.hid (HB.out.trans (hb.mono HB.out.size))
  replace HP := Lib.hid (blk_below HP.out hb)
  replace HR := Lib.hid (blk_below HR.out hb)
  clear p0 p1 p2 p3 p4 p5 p6 p7 p8 p9 p10 p11 p12 p13 p14 p15 p16 hb
  have hne : w.heap.size + 1 ≠ w.heap.size := by omega
  have hrr : w.heap.size ≤ w.heap.size + 1 := by omega
  have q14 := (blk_cell HP.out 14).trans rfl
  have q15 := (blk_cell HP.out 15).trans rfl
  have f14 := blk_frozen HP.out 14
  have f15 := blk_frozen HP.out 15
  go_wp2_with fail
  refine (KV.out _).mono ?_
  rintro e wk1 ⟨rfl, rfl⟩
  go_wp2_with fail
  refine (KV.out _).mono ?_
  rintro e wk2 ⟨rfl, rfl⟩
  go_wp2_with (first | refine wpList_load_row rfl 29 _ rfl w.heap.size rfl 29 #[.int .i64 m.kind, .int .i64 m.frm, .int .i64 m.tow, .int .i64 m.node, .int .i64 m.life, .int .i64 m.seq, .int .u64 m.a, .int .u64 m.b, .string m.key, .bool m.found, .int .u64 m.time, .bool m.gone, .string m.value, .slice A n c, .string m.note, .int .u64 m.hint, .int .u64 m.must] (0, 0) _ HP.out Try.underlying29 rfl (by kernel_rfl) ?_ | refine wpList_store_row rfl 29 _ _ rfl (w.heap.size + 1) #[.int .i64 m.kind, .int .i64 m.frm, .int .i64 m.tow, .int .i64 m.node, .int .i64 m.life, .int .i64 m.seq, .int .u64 m.a, .int .u64 m.b, .string m.key, .bool m.found, .int .u64 m.time, .bool m.gone, .string m.value, .slice A n c, .string m.note, .int .u64 m.hint, .int .u64 m.must] rfl rfl 29 _ HR.out (by kernel_rfl) rfl (by simp [Value.oneCell']) ?_)
  have HR2 := Lib.hid (setRow_heap _ _ _ #[.int .i64 m.kind, .int .i64 m.frm, .int .i64 m.tow, .int .i64 m.node, .int .i64 m.life, .int .i64 m.seq, .int .u64 m.a, .int .u64 m.b, .string m.key, .bool m.found, .int .u64 m.time, .bool m.gone, .string m.value, .slice A n c, .string m.note, .int .u64 m.hint, .int .u64 m.must] _ _ HR.out)
  have HB2 := Lib.hid (below_setRow HB.out hrr #[.int .i64 m.kind, .int .i64 m.frm, .int .i64 m.tow, .int .i64 m.node, .int .i64 m.life, .int .i64 m.seq, .int .u64 m.a, .int .u64 m.b, .string m.key, .bool m.found, .int .u64 m.time, .bool m.gone, .string m.value, .slice A n c, .string m.note, .int .u64 m.hint, .int .u64 m.must])
  refine bodyPost_ret (res_ct (a := ⟨?g3, 0, none⟩) (v := .agg ?cs3) rfl ?hp3 (load_row (g := ?g3) (cs := ?cs3) (t := ?t3) (fr := ?fr3) ?hrow3 _ _ Try.underlying29 rfl ?hi3)) rfl ?_
  case hp3 => rfl
  case hrow3 => (refine HR2.out <;> simp only [Go.Deep.nblk_alloc])
  case hi3 => exact (by kernel_rfl)
  exact ⟨rfl, HB2.out⟩
/-- Project: the message, its writes' place, and the error. -/
theorem project_any (v : Int) (m : MsgS) (A : Option Addr) (n c : Nat) (w : World) (z : m.Z) (hw : Wrs w A n m.ws) :
    Calls Try.prog 11 #[.int .i64 v, .agg (m.arr A n c)] w fun e w' => e = .returned (.tuple #[.agg (if mayE v m = 0 then (projS v m).arr A n c else zeroM.arr none 0 0), .int .i64 (mayE v m : Nat)]) ∧ Below w.heap.size w w' := by
  by_cases h0 : mayE v m = 0
  · rw [if_pos h0, h0]
    rcases (may_ok h0).2.1 with rfl | rfl | rfl
    · exact project_1 m A n c w z hw h0
    · exact project_2 m A n c w z hw h0
    · exact project_3 m A n c w z hw h0
  · rw [if_neg h0]
    exact project_bad v m A n c w z hw h0
end Go.Proofs.Ytemhmgpihkemjaa.My
