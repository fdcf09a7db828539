/- isoglossref05.Project. -/
import Derived.Test.YtemhmgpihkemjaaMsg14
namespace Go.Proofs.Ytemhmgpihkemjaa.My
set_option linter.unusedSimpArgs false
set_option linter.unusedVariables false
open Go.RowKit Go.Proofs.YtemhmgpihkemjaaW.PrintWords Go.Proofs.YtemhmgpihkemjaaW.PrintLast Go.Proofs.Ytemhmgpihkemjaa.Pm

set_option maxRecDepth 100000 in
set_option maxHeartbeats 8000000 in
theorem rproject_none (v : Int) (m : MsgS) (A : Option Addr) (n c : Nat) (w : World) (z : m.Z) (hw : Wrs w A n m.ws) (h0 : knownS v = 0) :
    Calls Try.prog 12 #[.int .i64 v, .agg (m.arr A n c)] w fun e w' => e = .returned (.tuple #[.agg (zeroM.arr none 0 0), .int .i64 1]) ∧ Below w.heap.size w w' := by
  have KV := Lib.hid (fun w => last_any v w)
  rw [h0] at KV
  clear h0
  have RT := Lib.hid (fun (w : World) (hw : Wrs w A n m.ws) => rright_any m A n c w z hw)
  have hb1 := below_alloc (Below.refl _ w) (.cells (m.arr A n c) 29)
  have hb2 := below_alloc (Below.refl _ (w.alloc (.cells (m.arr A n c) 29))) (.cells (zeroM.arr none 0 0) 29)
  have HW := Lib.hid ((hw.below hb1).below hb2)
  have HB := Lib.hid (hb1.trans (hb2.mono hb1.size))
  have HP := Lib.hid (show IsMsg _ w.heap.size m A n c from blk_below (blk_new w (.cells (m.arr A n c) 29)) hb2)
  have HR := Lib.hid (show IsMsg ((w.alloc (.cells (m.arr A n c) 29)).alloc (.cells (zeroM.arr none 0 0) 29)) (w.heap.size + 1) zeroM none 0 0 from by have := blk_new (w.alloc (.cells (m.arr A n c) 29)) (.cells (zeroM.arr none 0 0) 29); rw [World.size_alloc] at this; exact this)
  have MC := Lib.hid (fun w' (h : IsMsg w' w.heap.size m A n c) => mcells h)
  clear hw z hb1 hb2
  unfold IsMsg MsgS.arr zeroM at *
  simp only at *
  obtain ⟨p0, p1, p2, p3, p4, p5, p6, p7, p8, p9, p10, p11, p12, p13, p14, p15, p16⟩ := MC.out _ HP.out
  go_enter Try.func12, Try.ntmps12
  go_wp2_with fail
  refine (KV.out _).mono ?_
  rintro e wk ⟨rfl, rfl⟩
  have hrr : w.heap.size ≤ w.heap.size + 1 := by omega
  go_wp2_with (first | refine wpList_store_row rfl 29 _ _ rfl (w.heap.size + 1) #[.int .i64 0, .int .i64 0, .int .i64 0, .int .i64 0, .int .i64 0, .int .i64 0, .int .u64 0, .int .u64 0, .string ⟨#[]⟩, .bool false, .int .u64 0, .bool false, .string ⟨#[]⟩, .slice none 0 0, .string ⟨#[]⟩, .int .u64 0, .int .u64 0] rfl rfl 29 _ HR.out (by kernel_rfl) rfl (by simp [Value.oneCell']) ?_)
  have HR2 := Lib.hid (setRow_heap _ _ _ #[.int .i64 0, .int .i64 0, .int .i64 0, .int .i64 0, .int .i64 0, .int .i64 0, .int .u64 0, .int .u64 0, .string ⟨#[]⟩, .bool false, .int .u64 0, .bool false, .string ⟨#[]⟩, .slice none 0 0, .string ⟨#[]⟩, .int .u64 0, .int .u64 0] _ _ HR.out)
  have HB2 := Lib.hid (below_setRow HB.out hrr #[.int .i64 0, .int .i64 0, .int .i64 0, .int .i64 0, .int .i64 0, .int .i64 0, .int .u64 0, .int .u64 0, .string ⟨#[]⟩, .bool false, .int .u64 0, .bool false, .string ⟨#[]⟩, .slice none 0 0, .string ⟨#[]⟩, .int .u64 0, .int .u64 0])
  refine bodyPost_ret (res_ct (a := ⟨?g1, 0, none⟩) (v := .agg ?cs1) rfl ?hp1 (load_row (g := ?g1) (cs := ?cs1) (t := ?t1) (fr := ?fr1) ?hrow1 _ _ Try.underlying29 rfl ?hi1)) rfl ?_
  case hp1 => rfl
  case hrow1 => (refine HR2.out <;> simp only [Go.Deep.nblk_alloc])
  case hi1 => exact (by kernel_rfl)
  exact ⟨rfl, HB2.out⟩
set_option maxRecDepth 100000 in
set_option maxHeartbeats 8000000 in
theorem rproject_bad1 (m : MsgS) (A : Option Addr) (n c : Nat) (w : World) (z : m.Z) (hw : Wrs w A n m.ws) (h0 : rightB m = false) :
    Calls Try.prog 12 #[.int .i64 1, .agg (m.arr A n c)] w fun e w' => e = .returned (.tuple #[.agg (zeroM.arr none 0 0), .int .i64 1]) ∧ Below w.heap.size w w' := by
  have KV := Lib.hid (fun w => last_any 1 w)
  rw [show knownS 1 = 9 from rfl] at KV
  have RT := Lib.hid (fun (w : World) (hw : Wrs w A n m.ws) => rright_any m A n c w z hw)
  have hb1 := below_alloc (Below.refl _ w) (.cells (m.arr A n c) 29)
  have hb2 := below_alloc (Below.refl _ (w.alloc (.cells (m.arr A n c) 29))) (.cells (zeroM.arr none 0 0) 29)
  have HW := Lib.hid ((hw.below hb1).below hb2)
  have HB := Lib.hid (hb1.trans (hb2.mono hb1.size))
  have HP := Lib.hid (show IsMsg _ w.heap.size m A n c from blk_below (blk_new w (.cells (m.arr A n c) 29)) hb2)
  have HR := Lib.hid (show IsMsg ((w.alloc (.cells (m.arr A n c) 29)).alloc (.cells (zeroM.arr none 0 0) 29)) (w.heap.size + 1) zeroM none 0 0 from by have := blk_new (w.alloc (.cells (m.arr A n c) 29)) (.cells (zeroM.arr none 0 0) 29); rw [World.size_alloc] at this; exact this)
  have MC := Lib.hid (fun w' (h : IsMsg w' w.heap.size m A n c) => mcells h)
  clear hw z hb1 hb2
  rw [h0] at RT
  clear h0
  unfold IsMsg MsgS.arr zeroM at *
  simp only at *
  obtain ⟨p0, p1, p2, p3, p4, p5, p6, p7, p8, p9, p10, p11, p12, p13, p14, p15, p16⟩ := MC.out _ HP.out
  go_enter Try.func12, Try.ntmps12
  go_wp2_with fail
  refine (KV.out _).mono ?_
  rintro e wk ⟨rfl, rfl⟩
  go_wp2_with fail
  refine (RT.out _ HW.out).mono ?_
  rintro e wq ⟨rfl, hb⟩
  replace HB := Lib.hid (HB.out.trans (hb.mono HB.out.size))
  replace HP := Lib.hid (blk_below HP.out hb)
  replace HR := Lib.hid (blk_below HR.out hb)
  clear p0 p1 p2 p3 p4 p5 p6 p7 p8 p9 p10 p11 p12 p13 p14 p15 p16 hb
  have p16 := (blk_cell HP.out 16).trans rfl
  have hrr : w.heap.size ≤ w.heap.size + 1 := by omega
  go_wp2_with (first | refine wpList_store_row rfl 29 _ _ rfl (w.heap.size + 1) #[.int .i64 0, .int .i64 0, .int .i64 0, .int .i64 0, .int .i64 0, .int .i64 0, .int .u64 0, .int .u64 0, .string ⟨#[]⟩, .bool false, .int .u64 0, .bool false, .string ⟨#[]⟩, .slice none 0 0, .string ⟨#[]⟩, .int .u64 0, .int .u64 0] rfl rfl 29 _ HR.out (by kernel_rfl) rfl (by simp [Value.oneCell']) ?_)
  have HR2 := Lib.hid (setRow_heap _ _ _ #[.int .i64 0, .int .i64 0, .int .i64 0, .int .i64 0, .int .i64 0, .int .i64 0, .int .u64 0, .int .u64 0, .string ⟨#[]⟩, .bool false, .int .u64 0, .bool false, .string ⟨#[]⟩, .slice none 0 0, .string ⟨#[]⟩, .int .u64 0, .int .u64 0] _ _ HR.out)
  have HB2 := Lib.hid (below_setRow HB.out hrr #[.int .i64 0, .int .i64 0, .int .i64 0, .int .i64 0, .int .i64 0, .int .i64 0, .int .u64 0, .int .u64 0, .string ⟨#[]⟩, .bool false, .int .u64 0, .bool false, .string ⟨#[]⟩, .slice none 0 0, .string ⟨#[]⟩, .int .u64 0, .int .u64 0])
  refine bodyPost_ret (res_ct (a := ⟨?g2, 0, none⟩) (v := .agg ?cs2) rfl ?hp2 (load_row (g := ?g2) (cs := ?cs2) (t := ?t2) (fr := ?fr2) ?hrow2 _ _ Try.underlying29 rfl ?hi2)) rfl ?_
  case hp2 => rfl
  case hrow2 => (refine HR2.out <;> simp only [Go.Deep.nblk_alloc])
  case hi2 => exact (by kernel_rfl)
  exact ⟨rfl, HB2.out⟩
set_option maxRecDepth 100000 in
set_option maxHeartbeats 8000000 in
theorem rproject_crit1 (m : MsgS) (A : Option Addr) (n c : Nat) (w : World) (z : m.Z) (hw : Wrs w A n m.ws) (h0 : rightB m = true) (hm : m.must ≠ 0) :
    Calls Try.prog 12 #[.int .i64 1, .agg (m.arr A n c)] w fun e w' => e = .returned (.tuple #[.agg (zeroM.arr none 0 0), .int .i64 4]) ∧ Below w.heap.size w w' := by
  have KV := Lib.hid (fun w => last_any 1 w)
  rw [show knownS 1 = 9 from rfl] at KV
  have RT := Lib.hid (fun (w : World) (hw : Wrs w A n m.ws) => rright_any m A n c w z hw)
  have hb1 := below_alloc (Below.refl _ w) (.cells (m.arr A n c) 29)
  have hb2 := below_alloc (Below.refl _ (w.alloc (.cells (m.arr A n c) 29))) (.cells (zeroM.arr none 0 0) 29)
  have HW := Lib.hid ((hw.below hb1).below hb2)
  have HB := Lib.hid (hb1.trans (hb2.mono hb1.size))
  have HP := Lib.hid (show IsMsg _ w.heap.size m A n c from blk_below (blk_new w (.cells (m.arr A n c) 29)) hb2)
  have HR := Lib.hid (show IsMsg ((w.alloc (.cells (m.arr A n c) 29)).alloc (.cells (zeroM.arr none 0 0) 29)) (w.heap.size + 1) zeroM none 0 0 from by have := blk_new (w.alloc (.cells (m.arr A n c) 29)) (.cells (zeroM.arr none 0 0) 29); rw [World.size_alloc] at this; exact this)
  have MC := Lib.hid (fun w' (h : IsMsg w' w.heap.size m A n c) => mcells h)
  clear hw z hb1 hb2
  rw [h0] at RT
  clear h0
  have ym : ((m.must : Int) != 0) = true := by simp; exact hm
  clear hm
  unfold IsMsg MsgS.arr zeroM at *
  simp only at *
  obtain ⟨p0, p1, p2, p3, p4, p5, p6, p7, p8, p9, p10, p11, p12, p13, p14, p15, p16⟩ := MC.out _ HP.out
  go_enter Try.func12, Try.ntmps12
  go_wp2_with fail
  refine (KV.out _).mono ?_
  rintro e wk ⟨rfl, rfl⟩
  go_wp2_with fail
  refine (RT.out _ HW.out).mono ?_
  rintro e wq ⟨rfl, hb⟩
  replace HB := Lib.hid (HB.out.trans (hb.mono HB.out.size))
  replace HP := Lib.hid (blk_below HP.out hb)
  replace HR := Lib.hid (blk_below HR.out hb)
  clear p0 p1 p2 p3 p4 p5 p6 p7 p8 p9 p10 p11 p12 p13 p14 p15 p16 hb
  have p16 := (blk_cell HP.out 16).trans rfl
  have hrr : w.heap.size ≤ w.heap.size + 1 := by omega
  go_wp2_with (first | refine wpList_store_row rfl 29 _ _ rfl (w.heap.size + 1) #[.int .i64 0, .int .i64 0, .int .i64 0, .int .i64 0, .int .i64 0, .int .i64 0, .int .u64 0, .int .u64 0, .string ⟨#[]⟩, .bool false, .int .u64 0, .bool false, .string ⟨#[]⟩, .slice none 0 0, .string ⟨#[]⟩, .int .u64 0, .int .u64 0] rfl rfl 29 _ HR.out (by kernel_rfl) rfl (by simp [Value.oneCell']) ?_)
  have HR2 := Lib.hid (setRow_heap _ _ _ #[.int .i64 0, .int .i64 0, .int .i64 0, .int .i64 0, .int .i64 0, .int .i64 0, .int .u64 0, .int .u64 0, .string ⟨#[]⟩, .bool false, .int .u64 0, .bool false, .string ⟨#[]⟩, .slice none 0 0, .string ⟨#[]⟩, .int .u64 0, .int .u64 0] _ _ HR.out)
  have HB2 := Lib.hid (below_setRow HB.out hrr #[.int .i64 0, .int .i64 0, .int .i64 0, .int .i64 0, .int .i64 0, .int .i64 0, .int .u64 0, .int .u64 0, .string ⟨#[]⟩, .bool false, .int .u64 0, .bool false, .string ⟨#[]⟩, .slice none 0 0, .string ⟨#[]⟩, .int .u64 0, .int .u64 0])
  refine bodyPost_ret (res_ct (a := ⟨?g3, 0, none⟩) (v := .agg ?cs3) rfl ?hp3 (load_row (g := ?g3) (cs := ?cs3) (t := ?t3) (fr := ?fr3) ?hrow3 _ _ Try.underlying29 rfl ?hi3)) rfl ?_
  case hp3 => rfl
  case hrow3 => (refine HR2.out <;> simp only [Go.Deep.nblk_alloc])
  case hi3 => exact (by kernel_rfl)
  exact ⟨rfl, HB2.out⟩
set_option maxRecDepth 100000 in
set_option maxHeartbeats 8000000 in
theorem rproject_ok1 (m : MsgS) (A : Option Addr) (n c : Nat) (w : World) (z : m.Z) (hw : Wrs w A n m.ws) (h0 : rightB m = true) (hm : m.must = 0) :
    Calls Try.prog 12 #[.int .i64 1, .agg (m.arr A n c)] w fun e w' => e = .returned (.tuple #[.agg ((projS 1 m).arr A n c), .int .i64 0]) ∧ Below w.heap.size w w' := by
  have KV := Lib.hid (fun w => last_any 1 w)
  rw [show knownS 1 = 9 from rfl] at KV
  have RT := Lib.hid (fun (w : World) (hw : Wrs w A n m.ws) => rright_any m A n c w z hw)
  have hb1 := below_alloc (Below.refl _ w) (.cells (m.arr A n c) 29)
  have hb2 := below_alloc (Below.refl _ (w.alloc (.cells (m.arr A n c) 29))) (.cells (zeroM.arr none 0 0) 29)
  have HW := Lib.hid ((hw.below hb1).below hb2)
  have HB := Lib.hid (hb1.trans (hb2.mono hb1.size))
  have HP := Lib.hid (show IsMsg _ w.heap.size m A n c from blk_below (blk_new w (.cells (m.arr A n c) 29)) hb2)
  have HR := Lib.hid (show IsMsg ((w.alloc (.cells (m.arr A n c) 29)).alloc (.cells (zeroM.arr none 0 0) 29)) (w.heap.size + 1) zeroM none 0 0 from by have := blk_new (w.alloc (.cells (m.arr A n c) 29)) (.cells (zeroM.arr none 0 0) 29); rw [World.size_alloc] at this; exact this)
  have MC := Lib.hid (fun w' (h : IsMsg w' w.heap.size m A n c) => mcells h)
  clear hw z hb1 hb2
  rw [h0] at RT
  clear h0
  have ym : ((m.must : Int) != 0) = false := by simp; exact hm
  clear hm
  have HPJ := Lib.hid (show (projS 1 m).arr A n c = #[.int .i64 m.kind, .int .i64 m.frm, .int .i64 m.tow, .int .i64 m.node, .int .i64 m.life, .int .i64 m.seq, .int .u64 m.a, .int .u64 m.b, .string m.key, .bool m.found, .int .u64 m.time, .bool m.gone, .string m.value, .slice A n c, .string ⟨#[]⟩, .int .u64 0, .int .u64 m.must] from rfl)
  rw [HPJ.out]
  clear HPJ
  unfold IsMsg MsgS.arr zeroM at *
  simp only at *
  obtain ⟨p0, p1, p2, p3, p4, p5, p6, p7, p8, p9, p10, p11, p12, p13, p14, p15, p16⟩ := MC.out _ HP.out
  go_enter Try.func12, Try.ntmps12
  go_wp2_with fail
  refine (KV.out _).mono ?_
  rintro e wk ⟨rfl, rfl⟩
  go_wp2_with fail
  refine (RT.out _ HW.out).mono ?_
  rintro e wq ⟨rfl, hb⟩
  replace HB := Lib.hid (HB.out.trans (hb.mono HB.out.size))
  replace HP := Lib.hid (blk_below HP.out hb)
  replace HR := Lib.hid (blk_below HR.out hb)
  clear p0 p1 p2 p3 p4 p5 p6 p7 p8 p9 p10 p11 p12 p13 p14 p15 p16 hb
  have p16 := (blk_cell HP.out 16).trans rfl
  have hne : w.heap.size + 1 ≠ w.heap.size := by omega
  have hrr : w.heap.size ≤ w.heap.size + 1 := by omega
  have q14 := (blk_cell HP.out 14).trans rfl
  have q15 := (blk_cell HP.out 15).trans rfl
  have f14 := blk_frozen HP.out 14
  have f15 := blk_frozen HP.out 15
  go_wp2_with (first | refine wpList_load_row rfl 29 _ rfl w.heap.size rfl 29 #[.int .i64 m.kind, .int .i64 m.frm, .int .i64 m.tow, .int .i64 m.node, .int .i64 m.life, .int .i64 m.seq, .int .u64 m.a, .int .u64 m.b, .string m.key, .bool m.found, .int .u64 m.time, .bool m.gone, .string m.value, .slice A n c, .string ⟨#[]⟩, .int .u64 0, .int .u64 m.must] (0, 0) _ (blk_set (blk_set HP.out 15 (.int .u64 0)) 14 (.string ⟨#[]⟩)) Try.underlying29 rfl (by kernel_rfl) ?_ | refine wpList_store_row rfl 29 _ _ rfl (w.heap.size + 1) #[.int .i64 m.kind, .int .i64 m.frm, .int .i64 m.tow, .int .i64 m.node, .int .i64 m.life, .int .i64 m.seq, .int .u64 m.a, .int .u64 m.b, .string m.key, .bool m.found, .int .u64 m.time, .bool m.gone, .string m.value, .slice A n c, .string ⟨#[]⟩, .int .u64 0, .int .u64 m.must] rfl rfl 29 _ (blk_far (blk_far HR.out (p := ⟨w.heap.size, 15, none⟩) hne (.int .u64 0)) (p := ⟨w.heap.size, 14, none⟩) hne (.string ⟨#[]⟩)) (by kernel_rfl) rfl (by simp [Value.oneCell']) ?_)
  have HR2 := Lib.hid (setRow_heap _ _ _ #[.int .i64 m.kind, .int .i64 m.frm, .int .i64 m.tow, .int .i64 m.node, .int .i64 m.life, .int .i64 m.seq, .int .u64 m.a, .int .u64 m.b, .string m.key, .bool m.found, .int .u64 m.time, .bool m.gone, .string m.value, .slice A n c, .string ⟨#[]⟩, .int .u64 0, .int .u64 m.must] _ _ (blk_far (blk_far HR.out (p := ⟨w.heap.size, 15, none⟩) hne (.int .u64 0)) (p := ⟨w.heap.size, 14, none⟩) hne (.string ⟨#[]⟩)))
  have HB2 := Lib.hid (below_setRow (below_setc (p := ⟨w.heap.size, 14, none⟩) (below_setc (p := ⟨w.heap.size, 15, none⟩) HB.out (Nat.le_refl _) (.int .u64 0)) (Nat.le_refl _) (.string ⟨#[]⟩)) hrr #[.int .i64 m.kind, .int .i64 m.frm, .int .i64 m.tow, .int .i64 m.node, .int .i64 m.life, .int .i64 m.seq, .int .u64 m.a, .int .u64 m.b, .string m.key, .bool m.found, .int .u64 m.time, .bool m.gone, .string m.value, .slice A n c, .string ⟨#[]⟩, .int .u64 0, .int .u64 m.must])
  refine bodyPost_ret (res_ct (a := ⟨?g4, 0, none⟩) (v := .agg ?cs4) rfl ?hp4 (load_row (g := ?g4) (cs := ?cs4) (t := ?t4) (fr := ?fr4) ?hrow4 _ _ Try.underlying29 rfl ?hi4)) rfl ?_
  case hp4 => rfl
  case hrow4 => (refine HR2.out <;> simp only [Go.Deep.nblk_alloc])
  case hi4 => exact (by kernel_rfl)
  exact ⟨rfl, HB2.out⟩
set_option maxRecDepth 100000 in
set_option maxHeartbeats 8000000 in
theorem rproject_bad2 (m : MsgS) (A : Option Addr) (n c : Nat) (w : World) (z : m.Z) (hw : Wrs w A n m.ws) (h0 : rightB m = false) :
    Calls Try.prog 12 #[.int .i64 2, .agg (m.arr A n c)] w fun e w' => e = .returned (.tuple #[.agg (zeroM.arr none 0 0), .int .i64 1]) ∧ Below w.heap.size w w' := by
  have KV := Lib.hid (fun w => last_any 2 w)
  rw [show knownS 2 = 10 from rfl] at KV
  have RT := Lib.hid (fun (w : World) (hw : Wrs w A n m.ws) => rright_any m A n c w z hw)
  have hb1 := below_alloc (Below.refl _ w) (.cells (m.arr A n c) 29)
  have hb2 := below_alloc (Below.refl _ (w.alloc (.cells (m.arr A n c) 29))) (.cells (zeroM.arr none 0 0) 29)
  have HW := Lib.hid ((hw.below hb1).below hb2)
  have HB := Lib.hid (hb1.trans (hb2.mono hb1.size))
  have HP := Lib.hid (show IsMsg _ w.heap.size m A n c from blk_below (blk_new w (.cells (m.arr A n c) 29)) hb2)
  have HR := Lib.hid (show IsMsg ((w.alloc (.cells (m.arr A n c) 29)).alloc (.cells (zeroM.arr none 0 0) 29)) (w.heap.size + 1) zeroM none 0 0 from by have := blk_new (w.alloc (.cells (m.arr A n c) 29)) (.cells (zeroM.arr none 0 0) 29); rw [World.size_alloc] at this; exact this)
  have MC := Lib.hid (fun w' (h : IsMsg w' w.heap.size m A n c) => mcells h)
  clear hw z hb1 hb2
  rw [h0] at RT
  clear h0
  unfold IsMsg MsgS.arr zeroM at *
  simp only at *
  obtain ⟨p0, p1, p2, p3, p4, p5, p6, p7, p8, p9, p10, p11, p12, p13, p14, p15, p16⟩ := MC.out _ HP.out
  go_enter Try.func12, Try.ntmps12
  go_wp2_with fail
  refine (KV.out _).mono ?_
  rintro e wk ⟨rfl, rfl⟩
  go_wp2_with fail
  refine (RT.out _ HW.out).mono ?_
  rintro e wq ⟨rfl, hb⟩
  replace HB := Lib.hid (HB.out.trans (hb.mono HB.out.size))
  replace HP := Lib.hid (blk_below HP.out hb)
  replace HR := Lib.hid (blk_below HR.out hb)
  clear p0 p1 p2 p3 p4 p5 p6 p7 p8 p9 p10 p11 p12 p13 p14 p15 p16 hb
  have p16 := (blk_cell HP.out 16).trans rfl
  have hrr : w.heap.size ≤ w.heap.size + 1 := by omega
  go_wp2_with (first | refine wpList_store_row rfl 29 _ _ rfl (w.heap.size + 1) #[.int .i64 0, .int .i64 0, .int .i64 0, .int .i64 0, .int .i64 0, .int .i64 0, .int .u64 0, .int .u64 0, .string ⟨#[]⟩, .bool false, .int .u64 0, .bool false, .string ⟨#[]⟩, .slice none 0 0, .string ⟨#[]⟩, .int .u64 0, .int .u64 0] rfl rfl 29 _ HR.out (by kernel_rfl) rfl (by simp [Value.oneCell']) ?_)
  have HR2 := Lib.hid (setRow_heap _ _ _ #[.int .i64 0, .int .i64 0, .int .i64 0, .int .i64 0, .int .i64 0, .int .i64 0, .int .u64 0, .int .u64 0, .string ⟨#[]⟩, .bool false, .int .u64 0, .bool false, .string ⟨#[]⟩, .slice none 0 0, .string ⟨#[]⟩, .int .u64 0, .int .u64 0] _ _ HR.out)
  have HB2 := Lib.hid (below_setRow HB.out hrr #[.int .i64 0, .int .i64 0, .int .i64 0, .int .i64 0, .int .i64 0, .int .i64 0, .int .u64 0, .int .u64 0, .string ⟨#[]⟩, .bool false, .int .u64 0, .bool false, .string ⟨#[]⟩, .slice none 0 0, .string ⟨#[]⟩, .int .u64 0, .int .u64 0])
  refine bodyPost_ret (res_ct (a := ⟨?g5, 0, none⟩) (v := .agg ?cs5) rfl ?hp5 (load_row (g := ?g5) (cs := ?cs5) (t := ?t5) (fr := ?fr5) ?hrow5 _ _ Try.underlying29 rfl ?hi5)) rfl ?_
  case hp5 => rfl
  case hrow5 => (refine HR2.out <;> simp only [Go.Deep.nblk_alloc])
  case hi5 => exact (by kernel_rfl)
  exact ⟨rfl, HB2.out⟩
set_option maxRecDepth 100000 in
set_option maxHeartbeats 8000000 in
theorem rproject_crit2 (m : MsgS) (A : Option Addr) (n c : Nat) (w : World) (z : m.Z) (hw : Wrs w A n m.ws) (h0 : rightB m = true) (hm : m.must ≠ 0) :
    Calls Try.prog 12 #[.int .i64 2, .agg (m.arr A n c)] w fun e w' => e = .returned (.tuple #[.agg (zeroM.arr none 0 0), .int .i64 4]) ∧ Below w.heap.size w w' := by
  have KV := Lib.hid (fun w => last_any 2 w)
  rw [show knownS 2 = 10 from rfl] at KV
  have RT := Lib.hid (fun (w : World) (hw : Wrs w A n m.ws) => rright_any m A n c w z hw)
  have hb1 := below_alloc (Below.refl _ w) (.cells (m.arr A n c) 29)
  have hb2 := below_alloc (Below.refl _ (w.alloc (.cells (m.arr A n c) 29))) (.cells (zeroM.arr none 0 0) 29)
  have HW := Lib.hid ((hw.below hb1).below hb2)
  have HB := Lib.hid (hb1.trans (hb2.mono hb1.size))
  have HP := Lib.hid (show IsMsg _ w.heap.size m A n c from blk_below (blk_new w (.cells (m.arr A n c) 29)) hb2)
  have HR := Lib.hid (show IsMsg ((w.alloc (.cells (m.arr A n c) 29)).alloc (.cells (zeroM.arr none 0 0) 29)) (w.heap.size + 1) zeroM none 0 0 from by have := blk_new (w.alloc (.cells (m.arr A n c) 29)) (.cells (zeroM.arr none 0 0) 29); rw [World.size_alloc] at this; exact this)
  have MC := Lib.hid (fun w' (h : IsMsg w' w.heap.size m A n c) => mcells h)
  clear hw z hb1 hb2
  rw [h0] at RT
  clear h0
  have ym : ((m.must : Int) != 0) = true := by simp; exact hm
  clear hm
  unfold IsMsg MsgS.arr zeroM at *
  simp only at *
  obtain ⟨p0, p1, p2, p3, p4, p5, p6, p7, p8, p9, p10, p11, p12, p13, p14, p15, p16⟩ := MC.out _ HP.out
  go_enter Try.func12, Try.ntmps12
  go_wp2_with fail
  refine (KV.out _).mono ?_
  rintro e wk ⟨rfl, rfl⟩
  go_wp2_with fail
  refine (RT.out _ HW.out).mono ?_
  rintro e wq ⟨rfl, hb⟩
  replace HB := Lib.hid (HB.out.trans (hb.mono HB.out.size))
  replace HP := Lib.hid (blk_below HP.out hb)
  replace HR := Lib.hid (blk_below HR.out hb)
  clear p0 p1 p2 p3 p4 p5 p6 p7 p8 p9 p10 p11 p12 p13 p14 p15 p16 hb
  have p16 := (blk_cell HP.out 16).trans rfl
  have hrr : w.heap.size ≤ w.heap.size + 1 := by omega
  go_wp2_with (first | refine wpList_store_row rfl 29 _ _ rfl (w.heap.size + 1) #[.int .i64 0, .int .i64 0, .int .i64 0, .int .i64 0, .int .i64 0, .int .i64 0, .int .u64 0, .int .u64 0, .string ⟨#[]⟩, .bool false, .int .u64 0, .bool false, .string ⟨#[]⟩, .slice none 0 0, .string ⟨#[]⟩, .int .u64 0, .int .u64 0] rfl rfl 29 _ HR.out (by kernel_rfl) rfl (by simp [Value.oneCell']) ?_)
  have HR2 := Lib.hid (setRow_heap _ _ _ #[.int .i64 0, .int .i64 0, .int .i64 0, .int .i64 0, .int .i64 0, .int .i64 0, .int .u64 0, .int .u64 0, .string ⟨#[]⟩, .bool false, .int .u64 0, .bool false, .string ⟨#[]⟩, .slice none 0 0, .string ⟨#[]⟩, .int .u64 0, .int .u64 0] _ _ HR.out)
  have HB2 := Lib.hid (below_setRow HB.out hrr #[.int .i64 0, .int .i64 0, .int .i64 0, .int .i64 0, .int .i64 0, .int .i64 0, .int .u64 0, .int .u64 0, .string ⟨#[]⟩, .bool false, .int .u64 0, .bool false, .string ⟨#[]⟩, .slice none 0 0, .string ⟨#[]⟩, .int .u64 0, .int .u64 0])
  refine bodyPost_ret (res_ct (a := ⟨?g6, 0, none⟩) (v := .agg ?cs6) rfl ?hp6 (load_row (g := ?g6) (cs := ?cs6) (t := ?t6) (fr := ?fr6) ?hrow6 _ _ Try.underlying29 rfl ?hi6)) rfl ?_
  case hp6 => rfl
  case hrow6 => (refine HR2.out <;> simp only [Go.Deep.nblk_alloc])
  case hi6 => exact (by kernel_rfl)
  exact ⟨rfl, HB2.out⟩
set_option maxRecDepth 100000 in
set_option maxHeartbeats 8000000 in
theorem rproject_ok2 (m : MsgS) (A : Option Addr) (n c : Nat) (w : World) (z : m.Z) (hw : Wrs w A n m.ws) (h0 : rightB m = true) (hm : m.must = 0) :
    Calls Try.prog 12 #[.int .i64 2, .agg (m.arr A n c)] w fun e w' => e = .returned (.tuple #[.agg ((projS 2 m).arr A n c), .int .i64 0]) ∧ Below w.heap.size w w' := by
  have KV := Lib.hid (fun w => last_any 2 w)
  rw [show knownS 2 = 10 from rfl] at KV
  have RT := Lib.hid (fun (w : World) (hw : Wrs w A n m.ws) => rright_any m A n c w z hw)
  have hb1 := below_alloc (Below.refl _ w) (.cells (m.arr A n c) 29)
  have hb2 := below_alloc (Below.refl _ (w.alloc (.cells (m.arr A n c) 29))) (.cells (zeroM.arr none 0 0) 29)
  have HW := Lib.hid ((hw.below hb1).below hb2)
  have HB := Lib.hid (hb1.trans (hb2.mono hb1.size))
  have HP := Lib.hid (show IsMsg _ w.heap.size m A n c from blk_below (blk_new w (.cells (m.arr A n c) 29)) hb2)
  have HR := Lib.hid (show IsMsg ((w.alloc (.cells (m.arr A n c) 29)).alloc (.cells (zeroM.arr none 0 0) 29)) (w.heap.size + 1) zeroM none 0 0 from by have := blk_new (w.alloc (.cells (m.arr A n c) 29)) (.cells (zeroM.arr none 0 0) 29); rw [World.size_alloc] at this; exact this)
  have MC := Lib.hid (fun w' (h : IsMsg w' w.heap.size m A n c) => mcells h)
  clear hw z hb1 hb2
  rw [h0] at RT
  clear h0
  have ym : ((m.must : Int) != 0) = false := by simp; exact hm
  clear hm
  have HPJ := Lib.hid (show (projS 2 m).arr A n c = #[.int .i64 m.kind, .int .i64 m.frm, .int .i64 m.tow, .int .i64 m.node, .int .i64 m.life, .int .i64 m.seq, .int .u64 m.a, .int .u64 m.b, .string m.key, .bool m.found, .int .u64 m.time, .bool m.gone, .string m.value, .slice A n c, .string m.note, .int .u64 0, .int .u64 m.must] from rfl)
  rw [HPJ.out]
  clear HPJ
  unfold IsMsg MsgS.arr zeroM at *
  simp only at *
  obtain ⟨p0, p1, p2, p3, p4, p5, p6, p7, p8, p9, p10, p11, p12, p13, p14, p15, p16⟩ := MC.out _ HP.out
  go_enter Try.func12, Try.ntmps12
  go_wp2_with fail
  refine (KV.out _).mono ?_
  rintro e wk ⟨rfl, rfl⟩
  go_wp2_with fail
  refine (RT.out _ HW.out).mono ?_
  rintro e wq ⟨rfl, hb⟩
  replace HB := Lib.hid (HB.out.trans (hb.mono HB.out.size))
  replace HP := Lib.hid (blk_below HP.out hb)
  replace HR := Lib.hid (blk_below HR.out hb)
  clear p0 p1 p2 p3 p4 p5 p6 p7 p8 p9 p10 p11 p12 p13 p14 p15 p16 hb
  have p16 := (blk_cell HP.out 16).trans rfl
  have hne : w.heap.size + 1 ≠ w.heap.size := by omega
  have hrr : w.heap.size ≤ w.heap.size + 1 := by omega
  have q14 := (blk_cell HP.out 14).trans rfl
  have q15 := (blk_cell HP.out 15).trans rfl
  have f14 := blk_frozen HP.out 14
  have f15 := blk_frozen HP.out 15
  go_wp2_with (first | refine wpList_load_row rfl 29 _ rfl w.heap.size rfl 29 #[.int .i64 m.kind, .int .i64 m.frm, .int .i64 m.tow, .int .i64 m.node, .int .i64 m.life, .int .i64 m.seq, .int .u64 m.a, .int .u64 m.b, .string m.key, .bool m.found, .int .u64 m.time, .bool m.gone, .string m.value, .slice A n c, .string m.note, .int .u64 0, .int .u64 m.must] (0, 0) _ (blk_set HP.out 15 (.int .u64 0)) Try.underlying29 rfl (by kernel_rfl) ?_ | refine wpList_store_row rfl 29 _ _ rfl (w.heap.size + 1) #[.int .i64 m.kind, .int .i64 m.frm, .int .i64 m.tow, .int .i64 m.node, .int .i64 m.life, .int .i64 m.seq, .int .u64 m.a, .int .u64 m.b, .string m.key, .bool m.found, .int .u64 m.time, .bool m.gone, .string m.value, .slice A n c, .string m.note, .int .u64 0, .int .u64 m.must] rfl rfl 29 _ (blk_far HR.out (p := ⟨w.heap.size, 15, none⟩) hne (.int .u64 0)) (by kernel_rfl) rfl (by simp [Value.oneCell']) ?_)
  have HR2 := Lib.hid (setRow_heap _ _ _ #[.int .i64 m.kind, .int .i64 m.frm, .int .i64 m.tow, .int .i64 m.node, .int .i64 m.life, .int .i64 m.seq, .int .u64 m.a, .int .u64 m.b, .string m.key, .bool m.found, .int .u64 m.time, .bool m.gone, .string m.value, .slice A n c, .string m.note, .int .u64 0, .int .u64 m.must] _ _ (blk_far HR.out (p := ⟨w.heap.size, 15, none⟩) hne (.int .u64 0)))
  have HB2 := Lib.hid (below_setRow (below_setc (p := ⟨w.heap.size, 15, none⟩) HB.out (Nat.le_refl _) (.int .u64 0)) hrr #[.int .i64 m.kind, .int .i64 m.frm, .int .i64 m.tow, .int .i64 m.node, .int .i64 m.life, .int .i64 m.seq, .int .u64 m.a, .int .u64 m.b, .string m.key, .bool m.found, .int .u64 m.time, .bool m.gone, .string m.value, .slice A n c, .string m.note, .int .u64 0, .int .u64 m.must])
  refine bodyPost_ret (res_ct (a := ⟨?g7, 0, none⟩) (v := .agg ?cs7) rfl ?hp7 (load_row (g := ?g7) (cs := ?cs7) (t := ?t7) (fr := ?fr7) ?hrow7 _ _ Try.underlying29 rfl ?hi7)) rfl ?_
  case hp7 => rfl
  case hrow7 => (refine HR2.out <;> simp only [Go.Deep.nblk_alloc])
  case hi7 => exact (by kernel_rfl)
  exact ⟨rfl, HB2.out⟩
set_option maxRecDepth 100000 in
set_option maxHeartbeats 8000000 in
theorem rproject_bad3 (m : MsgS) (A : Option Addr) (n c : Nat) (w : World) (z : m.Z) (hw : Wrs w A n m.ws) (h0 : rightB m = false) :
    Calls Try.prog 12 #[.int .i64 3, .agg (m.arr A n c)] w fun e w' => e = .returned (.tuple #[.agg (zeroM.arr none 0 0), .int .i64 1]) ∧ Below w.heap.size w w' := by
  have KV := Lib.hid (fun w => last_any 3 w)
  rw [show knownS 3 = 12 from rfl] at KV
  have RT := Lib.hid (fun (w : World) (hw : Wrs w A n m.ws) => rright_any m A n c w z hw)
  have hb1 := below_alloc (Below.refl _ w) (.cells (m.arr A n c) 29)
  have hb2 := below_alloc (Below.refl _ (w.alloc (.cells (m.arr A n c) 29))) (.cells (zeroM.arr none 0 0) 29)
  have HW := Lib.hid ((hw.below hb1).below hb2)
  have HB := Lib.hid (hb1.trans (hb2.mono hb1.size))
  have HP := Lib.hid (show IsMsg _ w.heap.size m A n c from blk_below (blk_new w (.cells (m.arr A n c) 29)) hb2)
  have HR := Lib.hid (show IsMsg ((w.alloc (.cells (m.arr A n c) 29)).alloc (.cells (zeroM.arr none 0 0) 29)) (w.heap.size + 1) zeroM none 0 0 from by have := blk_new (w.alloc (.cells (m.arr A n c) 29)) (.cells (zeroM.arr none 0 0) 29); rw [World.size_alloc] at this; exact this)
  have MC := Lib.hid (fun w' (h : IsMsg w' w.heap.size m A n c) => mcells h)
  clear hw z hb1 hb2
  rw [h0] at RT
  clear h0
  unfold IsMsg MsgS.arr zeroM at *
  simp only at *
  obtain ⟨p0, p1, p2, p3, p4, p5, p6, p7, p8, p9, p10, p11, p12, p13, p14, p15, p16⟩ := MC.out _ HP.out
  go_enter Try.func12, Try.ntmps12
  go_wp2_with fail
  refine (KV.out _).mono ?_
  rintro e wk ⟨rfl, rfl⟩
  go_wp2_with fail
  refine (RT.out _ HW.out).mono ?_
  rintro e wq ⟨rfl, hb⟩
  replace HB := Lib.hid (HB.out.trans (hb.mono HB.out.size))
  replace HP := Lib.hid (blk_below HP.out hb)
  replace HR := Lib.hid (blk_below HR.out hb)
  clear p0 p1 p2 p3 p4 p5 p6 p7 p8 p9 p10 p11 p12 p13 p14 p15 p16 hb
  have p16 := (blk_cell HP.out 16).trans rfl
  have hrr : w.heap.size ≤ w.heap.size + 1 := by omega
  go_wp2_with (first | refine wpList_store_row rfl 29 _ _ rfl (w.heap.size + 1) #[.int .i64 0, .int .i64 0, .int .i64 0, .int .i64 0, .int .i64 0, .int .i64 0, .int .u64 0, .int .u64 0, .string ⟨#[]⟩, .bool false, .int .u64 0, .bool false, .string ⟨#[]⟩, .slice none 0 0, .string ⟨#[]⟩, .int .u64 0, .int .u64 0] rfl rfl 29 _ HR.out (by kernel_rfl) rfl (by simp [Value.oneCell']) ?_)
  have HR2 := Lib.hid (setRow_heap _ _ _ #[.int .i64 0, .int .i64 0, .int .i64 0, .int .i64 0, .int .i64 0, .int .i64 0, .int .u64 0, .int .u64 0, .string ⟨#[]⟩, .bool false, .int .u64 0, .bool false, .string ⟨#[]⟩, .slice none 0 0, .string ⟨#[]⟩, .int .u64 0, .int .u64 0] _ _ HR.out)
  have HB2 := Lib.hid (below_setRow HB.out hrr #[.int .i64 0, .int .i64 0, .int .i64 0, .int .i64 0, .int .i64 0, .int .i64 0, .int .u64 0, .int .u64 0, .string ⟨#[]⟩, .bool false, .int .u64 0, .bool false, .string ⟨#[]⟩, .slice none 0 0, .string ⟨#[]⟩, .int .u64 0, .int .u64 0])
  refine bodyPost_ret (res_ct (a := ⟨?g8, 0, none⟩) (v := .agg ?cs8) rfl ?hp8 (load_row (g := ?g8) (cs := ?cs8) (t := ?t8) (fr := ?fr8) ?hrow8 _ _ Try.underlying29 rfl ?hi8)) rfl ?_
  case hp8 => rfl
  case hrow8 => (refine HR2.out <;> simp only [Go.Deep.nblk_alloc])
  case hi8 => exact (by kernel_rfl)
  exact ⟨rfl, HB2.out⟩
set_option maxRecDepth 100000 in
set_option maxHeartbeats 8000000 in
theorem rproject_ok3 (m : MsgS) (A : Option Addr) (n c : Nat) (w : World) (z : m.Z) (hw : Wrs w A n m.ws) (h0 : rightB m = true) :
    Calls Try.prog 12 #[.int .i64 3, .agg (m.arr A n c)] w fun e w' => e = .returned (.tuple #[.agg ((projS 3 m).arr A n c), .int .i64 0]) ∧ Below w.heap.size w w' := by
  have KV := Lib.hid (fun w => last_any 3 w)
  rw [show knownS 3 = 12 from rfl] at KV
  have RT := Lib.hid (fun (w : World) (hw : Wrs w A n m.ws) => rright_any m A n c w z hw)
  have hb1 := below_alloc (Below.refl _ w) (.cells (m.arr A n c) 29)
  have hb2 := below_alloc (Below.refl _ (w.alloc (.cells (m.arr A n c) 29))) (.cells (zeroM.arr none 0 0) 29)
  have HW := Lib.hid ((hw.below hb1).below hb2)
  have HB := Lib.hid (hb1.trans (hb2.mono hb1.size))
  have HP := Lib.hid (show IsMsg _ w.heap.size m A n c from blk_below (blk_new w (.cells (m.arr A n c) 29)) hb2)
  have HR := Lib.hid (show IsMsg ((w.alloc (.cells (m.arr A n c) 29)).alloc (.cells (zeroM.arr none 0 0) 29)) (w.heap.size + 1) zeroM none 0 0 from by have := blk_new (w.alloc (.cells (m.arr A n c) 29)) (.cells (zeroM.arr none 0 0) 29); rw [World.size_alloc] at this; exact this)
  have MC := Lib.hid (fun w' (h : IsMsg w' w.heap.size m A n c) => mcells h)
  clear hw z hb1 hb2
  rw [h0] at RT
  clear h0
  have HPJ := Lib.hid (show (projS 3 m).arr A n c = #[.int .i64 m.kind, .int .i64 m.frm, .int .i64 m.tow, .int .i64 m.node, .int .i64 m.life, .int .i64 m.seq, .int .u64 m.a, .int .u64 m.b, .string m.key, .bool m.found, .int .u64 m.time, .bool m.gone, .string m.value, .slice A n c, .string m.note, .int .u64 m.hint, .int .u64 m.must] from rfl)
  rw [HPJ.out]
  clear HPJ
  unfold IsMsg MsgS.arr zeroM at *
  simp only at *
  obtain ⟨p0, p1, p2, p3, p4, p5, p6, p7, p8, p9, p10, p11, p12, p13, p14, p15, p16⟩ := MC.out _ HP.out
  go_enter Try.func12, Try.ntmps12
  go_wp2_with fail
  refine (KV.out _).mono ?_
  rintro e wk ⟨rfl, rfl⟩
  go_wp2_with fail
  refine (RT.out _ HW.out).mono ?_
  rintro e wq ⟨rfl, hb⟩
  replace HB := Lib.hid (HB.out.trans (hb.mono HB.out.size))
  replace HP := Lib.hid (blk_below HP.out hb)
  replace HR := Lib.hid (blk_below HR.out hb)
  clear p0 p1 p2 p3 p4 p5 p6 p7 p8 p9 p10 p11 p12 p13 p14 p15 p16 hb
  have p16 := (blk_cell HP.out 16).trans rfl
  have hne : w.heap.size + 1 ≠ w.heap.size := by omega
  have hrr : w.heap.size ≤ w.heap.size + 1 := by omega
  have q14 := (blk_cell HP.out 14).trans rfl
  have q15 := (blk_cell HP.out 15).trans rfl
  have f14 := blk_frozen HP.out 14
  have f15 := blk_frozen HP.out 15
  go_wp2_with (first | refine wpList_load_row rfl 29 _ rfl w.heap.size rfl 29 #[.int .i64 m.kind, .int .i64 m.frm, .int .i64 m.tow, .int .i64 m.node, .int .i64 m.life, .int .i64 m.seq, .int .u64 m.a, .int .u64 m.b, .string m.key, .bool m.found, .int .u64 m.time, .bool m.gone, .string m.value, .slice A n c, .string m.note, .int .u64 m.hint, .int .u64 m.must] (0, 0) _ HP.out Try.underlying29 rfl (by kernel_rfl) ?_ | refine wpList_store_row rfl 29 _ _ rfl (w.heap.size + 1) #[.int .i64 m.kind, .int .i64 m.frm, .int .i64 m.tow, .int .i64 m.node, .int .i64 m.life, .int .i64 m.seq, .int .u64 m.a, .int .u64 m.b, .string m.key, .bool m.found, .int .u64 m.time, .bool m.gone, .string m.value, .slice A n c, .string m.note, .int .u64 m.hint, .int .u64 m.must] rfl rfl 29 _ HR.out (by kernel_rfl) rfl (by simp [Value.oneCell']) ?_)
  have HR2 := Lib.hid (setRow_heap _ _ _ #[.int .i64 m.kind, .int .i64 m.frm, .int .i64 m.tow, .int .i64 m.node, .int .i64 m.life, .int .i64 m.seq, .int .u64 m.a, .int .u64 m.b, .string m.key, .bool m.found, .int .u64 m.time, .bool m.gone, .string m.value, .slice A n c, .string m.note, .int .u64 m.hint, .int .u64 m.must] _ _ HR.out)
  have HB2 := Lib.hid (below_setRow HB.out hrr #[.int .i64 m.kind, .int .i64 m.frm, .int .i64 m.tow, .int .i64 m.node, .int .i64 m.life, .int .i64 m.seq, .int .u64 m.a, .int .u64 m.b, .string m.key, .bool m.found, .int .u64 m.time, .bool m.gone, .string m.value, .slice A n c, .string m.note, .int .u64 m.hint, .int .u64 m.must])
  refine bodyPost_ret (res_ct (a := ⟨?g9, 0, none⟩) (v := .agg ?cs9) rfl ?hp9 (load_row (g := ?g9) (cs := ?cs9) (t := ?t9) (fr := ?fr9) ?hrow9 _ _ Try.underlying29 rfl ?hi9)) rfl ?_
  case hp9 => rfl
  case hrow9 => (refine HR2.out <;> simp only [Go.Deep.nblk_alloc])
  case hi9 => exact (by kernel_rfl)
  exact ⟨rfl, HB2.out⟩
theorem rproject_any (v : Int) (m : MsgS) (A : Option Addr) (n c : Nat) (w : World) (z : m.Z) (hw : Wrs w A n m.ws) :
    Calls Try.prog 12 #[.int .i64 v, .agg (m.arr A n c)] w fun e w' => e = .returned (.tuple #[.agg (if mayE v m = 0 then (projS v m).arr A n c else zeroM.arr none 0 0), .int .i64 (mayE v m : Nat)]) ∧ Below w.heap.size w w' := by
  by_cases hk : knownS v = 0
  · have e : mayE v m = 1 := by unfold mayE; rw [if_pos (.inl hk)]
    rw [e, if_neg (by decide)]
    exact rproject_none v m A n c w z hw hk
  · have hv : v = 1 ∨ v = 2 ∨ v = 3 := by
      unfold knownS at hk
      by_cases h1 : v = 1
      · exact .inl h1
      · by_cases h2 : v = 2
        · exact .inr (.inl h2)
        · by_cases h3 : v = 3
          · exact .inr (.inr h3)
          · simp [h1, h2, h3] at hk
    cases hr : rightB m with
    | false =>
      have e : mayE v m = 1 := by unfold mayE; rw [if_pos (.inr hr)]
      rw [e, if_neg (by decide)]
      rcases hv with rfl | rfl | rfl
      · exact rproject_bad1 m A n c w z hw hr
      · exact rproject_bad2 m A n c w z hw hr
      · exact rproject_bad3 m A n c w z hw hr
    | true =>
      by_cases hm : m.must = 0
      · have e : mayE v m = 0 := by unfold mayE; rw [if_neg (by simp [hk, hr]), if_neg (fun h => h.1 hm)]
        rw [e, if_pos rfl]
        rcases hv with rfl | rfl | rfl
        · exact rproject_ok1 m A n c w z hw hr hm
        · exact rproject_ok2 m A n c w z hw hr hm
        · exact rproject_ok3 m A n c w z hw hr
      · rcases hv with rfl | rfl | rfl
        · have e : mayE 1 m = 4 := by unfold mayE; rw [if_neg (by simp [hk, hr]), if_pos ⟨hm, by decide⟩]
          rw [e, if_neg (by decide)]
          exact rproject_crit1 m A n c w z hw hr hm
        · have e : mayE 2 m = 4 := by unfold mayE; rw [if_neg (by simp [hk, hr]), if_pos ⟨hm, by decide⟩]
          rw [e, if_neg (by decide)]
          exact rproject_crit2 m A n c w z hw hr hm
        · have e : mayE 3 m = 0 := by unfold mayE; rw [if_neg (by simp [hk, hr]), if_neg (fun h => absurd h.2 (by decide))]
          rw [e, if_pos rfl]
          exact rproject_ok3 m A n c w z hw hr
end Go.Proofs.Ytemhmgpihkemjaa.My
