/- isoglossref05.Project, Same. -/
import Derived.Test.YtemhmgpihkemjaaMsg13
import Derived.Test.YtemhmgpihkemjaaByt
namespace Go.Proofs.Ytemhmgpihkemjaa.My
set_option linter.unusedSimpArgs false
set_option linter.unusedVariables false
open Go.RowKit Go.Proofs.YtemhmgpihkemjaaW.PrintWords Go.Proofs.YtemhmgpihkemjaaW.PrintLast Go.Proofs.Ytemhmgpihkemjaa.Pm

set_option maxRecDepth 100000 in
set_option maxHeartbeats 8000000 in
theorem same_any (m k : MsgS) (A B : Option Addr) (n c n2 c2 : Nat) (w : World) (f : m.Fit) (f2 : k.Fit) (hw : Wrs w A n m.ws) (hw2 : Wrs w B n2 k.ws) :
    Calls Try.prog 15 #[.agg (m.arr A n c), .agg (k.arr B n2 c2)] w fun e w' => e = .returned (.bool ((bytesN m 12).toList == (bytesN k 12).toList)) ∧ Below w.heap.size w w' := by
  have B1 := Lib.hid (fun (w : World) (hw : Wrs w A n m.ws) => rbytes_any m A n c w f hw 12 (by decide))
  have B2 := Lib.hid (fun (w : World) (hw : Wrs w B n2 k.ws) => rbytes_any k B n2 c2 w f2 hw 12 (by decide))
  rw [show ((12 : Nat) : Int) = 12 from rfl] at B1 B2
  generalize bytesN m 12 = s1 at *
  generalize bytesN k 12 = s2 at *
  have hb1 := below_alloc (Below.refl _ w) (.cells (m.arr A n c) 29)
  have hb2 := below_alloc (Below.refl _ (w.alloc (.cells (m.arr A n c) 29))) (.cells (k.arr B n2 c2) 29)
  have HB := Lib.hid (hb1.trans (hb2.mono hb1.size))
  have HW := Lib.hid ((hw.below hb1).below hb2)
  have HW2 := Lib.hid ((hw2.below hb1).below hb2)
  have HP := Lib.hid (blk_below (blk_new w (.cells (m.arr A n c) 29)) hb2)
  have HQ' := blk_new (w.alloc (.cells (m.arr A n c) 29)) (.cells (k.arr B n2 c2) 29)
  rw [World.size_alloc] at HQ'
  have HQ := Lib.hid HQ'
  clear HQ' hb1 hb2 f f2 hw hw2
  unfold MsgS.arr at *
  go_enter Try.func15, Try.ntmps15
  go_wp2
  generalize (w.alloc (.cells #[.int .i64 m.kind, .int .i64 m.frm, .int .i64 m.tow, .int .i64 m.node, .int .i64 m.life, .int .i64 m.seq, .int .u64 m.a, .int .u64 m.b, .string m.key, .bool m.found, .int .u64 m.time, .bool m.gone, .string m.value, .slice A n c, .string m.note, .int .u64 m.hint, .int .u64 m.must] 29)).alloc (.cells #[.int .i64 k.kind, .int .i64 k.frm, .int .i64 k.tow, .int .i64 k.node, .int .i64 k.life, .int .i64 k.seq, .int .u64 k.a, .int .u64 k.b, .string k.key, .bool k.found, .int .u64 k.time, .bool k.gone, .string k.value, .slice B n2 c2, .string k.note, .int .u64 k.hint, .int .u64 k.must] 29) = w1 at *
  generalize hqq : w.heap.size + 1 = qq at HQ ⊢
  generalize hpp : w.heap.size = pp at HP ⊢
  refine start_ (n := 6) (S := fun w' => w'.heap[pp]? = some (.cells #[.int .i64 m.kind, .int .i64 m.frm, .int .i64 m.tow, .int .i64 m.node, .int .i64 m.life, .int .i64 m.seq, .int .u64 m.a, .int .u64 m.b, .string m.key, .bool m.found, .int .u64 m.time, .bool m.gone, .string m.value, .slice A n c, .string m.note, .int .u64 m.hint, .int .u64 m.must] 29 (0, 0)) ∧ w'.heap[qq]? = some (.cells #[.int .i64 k.kind, .int .i64 k.frm, .int .i64 k.tow, .int .i64 k.node, .int .i64 k.life, .int .i64 k.seq, .int .u64 k.a, .int .u64 k.b, .string k.key, .bool k.found, .int .u64 k.time, .bool k.gone, .string k.value, .slice B n2 c2, .string k.note, .int .u64 k.hint, .int .u64 k.must] 29 (0, 0))) (ds := []) #[false, false, false, false, false, false] (by kernel_rfl) rfl rfl ⟨blk_drew HP.out, blk_drew HQ.out⟩ (fun hHeld => ?_)
  have HB := Lib.hid (below_drew HB.out)
  have HW := Lib.hid (HW.out.below (below_drew (Below.refl _ _)))
  have HW2 := Lib.hid (HW2.out.below (below_drew (Below.refl _ _)))
  refine take_ (i := 0) (N := some 5) (v := ?_) (a' := ?_) #[true, false, false, false, false, false] rfl rfl (by kernel_rfl) (fun _ _ _ h => h) (Or.inl ⟨by rfl, ?_⟩) hHeld ?_ ?_
  rotate_left
  · rintro w' ⟨s0, s1⟩
    refine run_row 29 (.tmp 2) ?_ pp ?_ 29 #[.int .i64 m.kind, .int .i64 m.frm, .int .i64 m.tow, .int .i64 m.node, .int .i64 m.life, .int .i64 m.seq, .int .u64 m.a, .int .u64 m.b, .string m.key, .bool m.found, .int .u64 m.time, .bool m.gone, .string m.value, .slice A n c, .string m.note, .int .u64 m.hint, .int .u64 m.must] (0, 0) _ s0 Try.underlying29 rfl (by kernel_rfl) <;> rfl
  rotate_left
  · simp only [Act.put, List.setIfInBounds_toArray, List.set_cons_zero, List.set_cons_succ, i64_w, i32_w]
    rfl
  refine take_ (i := 2) (N := some 7) (v := ?_) (a' := ?_) #[true, false, true, false, false, false] rfl rfl (by kernel_rfl) (fun _ _ _ h => h) (Or.inl ⟨by rfl, ?_⟩) hHeld ?_ ?_
  rotate_left
  · rintro w' ⟨s0, s1⟩
    refine run_row 29 (.tmp 3) ?_ qq ?_ 29 #[.int .i64 k.kind, .int .i64 k.frm, .int .i64 k.tow, .int .i64 k.node, .int .i64 k.life, .int .i64 k.seq, .int .u64 k.a, .int .u64 k.b, .string k.key, .bool k.found, .int .u64 k.time, .bool k.gone, .string k.value, .slice B n2 c2, .string k.note, .int .u64 k.hint, .int .u64 k.must] (0, 0) _ s1 Try.underlying29 rfl (by kernel_rfl) <;> rfl
  rotate_left
  · simp only [Act.put, List.setIfInBounds_toArray, List.set_cons_zero, List.set_cons_succ, i64_w, i32_w]
    rfl
  refine one_ (i := 1) (N := some 6) #[true, true, true, false, false, false] rfl rfl (by kernel_rfl) (by decide) (fun K hK => ?_)
  refine goes_ Try.func13 (by kernel_rfl) rfl #[.agg #[.int .i64 m.kind, .int .i64 m.frm, .int .i64 m.tow, .int .i64 m.node, .int .i64 m.life, .int .i64 m.seq, .int .u64 m.a, .int .u64 m.b, .string m.key, .bool m.found, .int .u64 m.time, .bool m.gone, .string m.value, .slice A n c, .string m.note, .int .u64 m.hint, .int .u64 m.must], .int .i64 12] (by rfl) rfl rfl (by (try simp only [List.map_toArray, List.map_cons, List.map_nil]); first | done | rfl) ?_
  with_reducible refine (B1.out _ HW.out).mono ?_
  rintro e wq1 ⟨rfl, hb⟩
  refine ⟨_, rfl, ?_⟩
  have HB := Lib.hid (HB.out.trans (hb.mono HB.out.size))
  have HW := Lib.hid (HW.out.below hb)
  have HW2 := Lib.hid (HW2.out.below hb)
  refine hK.out _ _ ⟨blk_below hHeld.1 hb, blk_below hHeld.2 hb⟩ (fun hHeld => ?_)
  clear hK K
  refine norm_ (a' := ?_) ?_ ?_
  rotate_left
  · show Act.put _ (some 6) _ = _
    simp only [Act.put, List.setIfInBounds_toArray, List.set_cons_zero, List.set_cons_succ, i64_w, i32_w]
    rfl
  refine one_ (i := 3) (N := some 8) #[true, true, true, true, false, false] rfl rfl (by kernel_rfl) (by decide) (fun K hK => ?_)
  refine goes_ Try.func13 (by kernel_rfl) rfl #[.agg #[.int .i64 k.kind, .int .i64 k.frm, .int .i64 k.tow, .int .i64 k.node, .int .i64 k.life, .int .i64 k.seq, .int .u64 k.a, .int .u64 k.b, .string k.key, .bool k.found, .int .u64 k.time, .bool k.gone, .string k.value, .slice B n2 c2, .string k.note, .int .u64 k.hint, .int .u64 k.must], .int .i64 12] (by rfl) rfl rfl (by (try simp only [List.map_toArray, List.map_cons, List.map_nil]); first | done | rfl) ?_
  with_reducible refine (B2.out _ HW2.out).mono ?_
  rintro e wq2 ⟨rfl, hb⟩
  refine ⟨_, rfl, ?_⟩
  have HB := Lib.hid (HB.out.trans (hb.mono HB.out.size))
  have HW := Lib.hid (HW.out.below hb)
  have HW2 := Lib.hid (HW2.out.below hb)
  refine hK.out _ _ ⟨blk_below hHeld.1 hb, blk_below hHeld.2 hb⟩ (fun hHeld => ?_)
  clear hK K
  refine norm_ (a' := ?_) ?_ ?_
  rotate_left
  · show Act.put _ (some 8) _ = _
    simp only [Act.put, List.setIfInBounds_toArray, List.set_cons_zero, List.set_cons_succ, i64_w, i32_w]
    rfl
  refine pure_ (i := 4) (N := some 9) (v := ?_) (a' := ?_) #[true, true, true, true, true, false] rfl rfl (by kernel_rfl) (fun _ _ _ h => h) (Or.inl ⟨by rfl, ?_⟩) ?_ ?_
  rotate_left
  · intro w'
    go_simp
    with_reducible rfl
  rotate_left
  · simp only [Act.put, List.setIfInBounds_toArray, List.set_cons_zero, List.set_cons_succ, i64_w, i32_w]
    rfl
  refine pure_ (i := 5) (N := some 4) (v := ?_) (a' := ?_) #[true, true, true, true, true, true] rfl rfl (by kernel_rfl) (fun _ _ _ h => h) (Or.inl ⟨by rfl, ?_⟩) ?_ ?_
  rotate_left
  · intro w'
    go_simp
    with_reducible rfl
  rotate_left
  · simp only [Act.put, List.setIfInBounds_toArray, List.set_cons_zero, List.set_cons_succ, i64_w, i32_w]
    rfl
  refine done_ (by kernel_rfl) ?_

  go_wp2
  go_ret
  exact ⟨rfl, hpp ▸ HB.out⟩
end Go.Proofs.Ytemhmgpihkemjaa.My
