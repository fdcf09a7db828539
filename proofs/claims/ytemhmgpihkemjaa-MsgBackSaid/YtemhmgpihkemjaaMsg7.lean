/- msg.Encode, Project. -/
import Derived.Test.YtemhmgpihkemjaaMsg6
namespace Go.Proofs.Ytemhmgpihkemjaa.My
set_option linter.unusedSimpArgs false
set_option linter.unusedVariables false
open Go.RowKit Go.Proofs.YtemhmgpihkemjaaW.PrintWords Go.Proofs.YtemhmgpihkemjaaW.PrintLast Go.Proofs.Ytemhmgpihkemjaa.Pm

def zeroM : MsgS := ⟨0, 0, 0, 0, 0, 0, 0, 0, ⟨#[]⟩, false, 0, false, ⟨#[]⟩, [], ⟨#[]⟩, 0, 0⟩
def projS (v : Int) (m : MsgS) : MsgS := { m with note := if v < 2 then ⟨#[]⟩ else m.note, hint := if v < 3 then 0 else m.hint }
theorem knownS_le (v : Int) : knownS v ≤ 12 := by unfold knownS; (repeat' split) <;> omega
theorem may_ok {v : Int} {m : MsgS} (h : mayE v m = 0) : rightB m = true ∧ (v = 1 ∨ v = 2 ∨ v = 3) ∧ (m.must = 0 ∨ v = 3) := by
  unfold mayE at h
  split at h
  · omega
  · rename_i h1
    split at h
    · omega
    · rename_i h2
      have hk : knownS v ≠ 0 := fun e => h1 (.inl e)
      have hv : v = 1 ∨ v = 2 ∨ v = 3 := by
        unfold knownS at hk
        by_cases h1 : v = 1
        · exact .inl h1
        · by_cases h2 : v = 2
          · exact .inr (.inl h2)
          · by_cases h3 : v = 3
            · exact .inr (.inr h3)
            · simp [h1, h2, h3] at hk
      refine ⟨by cases hr : rightB m with | true => rfl | false => exact absurd (.inr hr) h1, hv, ?_⟩
      by_cases hm : m.must = 0
      · exact .inl hm
      · refine .inr ?_
        rcases hv with rfl | rfl | rfl
        · exact absurd ⟨hm, by decide⟩ h2
        · exact absurd ⟨hm, by decide⟩ h2
        · rfl
def encS (v : Int) (m : MsgS) : ByteArray := if mayE v m = 0 then bytesN m (knownS v) else ⟨#[]⟩
set_option maxRecDepth 100000 in
set_option maxHeartbeats 8000000 in
theorem encode_any (v : Int) (m : MsgS) (A : Option Addr) (n c : Nat) (w : World) (z : m.Z) (hw : Wrs w A n m.ws) :
    Calls Try.prog 10 #[.int .i64 v, .agg (m.arr A n c)] w fun e w' => e = .returned (.tuple #[.string (encS v m), .int .i64 (mayE v m : Nat)]) ∧ Below w.heap.size w w' := by
  have MY := Lib.hid (fun (w : World) (hw : Wrs w A n m.ws) => may_any v m A n c w z hw)
  have HW := Lib.hid (hw.below (below_alloc (Below.refl _ w) (.cells (m.arr A n c) 29)))
  have HB := Lib.hid ((Below.refl w.heap.size w).alloc (Nat.le_refl _) (.cells (m.arr A n c) 29))
  have HP := Lib.hid (show IsMsg (w.alloc (.cells (m.arr A n c) 29)) w.heap.size m A n c from blk_new w _)
  have MC := Lib.hid (fun w' (h : IsMsg w' w.heap.size m A n c) => mcells h)
  by_cases h0 : mayE v m = 0
  · have HES := Lib.hid (show encS v m = bytesN m (knownS v) from if_pos h0)
    have KV := Lib.hid (fun w => known_any v w)
    have BY := Lib.hid (fun (w : World) (hw : Wrs w A n m.ws) => mbytes_any m A n c w (rightB_fit z (may_ok h0).1) hw (knownS v) (knownS_le v))
    rw [h0] at MY ⊢
    rw [HES.out]
    clear hw z h0 HES
    generalize bytesN m (knownS v) = S at *
    generalize knownS v = kv at *
    unfold IsMsg MsgS.arr at *
    obtain ⟨p0, p1, p2, p3, p4, p5, p6, p7, p8, p9, p10, p11, p12, p13, p14, p15, p16⟩ := MC.out _ HP.out
    go_enter Try.func10, Try.ntmps10
    go_wp2_with fail
    refine (MY.out _ HW.out).mono ?_
    rintro e wq ⟨rfl, hb⟩
    replace HW := Lib.hid (HW.out.below hb)
    replace HP := Lib.hid (blk_below HP.out hb)
    replace HB := Lib.hid (HB.out.trans (hb.mono HB.out.size)); clear hb
    clear p0 p1 p2 p3 p4 p5 p6 p7 p8 p9 p10 p11 p12 p13 p14 p15 p16
    generalize hpp : w.heap.size = pp at HP ⊢
    go_wp2
    refine start_ (n := 6) (S := fun w' => w'.heap[pp]? = some (.cells #[.int .i64 m.kind, .int .i64 m.frm, .int .i64 m.tow, .int .i64 m.node, .int .i64 m.life, .int .i64 m.seq, .int .u64 m.a, .int .u64 m.b, .string m.key, .bool m.found, .int .u64 m.time, .bool m.gone, .string m.value, .slice A n c, .string m.note, .int .u64 m.hint, .int .u64 m.must] 29 (0, 0))) (ds := []) #[false, false, false, false, false, false] (by kernel_rfl) rfl rfl (blk_drew HP.out) (fun hHeld => ?_)
    have HB := Lib.hid (below_drew HB.out)
    have HW := Lib.hid (HW.out.below (below_drew (Below.refl _ _)))
    refine pure_ (i := 1) (N := some 14) (v := ?_) (a' := ?_) #[false, true, false, false, false, false] rfl rfl (by kernel_rfl) (fun _ _ _ h => h) (Or.inl ⟨by rfl, ?_⟩) ?_ ?_
    rotate_left
    · intro w'
      go_simp
      with_reducible rfl
    rotate_left
    · simp only [Act.put, List.setIfInBounds_toArray, List.set_cons_zero, List.set_cons_succ, i64_w, i32_w]
      rfl
    refine take_ (i := 0) (N := some 13) (v := ?_) (a' := ?_) #[true, true, false, false, false, false] rfl rfl (by kernel_rfl) (fun _ _ _ h => h) (Or.inl ⟨by rfl, ?_⟩) hHeld ?_ ?_
    rotate_left
    · intro w' s0
      refine run_row 29 (.tmp 3) ?_ pp ?_ 29 #[.int .i64 m.kind, .int .i64 m.frm, .int .i64 m.tow, .int .i64 m.node, .int .i64 m.life, .int .i64 m.seq, .int .u64 m.a, .int .u64 m.b, .string m.key, .bool m.found, .int .u64 m.time, .bool m.gone, .string m.value, .slice A n c, .string m.note, .int .u64 m.hint, .int .u64 m.must] (0, 0) _ s0 Try.underlying29 rfl (by kernel_rfl) <;> rfl
    rotate_left
    · simp only [Act.put, List.setIfInBounds_toArray, List.set_cons_zero, List.set_cons_succ, i64_w, i32_w]
      rfl
    refine one_ (i := 2) (N := some 15) #[true, true, true, false, false, false] rfl rfl (by kernel_rfl) (by decide) (fun K hK => ?_)
    refine goes_ Try.func21 (by kernel_rfl) rfl #[.int .i64 v] (by rfl) rfl rfl (by (try simp only [List.map_toArray, List.map_cons, List.map_nil]); first | done | rfl) ?_
    with_reducible refine (KV.out _).mono ?_
    rintro e wq1 ⟨rfl, rfl⟩
    refine ⟨_, rfl, ?_⟩
    refine hK.out _ _ (hHeld) (fun hHeld => ?_)
    clear hK K
    refine norm_ (a' := ?_) ?_ ?_
    rotate_left
    · show Act.put _ (some 15) _ = _
      simp only [Act.put, List.setIfInBounds_toArray, List.set_cons_zero, List.set_cons_succ, i64_w, i32_w]
      rfl
    refine one_ (i := 3) (N := some 16) #[true, true, true, true, false, false] rfl rfl (by kernel_rfl) (by decide) (fun K hK => ?_)
    refine goes_ Try.func20 (by kernel_rfl) rfl #[.agg #[.int .i64 m.kind, .int .i64 m.frm, .int .i64 m.tow, .int .i64 m.node, .int .i64 m.life, .int .i64 m.seq, .int .u64 m.a, .int .u64 m.b, .string m.key, .bool m.found, .int .u64 m.time, .bool m.gone, .string m.value, .slice A n c, .string m.note, .int .u64 m.hint, .int .u64 m.must], .int .i64 (kv : Int)] (by rfl) rfl rfl (by (try simp only [List.map_toArray, List.map_cons, List.map_nil]); first | done | rfl) ?_
    with_reducible refine (BY.out _ HW.out).mono ?_
    rintro e w5 ⟨rfl, hb⟩
    refine ⟨_, rfl, ?_⟩
    have HB := Lib.hid (HB.out.trans (hb.mono HB.out.size))
    refine hK.out _ _ (blk_below hHeld hb) (fun hHeld => ?_)
    clear hK K
    refine norm_ (a' := ?_) ?_ ?_
    rotate_left
    · show Act.put _ (some 16) _ = _
      simp only [Act.put, List.setIfInBounds_toArray, List.set_cons_zero, List.set_cons_succ, i64_w, i32_w]
      rfl
    refine pure_ (i := 4) (N := some 4) (v := ?_) (a' := ?_) #[true, true, true, true, true, false] rfl rfl (by kernel_rfl) (fun _ _ _ h => h) (Or.inl ⟨by rfl, ?_⟩) ?_ ?_
    rotate_left
    · intro w'
      go_simp
      with_reducible rfl
    rotate_left
    · simp only [Act.put, List.setIfInBounds_toArray, List.set_cons_zero, List.set_cons_succ, i64_w, i32_w]
      rfl
    refine pure_ (i := 5) (N := some 5) (v := ?_) (a' := ?_) #[true, true, true, true, true, true] rfl rfl (by kernel_rfl) (fun _ _ _ h => h) (Or.inl ⟨by rfl, ?_⟩) ?_ ?_
    rotate_left
    · intro w'
      go_simp
      with_reducible rfl
    rotate_left
    · simp only [Act.put, List.setIfInBounds_toArray, List.set_cons_zero, List.set_cons_succ, i64_w, i32_w]
      rfl
    refine done_ (by kernel_rfl) ?_

    go_wp2
    go_ret2
    exact ⟨rfl, hpp ▸ HB.out⟩
  · have HES := Lib.hid (show encS v m = ⟨#[]⟩ from if_neg h0)
    have y0 : ((mayE v m : Int) != 0) = true := by simp; exact h0
    rw [HES.out]
    clear hw z h0 HES
    generalize mayE v m = me at *
    unfold IsMsg MsgS.arr at *
    obtain ⟨p0, p1, p2, p3, p4, p5, p6, p7, p8, p9, p10, p11, p12, p13, p14, p15, p16⟩ := MC.out _ HP.out
    go_enter Try.func10, Try.ntmps10
    go_wp2_with fail
    refine (MY.out _ HW.out).mono ?_
    rintro e wq ⟨rfl, hb⟩
    replace HB := Lib.hid (HB.out.trans (hb.mono HB.out.size)); clear hb
    clear p0 p1 p2 p3 p4 p5 p6 p7 p8 p9 p10 p11 p12 p13 p14 p15 p16
    go_wp2
    go_ret2
    exact ⟨rfl, HB.out⟩
/-- What Project leaves. -/
def projR (v : Int) (m : MsgS) : MsgS := if mayE v m = 0 then projS v m else zeroM
set_option maxRecDepth 100000 in
set_option maxHeartbeats 8000000 in
theorem project_bad (v : Int) (m : MsgS) (A : Option Addr) (n c : Nat) (w : World) (z : m.Z) (hw : Wrs w A n m.ws) (h0 : mayE v m ≠ 0) :
    Calls Try.prog 11 #[.int .i64 v, .agg (m.arr A n c)] w fun e w' => e = .returned (.tuple #[.agg (zeroM.arr none 0 0), .int .i64 (mayE v m : Nat)]) ∧ Below w.heap.size w w' := by
  have MY := Lib.hid (fun (w : World) (hw : Wrs w A n m.ws) => may_any v m A n c w z hw)
  have hb1 := below_alloc (Below.refl _ w) (.cells (m.arr A n c) 29)
  have hb2 := below_alloc (Below.refl _ (w.alloc (.cells (m.arr A n c) 29))) (.cells (zeroM.arr none 0 0) 29)
  have HW := Lib.hid ((hw.below hb1).below hb2)
  have HB := Lib.hid (hb1.trans (hb2.mono hb1.size))
  have HP := Lib.hid (show IsMsg _ w.heap.size m A n c from blk_below (blk_new w (.cells (m.arr A n c) 29)) hb2)
  have HR := Lib.hid (show IsMsg ((w.alloc (.cells (m.arr A n c) 29)).alloc (.cells (zeroM.arr none 0 0) 29)) (w.heap.size + 1) zeroM none 0 0 from by have := blk_new (w.alloc (.cells (m.arr A n c) 29)) (.cells (zeroM.arr none 0 0) 29); rw [World.size_alloc] at this; exact this)
  have MC := Lib.hid (fun w' (h : IsMsg w' w.heap.size m A n c) => mcells h)
  have y0 : ((mayE v m : Int) != 0) = true := by simp; exact h0
  clear hw z h0 hb1 hb2
  generalize mayE v m = me at *
  unfold IsMsg MsgS.arr zeroM at *
  simp only at *
  obtain ⟨p0, p1, p2, p3, p4, p5, p6, p7, p8, p9, p10, p11, p12, p13, p14, p15, p16⟩ := MC.out _ HP.out
  go_enter Try.func11, Try.ntmps11
  go_wp2_with fail
  refine (MY.out _ HW.out).mono ?_
  rintro e wq ⟨rfl, hb⟩
  replace HB := Lib.hid (HB.out.trans (hb.mono HB.out.size))
  replace HR := Lib.hid (blk_below HR.out hb)
  clear p0 p1 p2 p3 p4 p5 p6 p7 p8 p9 p10 p11 p12 p13 p14 p15 p16 hb
  generalize hpp : w.heap.size + 1 = rr at HR ⊢
  have hrr : w.heap.size ≤ rr := by omega
  go_wp2_with (first | refine wpList_store_row rfl 29 _ _ rfl rr #[.int .i64 0, .int .i64 0, .int .i64 0, .int .i64 0, .int .i64 0, .int .i64 0, .int .u64 0, .int .u64 0, .string ⟨#[]⟩, .bool false, .int .u64 0, .bool false, .string ⟨#[]⟩, .slice none 0 0, .string ⟨#[]⟩, .int .u64 0, .int .u64 0] rfl rfl 29 _ HR.out (by kernel_rfl) rfl (by simp [Value.oneCell']) ?_)
  have HR2 := Lib.hid (setRow_heap _ _ _ #[.int .i64 0, .int .i64 0, .int .i64 0, .int .i64 0, .int .i64 0, .int .i64 0, .int .u64 0, .int .u64 0, .string ⟨#[]⟩, .bool false, .int .u64 0, .bool false, .string ⟨#[]⟩, .slice none 0 0, .string ⟨#[]⟩, .int .u64 0, .int .u64 0] _ _ HR.out)
  have HB2 := Lib.hid (below_setRow HB.out hrr #[.int .i64 0, .int .i64 0, .int .i64 0, .int .i64 0, .int .i64 0, .int .i64 0, .int .u64 0, .int .u64 0, .string ⟨#[]⟩, .bool false, .int .u64 0, .bool false, .string ⟨#[]⟩, .slice none 0 0, .string ⟨#[]⟩, .int .u64 0, .int .u64 0])
  refine bodyPost_ret (res_ct (a := ⟨?g1, 0, none⟩) (v := .agg ?cs1) rfl ?hp1 (load_row (g := ?g1) (cs := ?cs1) (t := ?t1) (fr := ?fr1) ?hrow1 _ _ Try.underlying29 rfl ?hi1)) rfl ?_
  case hp1 => rfl
  case hrow1 => (refine HR2.out <;> simp only [Go.Deep.nblk_alloc])
  case hi1 => exact (by kernel_rfl)
  exact ⟨rfl, HB2.out⟩
end Go.Proofs.Ytemhmgpihkemjaa.My
