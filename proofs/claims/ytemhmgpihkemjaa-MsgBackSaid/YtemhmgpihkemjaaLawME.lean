/- The law MsgEncodes walked. -/
import Derived.Test.YtemhmgpihkemjaaMsg8
import Derived.Test.YtemhmgpihkemjaaMsg15
import Derived.Test.YtemhmgpihkemjaaMsg17
import Derived.Test.YtemhmgpihkemjaaWGuard
namespace Go.Proofs.Ytemhmgpihkemjaa.My
set_option linter.unusedSimpArgs false
set_option linter.unusedVariables false
open Go.RowKit Go.Proofs.YtemhmgpihkemjaaW.PrintWords Go.Proofs.YtemhmgpihkemjaaW.PrintLast Go.Proofs.Ytemhmgpihkemjaa.Pm

/-- What is said of a message that came in. -/
structure MsgS.In (m : MsgS) : Prop where
  a : m.a < 18446744073709551616
  b : m.b < 18446744073709551616
  time : m.time < 18446744073709551616
  hint : m.hint < 18446744073709551616
  must : m.must < 18446744073709551616
  key : m.key.size ≤ 140737488351232
  note : m.note.size ≤ 140737488351232
  value : m.value.size ≤ 140737488351232
theorem MsgS.In.z {m : MsgS} (h : m.In) (f : FewM m) : m.Z :=
  ⟨h.a, h.b, by have := f.2.1; omega, h.time, by have := f.2.2.2.1; omega, f.1, fun p hp => by have := f.2.2.2.2 p hp; omega, by have := f.2.2.1; omega, h.hint, h.must⟩
theorem projS_fit {v : Int} {m : MsgS} (f : m.Fit) : (projS v m).Fit :=
  ⟨f.frm, f.tow, f.node, f.life, f.seq, f.kind, f.a, f.b, f.key, f.time, f.value, f.ws, f.wss, by
    show (if v < 2 then (⟨#[]⟩ : ByteArray) else m.note).size ≤ 20000
    split
    · decide
    · exact f.note, by
    show (if v < 3 then 0 else m.hint) < 18446744073709551616
    split
    · decide
    · exact f.hint, f.must⟩
theorem zeroM_fit : zeroM.Fit := by
  refine ⟨?_, ?_, ?_, ?_, ?_, ?_, by decide, by decide, by decide, by decide, by decide, by decide, fun p hp => by simp [zeroM] at hp, by decide, by decide, by decide⟩
  all_goals (show Ok32 0; unfold Ok32; omega)
/-- The message that both Projects leave. -/
def leftM (v : Int) (m : MsgS) : MsgS := if mayE v m = 0 then projS v m else zeroM
theorem gate_world {P : Program} {ops : Array Oper} {rest : List Oper} {a : Act} {Q : Exit → Act → World → Prop} {W : World} (F : World → Prop) (hF : F W) (h : ∀ w', F w' → wpList P ops Q rest a w') : wpList P ops Q rest a W := h W hF
theorem arr_size (m : MsgS) (A : Option Addr) (n c : Nat) : (m.arr A n c).size = 17 ∧ (m.arr A n c).all (·.oneCell') = true := ⟨rfl, by unfold MsgS.arr; simp [Value.oneCell']⟩
theorem info_msg : (Try.prog.info? 29).map (·.size) = some 17 := by kernel_rfl
set_option maxRecDepth 100000 in
set_option maxHeartbeats 16000000 in
theorem msg_enc_few (v : Int) (m : MsgS) (A : Option Addr) (n c : Nat) (w : World) (hw : Wrs w A n m.ws) (hn : n ≤ 140737488351232) (hi : m.In) (hf : fewB m = false) :
    Calls Try.prog 3 #[.int .i64 v, .agg (m.arr A n c)] w fun e w' => e = .returned (.bool true) ∧ Below w.heap.size w w' := by
  have FW := Lib.hid (fun (w : World) (hw : Wrs w A n m.ws) => fewm_any m A n c w hw hn hi.key hi.note hi.value)
  rw [hf] at FW
  have AW := Lib.hid (fun w => awake05 w)
  have hb1 := below_alloc (Below.refl _ w) (.cells (m.arr A n c) 29)
  have HW := Lib.hid (hw.below hb1)
  have HB := Lib.hid hb1
  have HP := Lib.hid (blk_new w (.cells (m.arr A n c) 29))
  have IM := Lib.hid (info_msg.trans (congrArg some (arr_size m A n c).1.symm))
  skip
  clear hw hi hb1 hf
  generalize m.arr A n c = arrM at *
  go_enter Try.func3, Try.ntmps3
  go_wp2_with fail
  refine (AW.out _).mono ?_
  rintro e w1 ⟨rfl, hb⟩
  replace HB := Lib.hid (HB.out.trans (hb.mono HB.out.size))
  replace HW := Lib.hid (HW.out.below hb)
  replace HP := Lib.hid (blk_below HP.out hb)
  clear hb
  obtain ⟨pp, hpp⟩ : ∃ pp, w.heap.size = pp := ⟨_, rfl⟩
  rw [hpp] at HP ⊢
  go_wp2_with (refine gate_guard (by rfl) (wpList_load_row rfl 29 _ rfl pp rfl 29 arrM (0, 0) _ HP.out Try.underlying29 rfl IM.out ?_))
  refine (FW.out _ HW.out).mono ?_
  rintro e w2 ⟨rfl, hb⟩
  replace HB := Lib.hid (HB.out.trans (hb.mono HB.out.size))
  replace HW := Lib.hid (HW.out.below hb)
  replace HP := Lib.hid (blk_below HP.out hb)
  clear hb
  go_wp2_with fail
  refine (AW.out _).mono ?_
  rintro e w3 ⟨rfl, hb⟩
  replace HB := Lib.hid (HB.out.trans (hb.mono HB.out.size))
  go_wp2
  go_ret
  exact ⟨rfl, hpp ▸ HB.out⟩
set_option maxRecDepth 100000 in
set_option maxHeartbeats 16000000 in
theorem msg_enc_ok (v : Int) (m : MsgS) (A : Option Addr) (n c : Nat) (w : World) (hw : Wrs w A n m.ws) (hn : n ≤ 140737488351232) (hi : m.In) (hf : fewB m = true) (h0 : mayE v m = 0) :
    Calls Try.prog 3 #[.int .i64 v, .agg (m.arr A n c)] w fun e w' => e = .returned (.bool true) ∧ Below w.heap.size w w' := by
  have FW := Lib.hid (fun (w : World) (hw : Wrs w A n m.ws) => fewm_any m A n c w hw hn hi.key hi.note hi.value)
  rw [hf] at FW
  have AW := Lib.hid (fun w => awake05 w)
  have hb1 := below_alloc (Below.refl _ w) (.cells (m.arr A n c) 29)
  have HW := Lib.hid (hw.below hb1)
  have HB := Lib.hid hb1
  have HP := Lib.hid (blk_new w (.cells (m.arr A n c) 29))
  have IM := Lib.hid (info_msg.trans (congrArg some (arr_size m A n c).1.symm))
  have HZ := Lib.hid (hi.z (fewB_few hf))
  have hes : encS v m = bytesN m (knownS v) := if_pos h0
  have FIT := Lib.hid (rightB_fit HZ.out (may_ok h0).1)
  have LA := Lib.hid (fun w => last_any v w)
  have EN := Lib.hid (fun (w : World) (hw : Wrs w A n m.ws) => encode_any v m A n c w HZ.out hw)
  have P1 := Lib.hid (fun (w : World) (hw : Wrs w A n m.ws) => project_any v m A n c w HZ.out hw)
  have P2 := Lib.hid (fun (w : World) (hw : Wrs w A n m.ws) => rproject_any v m A n c w HZ.out hw)
  have BY := Lib.hid (fun (w : World) (hw : Wrs w A n m.ws) => rbytes_any m A n c w FIT.out hw (knownS v) (knownS_le v))
  have SM := Lib.hid (fun (w : World) (hw : Wrs w A n m.ws) => same_any (projS v m) (projS v m) A A n c n c w (projS_fit FIT.out) (projS_fit FIT.out) hw hw)
  have IJ := Lib.hid (info_msg.trans (congrArg some (arr_size (projS v m) A n c).1.symm))
  have SJ := Lib.hid (show 17 = ((projS v m).arr A n c).size from (arr_size (projS v m) A n c).1.symm)
  have OJ := Lib.hid (arr_size (projS v m) A n c).2
  simp only [beq_self_eq_true] at SM
  rw [h0, hes] at EN
  simp only [h0, if_true] at P1 P2
  clear h0 hes FIT HZ
  clear hw hi hb1 hf
  generalize m.arr A n c = arrM at *
  generalize (projS v m).arr A n c = pj at *
  generalize bytesN m (knownS v) = S at *
  generalize knownS v = kv at *
  go_enter Try.func3, Try.ntmps3
  go_wp2_with fail
  refine (AW.out _).mono ?_
  rintro e w1 ⟨rfl, hb⟩
  replace HB := Lib.hid (HB.out.trans (hb.mono HB.out.size))
  replace HW := Lib.hid (HW.out.below hb)
  replace HP := Lib.hid (blk_below HP.out hb)
  clear hb
  obtain ⟨pp, hpp⟩ : ∃ pp, w.heap.size = pp := ⟨_, rfl⟩
  rw [hpp] at HP ⊢
  go_wp2_with (refine gate_guard (by rfl) (wpList_load_row rfl 29 _ rfl pp rfl 29 arrM (0, 0) _ HP.out Try.underlying29 rfl IM.out ?_))
  refine (FW.out _ HW.out).mono ?_
  rintro e w2 ⟨rfl, hb⟩
  replace HB := Lib.hid (HB.out.trans (hb.mono HB.out.size))
  replace HW := Lib.hid (HW.out.below hb)
  replace HP := Lib.hid (blk_below HP.out hb)
  clear hb
  go_wp2_with (refine gate_guard (by rfl) (wpList_load_row rfl 29 _ rfl pp rfl 29 arrM (0, 0) _ HP.out Try.underlying29 rfl IM.out ?_))
  refine (EN.out _ HW.out).mono ?_
  rintro e w3 ⟨rfl, hb⟩
  replace HB := Lib.hid (HB.out.trans (hb.mono HB.out.size))
  replace HW := Lib.hid (HW.out.below hb)
  replace HP := Lib.hid (blk_below HP.out hb)
  clear hb
  go_wp2_with (refine gate_guard (by rfl) (wpList_load_row rfl 29 _ rfl pp rfl 29 arrM (0, 0) _ HP.out Try.underlying29 rfl IM.out ?_))
  refine (P1.out _ HW.out).mono ?_
  rintro e w4 ⟨rfl, hb⟩
  replace HB := Lib.hid (HB.out.trans (hb.mono HB.out.size))
  replace HW := Lib.hid (HW.out.below hb)
  replace HP := Lib.hid (blk_below HP.out hb)
  clear hb
  go_wp2_with (first | refine gate_guard (by rfl) (wpList_load_row rfl 29 _ rfl pp rfl 29 arrM (0, 0) _ HP.out Try.underlying29 rfl IM.out ?_) | (refine wpList_store_row rfl 29 _ _ rfl w4.heap.size pj rfl rfl 29 _ (blk_new w4 _) IJ.out SJ.out OJ.out ?_; refine gate_world (F := fun w' => Hid (w'.heap[w4.heap.size]? = some (.cells pj 29 (0, 0))) ∧ Hid (Below w4.heap.size w4 w')) ⟨Lib.hid (setRow_heap _ _ _ pj _ _ (blk_new w4 _)), Lib.hid (below_setRow (below_alloc (Below.refl _ w4) _) (Nat.le_refl _) pj)⟩ ?_; rintro w4' ⟨HA, hb⟩; have hb := hb.out; replace HB := Lib.hid (HB.out.trans (hb.mono HB.out.size)); replace HW := Lib.hid (HW.out.below hb); replace HP := Lib.hid (blk_below HP.out hb); clear hb; generalize w4.heap.size = ha at *))
  refine (P2.out _ HW.out).mono ?_
  rintro e w5 ⟨rfl, hb⟩
  replace HB := Lib.hid (HB.out.trans (hb.mono HB.out.size))
  replace HW := Lib.hid (HW.out.below hb)
  replace HP := Lib.hid (blk_below HP.out hb)
  replace HA := Lib.hid (blk_below HA.out hb)
  clear hb
  go_wp2_with (first | refine gate_guard (by rfl) (wpList_load_row rfl 29 _ rfl pp rfl 29 arrM (0, 0) _ HP.out Try.underlying29 rfl IM.out ?_) | (refine wpList_store_row rfl 29 _ _ rfl w5.heap.size pj rfl rfl 29 _ (blk_new w5 _) IJ.out SJ.out OJ.out ?_; refine gate_world (F := fun w' => Hid (w'.heap[w5.heap.size]? = some (.cells pj 29 (0, 0))) ∧ Hid (Below w5.heap.size w5 w')) ⟨Lib.hid (setRow_heap _ _ _ pj _ _ (blk_new w5 _)), Lib.hid (below_setRow (below_alloc (Below.refl _ w5) _) (Nat.le_refl _) pj)⟩ ?_; rintro w5' ⟨HQ, hb⟩; have hb := hb.out; replace HB := Lib.hid (HB.out.trans (hb.mono HB.out.size)); replace HW := Lib.hid (HW.out.below hb); replace HP := Lib.hid (blk_below HP.out hb); replace HA := Lib.hid (blk_below HA.out hb); clear hb; generalize w5.heap.size = hq at *))
  refine start_ (n := 5) (S := fun w' => w'.heap[pp]? = some (.cells arrM 29 (0, 0))) (ds := []) #[false, false, false, false, false] (by kernel_rfl) rfl rfl (blk_drew HP.out) (fun hHeld => ?_)
  have HB := Lib.hid (below_drew HB.out)
  have HW := Lib.hid (HW.out.below (below_drew (Below.refl _ _)))
  have HA := Lib.hid (blk_drew HA.out)
  have HQ := Lib.hid (blk_drew HQ.out)
  refine pure_ (i := 1) (N := some 41) (v := ?_) (a' := ?_) #[false, true, false, false, false] rfl rfl (by kernel_rfl) (fun _ _ _ h => h) (Or.inl ⟨by rfl, ?_⟩) ?_ ?_
  rotate_left
  · intro w'
    go_simp
    with_reducible rfl
  rotate_left
  · simp only [Act.put, List.setIfInBounds_toArray, List.set_cons_zero, List.set_cons_succ, i64_w, i32_w]
    rfl
  refine take_ (i := 0) (N := some 40) (v := ?_) (a' := ?_) #[true, true, false, false, false] rfl rfl (by kernel_rfl) (fun _ _ _ h => h) (Or.inl ⟨by rfl, ?_⟩) hHeld ?_ ?_
  rotate_left
  · intro w' s0
    refine run_row 29 (.tmp 3) ?_ pp ?_ 29 arrM (0, 0) _ s0 Try.underlying29 rfl IM.out <;> rfl
  rotate_left
  · simp only [Act.put, List.setIfInBounds_toArray, List.set_cons_zero, List.set_cons_succ, i64_w, i32_w]
    rfl
  refine one_ (i := 2) (N := some 42) #[true, true, true, false, false] rfl rfl (by kernel_rfl) (by decide) (fun K hK => ?_)
  refine goes_ Try.func14 (by kernel_rfl) rfl #[.int .i64 v] (by rfl) rfl rfl (by (try simp only [List.map_toArray, List.map_cons, List.map_nil]); first | done | rfl) ?_
  with_reducible refine (LA.out _).mono ?_
  rintro e wq1 ⟨rfl, rfl⟩
  refine ⟨_, rfl, ?_⟩
  refine hK.out _ _ (hHeld) (fun hHeld => ?_)
  clear hK K
  refine norm_ (a' := ?_) ?_ ?_
  rotate_left
  · show Act.put _ (some 42) _ = _
    simp only [Act.put, List.setIfInBounds_toArray, List.set_cons_zero, List.set_cons_succ, i64_w, i32_w]
    rfl
  refine one_ (i := 3) (N := some 43) #[true, true, true, true, false] rfl rfl (by kernel_rfl) (by decide) (fun K hK => ?_)
  refine goes_ Try.func13 (by kernel_rfl) rfl #[.agg arrM, .int .i64 (kv : Int)] (by rfl) rfl rfl (by (try simp only [List.map_toArray, List.map_cons, List.map_nil]); first | done | rfl) ?_
  with_reducible refine (BY.out _ HW.out).mono ?_
  rintro e w7 ⟨rfl, hb⟩
  refine ⟨_, rfl, ?_⟩
  have HB := Lib.hid (HB.out.trans (hb.mono HB.out.size))
  have HW := Lib.hid (HW.out.below hb)
  have HA := Lib.hid (blk_below HA.out hb)
  have HQ := Lib.hid (blk_below HQ.out hb)
  refine hK.out _ _ (blk_below hHeld hb) (fun hHeld => ?_)
  clear hK K
  refine norm_ (a' := ?_) ?_ ?_
  rotate_left
  · show Act.put _ (some 43) _ = _
    simp only [Act.put, List.setIfInBounds_toArray, List.set_cons_zero, List.set_cons_succ, i64_w, i32_w]
    rfl
  refine pure_ (i := 4) (N := some 11) (v := ?_) (a' := ?_) #[true, true, true, true, true] rfl rfl (by kernel_rfl) (fun _ _ _ h => h) (Or.inl ⟨by rfl, ?_⟩) ?_ ?_
  rotate_left
  · intro w'
    go_simp
    with_reducible rfl
  rotate_left
  · simp only [Act.put, List.setIfInBounds_toArray, List.set_cons_zero, List.set_cons_succ, i64_w, i32_w]
    rfl
  refine done_ (by kernel_rfl) ?_

  go_wp2_with (first | refine gate_guard (by rfl) (wpList_load_row rfl 29 _ rfl ha rfl 29 pj (0, 0) _ HA.out Try.underlying29 rfl IJ.out ?_) | refine gate_guard (by rfl) (wpList_load_row rfl 29 _ rfl hq rfl 29 pj (0, 0) _ HQ.out Try.underlying29 rfl IJ.out ?_))
  refine (SM.out _ HW.out).mono ?_
  rintro e w8 ⟨rfl, hb⟩
  have HBE := Lib.hid (HB.out.trans (hb.mono HB.out.size))
  go_wp2
  go_ret
  exact ⟨rfl, hpp ▸ HBE.out⟩
set_option maxRecDepth 100000 in
set_option maxHeartbeats 16000000 in
theorem msg_enc_bad (v : Int) (m : MsgS) (A : Option Addr) (n c : Nat) (w : World) (hw : Wrs w A n m.ws) (hn : n ≤ 140737488351232) (hi : m.In) (hf : fewB m = true) (h0 : mayE v m ≠ 0) :
    Calls Try.prog 3 #[.int .i64 v, .agg (m.arr A n c)] w fun e w' => e = .returned (.bool true) ∧ Below w.heap.size w w' := by
  have FW := Lib.hid (fun (w : World) (hw : Wrs w A n m.ws) => fewm_any m A n c w hw hn hi.key hi.note hi.value)
  rw [hf] at FW
  have AW := Lib.hid (fun w => awake05 w)
  have hb1 := below_alloc (Below.refl _ w) (.cells (m.arr A n c) 29)
  have HW := Lib.hid (hw.below hb1)
  have HB := Lib.hid hb1
  have HP := Lib.hid (blk_new w (.cells (m.arr A n c) 29))
  have IM := Lib.hid (info_msg.trans (congrArg some (arr_size m A n c).1.symm))
  have HZ := Lib.hid (hi.z (fewB_few hf))
  have hes : encS v m = ⟨#[]⟩ := if_neg h0
  have y0 : ((mayE v m : Int) == 0) = false := by simp; exact h0
  have EN := Lib.hid (fun (w : World) (hw : Wrs w A n m.ws) => encode_any v m A n c w HZ.out hw)
  have P1 := Lib.hid (fun (w : World) (hw : Wrs w A n m.ws) => project_any v m A n c w HZ.out hw)
  have P2 := Lib.hid (fun (w : World) (hw : Wrs w A n m.ws) => rproject_any v m A n c w HZ.out hw)
  have SM := Lib.hid (fun (w : World) => same_any zeroM zeroM none none 0 0 0 0 w zeroM_fit zeroM_fit (Wrs.nil w) (Wrs.nil w))
  have IJ := Lib.hid (info_msg.trans (congrArg some (arr_size zeroM none 0 0).1.symm))
  have SJ := Lib.hid (show 17 = (zeroM.arr none 0 0).size from (arr_size zeroM none 0 0).1.symm)
  have OJ := Lib.hid (arr_size zeroM none 0 0).2
  simp only [beq_self_eq_true] at SM
  rw [hes] at EN
  simp only [h0, if_false] at P1 P2
  clear h0 hes HZ
  clear hw hi hb1 hf
  generalize m.arr A n c = arrM at *
  generalize zeroM.arr none 0 0 = pj at *
  generalize mayE v m = me at *
  go_enter Try.func3, Try.ntmps3
  go_wp2_with fail
  refine (AW.out _).mono ?_
  rintro e w1 ⟨rfl, hb⟩
  replace HB := Lib.hid (HB.out.trans (hb.mono HB.out.size))
  replace HW := Lib.hid (HW.out.below hb)
  replace HP := Lib.hid (blk_below HP.out hb)
  clear hb
  obtain ⟨pp, hpp⟩ : ∃ pp, w.heap.size = pp := ⟨_, rfl⟩
  rw [hpp] at HP ⊢
  go_wp2_with (refine gate_guard (by rfl) (wpList_load_row rfl 29 _ rfl pp rfl 29 arrM (0, 0) _ HP.out Try.underlying29 rfl IM.out ?_))
  refine (FW.out _ HW.out).mono ?_
  rintro e w2 ⟨rfl, hb⟩
  replace HB := Lib.hid (HB.out.trans (hb.mono HB.out.size))
  replace HW := Lib.hid (HW.out.below hb)
  replace HP := Lib.hid (blk_below HP.out hb)
  clear hb
  go_wp2_with (refine gate_guard (by rfl) (wpList_load_row rfl 29 _ rfl pp rfl 29 arrM (0, 0) _ HP.out Try.underlying29 rfl IM.out ?_))
  refine (EN.out _ HW.out).mono ?_
  rintro e w3 ⟨rfl, hb⟩
  replace HB := Lib.hid (HB.out.trans (hb.mono HB.out.size))
  replace HW := Lib.hid (HW.out.below hb)
  replace HP := Lib.hid (blk_below HP.out hb)
  clear hb
  go_wp2_with (refine gate_guard (by rfl) (wpList_load_row rfl 29 _ rfl pp rfl 29 arrM (0, 0) _ HP.out Try.underlying29 rfl IM.out ?_))
  refine (P1.out _ HW.out).mono ?_
  rintro e w4 ⟨rfl, hb⟩
  replace HB := Lib.hid (HB.out.trans (hb.mono HB.out.size))
  replace HW := Lib.hid (HW.out.below hb)
  replace HP := Lib.hid (blk_below HP.out hb)
  clear hb
  go_wp2_with (first | refine gate_guard (by rfl) (wpList_load_row rfl 29 _ rfl pp rfl 29 arrM (0, 0) _ HP.out Try.underlying29 rfl IM.out ?_) | (refine wpList_store_row rfl 29 _ _ rfl w4.heap.size pj rfl rfl 29 _ (blk_new w4 _) IJ.out SJ.out OJ.out ?_; refine gate_world (F := fun w' => Hid (w'.heap[w4.heap.size]? = some (.cells pj 29 (0, 0))) ∧ Hid (Below w4.heap.size w4 w')) ⟨Lib.hid (setRow_heap _ _ _ pj _ _ (blk_new w4 _)), Lib.hid (below_setRow (below_alloc (Below.refl _ w4) _) (Nat.le_refl _) pj)⟩ ?_; rintro w4' ⟨HA, hb⟩; have hb := hb.out; replace HB := Lib.hid (HB.out.trans (hb.mono HB.out.size)); replace HW := Lib.hid (HW.out.below hb); replace HP := Lib.hid (blk_below HP.out hb); clear hb; generalize w4.heap.size = ha at *))
  refine (P2.out _ HW.out).mono ?_
  rintro e w5 ⟨rfl, hb⟩
  replace HB := Lib.hid (HB.out.trans (hb.mono HB.out.size))
  replace HW := Lib.hid (HW.out.below hb)
  replace HP := Lib.hid (blk_below HP.out hb)
  replace HA := Lib.hid (blk_below HA.out hb)
  clear hb
  go_wp2_with (first | refine gate_guard (by rfl) (wpList_load_row rfl 29 _ rfl pp rfl 29 arrM (0, 0) _ HP.out Try.underlying29 rfl IM.out ?_) | (refine wpList_store_row rfl 29 _ _ rfl w5.heap.size pj rfl rfl 29 _ (blk_new w5 _) IJ.out SJ.out OJ.out ?_; refine gate_world (F := fun w' => Hid (w'.heap[w5.heap.size]? = some (.cells pj 29 (0, 0))) ∧ Hid (Below w5.heap.size w5 w')) ⟨Lib.hid (setRow_heap _ _ _ pj _ _ (blk_new w5 _)), Lib.hid (below_setRow (below_alloc (Below.refl _ w5) _) (Nat.le_refl _) pj)⟩ ?_; rintro w5' ⟨HQ, hb⟩; have hb := hb.out; replace HB := Lib.hid (HB.out.trans (hb.mono HB.out.size)); replace HW := Lib.hid (HW.out.below hb); replace HP := Lib.hid (blk_below HP.out hb); replace HA := Lib.hid (blk_below HA.out hb); clear hb; generalize w5.heap.size = hq at *) | refine gate_guard (by rfl) (wpList_load_row rfl 29 _ rfl ha rfl 29 pj (0, 0) _ HA.out Try.underlying29 rfl IJ.out ?_) | refine gate_guard (by rfl) (wpList_load_row rfl 29 _ rfl hq rfl 29 pj (0, 0) _ HQ.out Try.underlying29 rfl IJ.out ?_))
  refine (SM.out _).mono ?_
  rintro e w8 ⟨rfl, hb⟩
  have HBE := Lib.hid (HB.out.trans (hb.mono HB.out.size))
  go_wp2
  go_ret
  exact ⟨rfl, hpp ▸ HBE.out⟩
theorem msg_encodes (v : Int) (m : MsgS) (A : Option Addr) (n c : Nat) (w : World) (hw : Wrs w A n m.ws) (hn : n ≤ 140737488351232) (hi : m.In) :
    Calls Try.prog 3 #[.int .i64 v, .agg (m.arr A n c)] w fun e w' => e = .returned (.bool true) ∧ Below w.heap.size w w' := by
  cases hf : fewB m with
  | false => exact msg_enc_few v m A n c w hw hn hi hf
  | true =>
    by_cases h0 : mayE v m = 0
    · exact msg_enc_ok v m A n c w hw hn hi hf h0
    · exact msg_enc_bad v m A n c w hw hn hi hf h0
end Go.Proofs.Ytemhmgpihkemjaa.My
