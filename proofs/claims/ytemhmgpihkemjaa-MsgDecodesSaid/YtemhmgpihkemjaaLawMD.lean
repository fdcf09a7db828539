/- The law MsgDecodes, walked. -/
import Derived.Test.YtemhmgpihkemjaaMrdC
import Derived.Test.YtemhmgpihkemjaaLawME
namespace Go.Proofs.Ytemhmgpihkemjaa.My
set_option linter.unusedSimpArgs false
set_option linter.unusedVariables false
open Go.RowKit Go.Proofs.YtemhmgpihkemjaaW.PrintWords Go.Proofs.YtemhmgpihkemjaaW.PrintLast Go.Proofs.Ytemhmgpihkemjaa.Pm

/-- What a decoding tells, in one. -/
theorem dec_say (v : Int) (b : ByteArray) (W : World) (hb : b.size ≤ 140737488351232) : ∃ mm lf er, decM v b = (mm, lf, er) ∧ Calls Try.prog 16 #[.int .i64 v, .string b] W fun e w' => ∃ A c, e = .returned (.tuple #[.agg (mm.arr A mm.ws.length c), .int .i64 (lf : Int), .int .i64 (er : Int)]) ∧ Wrs w' A mm.ws.length mm.ws ∧ Below W.heap.size W w' := by
  refine ⟨(decM v b).1, (decM v b).2.1, (decM v b).2.2, rfl, (decode_any v b W hb).mono ?_⟩
  rintro e w' ⟨A, c, rfl, ho, hB⟩
  exact ⟨A, c, rfl, row_wrs (ho.row wrC_len), hB⟩
set_option maxRecDepth 100000 in
set_option maxHeartbeats 16000000 in
theorem msg_decodes (v : Int) (b : ByteArray) (w : World) (hbs : b.size ≤ 140737488351232) :
    Calls Try.prog 5 #[.int .i64 v, .string b] w fun e w' => e = .returned (.bool true) ∧ Below w.heap.size w w' := by
  have AW := Lib.hid (fun w => awake05 w)
  go_enter Try.func5, Try.ntmps5
  go_wp2_with fail
  refine (AW.out _).mono ?_
  rintro e w1 ⟨rfl, hb⟩
  have HB := Lib.hid hb; clear hb
  by_cases h3 : 3000 < b.size
  · have y1 : decide (3000 < (b.size : Int)) = true := decide_eq_true (by omega)
    go_wp2_with fail
    refine (AW.out _).mono ?_
    rintro e w2 ⟨rfl, hb⟩
    replace HB := Lib.hid (HB.out.trans (hb.mono HB.out.size))
    go_wp2
    go_ret
    exact ⟨rfl, HB.out⟩
  have y1 : decide (3000 < (b.size : Int)) = false := decide_eq_false (by omega)
  obtain ⟨mm, lf, er, hd, HC⟩ := dec_say v b w1 hbs
  have HC := Lib.hid HC
  have hE := @decM_err v b
  have hO := @decM_back v b (by omega)
  rw [hd] at hE hO
  simp only at hE hO
  have HE := Lib.hid hE; have HO := Lib.hid hO; clear hE hO hd
  go_wp2_with fail
  refine HC.out.mono ?_
  rintro e w2 ⟨A, c, rfl, hw, hb⟩
  have HW := Lib.hid hw; clear hw
  replace HB := Lib.hid (HB.out.trans (hb.mono HB.out.size)); clear hb HC
  have IM := Lib.hid (info_msg.trans (congrArg some (arr_size mm A mm.ws.length c).1.symm))
  have SZ := Lib.hid (show 17 = (mm.arr A mm.ws.length c).size from (arr_size mm A mm.ws.length c).1.symm)
  have ON := Lib.hid (arr_size mm A mm.ws.length c).2
  by_cases h0 : er = 0
  · obtain ⟨o1, o2, o3, o4⟩ := HO.out h0
    subst h0
    have EN := Lib.hid (fun (w : World) (hw : Wrs w A mm.ws.length mm.ws) => encode_any v mm A mm.ws.length c w (fit_z o4) hw)
    rw [show encS v mm = bytesN mm (knownS v) from if_pos o1, o1] at EN
    generalize bytesN mm (knownS v) = sB at *
    have HO2 := Lib.hid o2; have HO3 := Lib.hid o3
    generalize mm.arr A mm.ws.length c = arrD at *
    clear o1 o2 o3 o4 HE HO
    go_wp2_with (first | refine wpList_load_row rfl 29 _ rfl w2.heap.size rfl 29 arrD (0, 0) _ HA.out Try.underlying29 rfl IM.out ?_ | (refine wpList_store_row rfl 29 _ _ rfl w2.heap.size arrD rfl rfl 29 _ (blk_new w2 _) IM.out SZ.out ON.out ?_; refine gate_world (F := fun w' => Hid (w'.heap[w2.heap.size]? = some (.cells arrD 29 (0, 0))) ∧ Hid (Below w2.heap.size w2 w')) ⟨Lib.hid (setRow_heap _ _ _ arrD _ _ (blk_new w2 _)), Lib.hid (below_setRow (below_alloc (Below.refl _ w2) _) (Nat.le_refl _) arrD)⟩ ?_; rintro w3 ⟨HA, hb⟩; have hb := hb.out; replace HB := Lib.hid (HB.out.trans (hb.mono HB.out.size)); replace HW := Lib.hid (HW.out.below hb); clear hb) | fail)
    refine (EN.out _ HW.out).mono ?_
    rintro e w4 ⟨rfl, hb⟩
    replace HB := Lib.hid (HB.out.trans (hb.mono HB.out.size)); clear hb
    have y2 : decide ((sB.size : Int) ≤ (b.size : Int)) = true := decide_eq_true (by have := HO2.out; omega)
    by_cases hl : 0 < lf
    · have y3 : decide (0 < (lf : Int)) = true := decide_eq_true (by omega)
      have y3n : decide (0 < lf) = true := decide_eq_true hl
      go_wp2
      go_ret
      exact ⟨rfl, HB.out⟩
    · have y3 : decide (0 < (lf : Int)) = false := decide_eq_false (by omega)
      have y3n : decide (0 < lf) = false := decide_eq_false hl
      have h := HO3.out (by omega)
      have y4 : (sB.toList == b.toList) = true := by rw [h]; exact beq_self_eq_true _
      clear h
      go_wp2
      go_ret
      exact ⟨rfl, HB.out⟩
  · obtain ⟨rfl, rfl, h4⟩ := HE.out h0
    have SM := Lib.hid (show ∀ W, Calls Try.prog 15 #[.agg (zeroM.arr A zeroM.ws.length c), .agg #[.int .i64 0, .int .i64 0, .int .i64 0, .int .i64 0, .int .i64 0, .int .i64 0, .int .u64 0, .int .u64 0, .string ⟨#[]⟩, .bool false, .int .u64 0, .bool false, .string ⟨#[]⟩, .slice none 0 0, .string ⟨#[]⟩, .int .u64 0, .int .u64 0]] W fun e w' => e = .returned (.bool true) ∧ Below W.heap.size W w' from fun W => by
      have := same_any zeroM zeroM A none zeroM.ws.length c 0 0 W zeroM_fit zeroM_fit ⟨rfl, fun h => absurd h (by decide)⟩ (Wrs.nil W)
      rw [beq_self_eq_true] at this
      exact this)
    generalize zeroM.arr A zeroM.ws.length c = arrD at *
    have LA := Lib.hid (fun w => last_any v w)
    clear HE HO HW
    have hv4 : knownS v ≠ 0 → v < 4 := fun h => by
      unfold knownS at h
      split at h
      · omega
      · split at h
        · omega
        · split at h
          · omega
          · exact absurd rfl h
    rcases h4 with ⟨rfl, hk⟩ | ⟨rfl, hk⟩ | rfl | ⟨rfl, hk⟩
    · rw [hk] at LA
      clear hv4 hk h0
      go_wp2_with (first | refine gate_guard (by rfl) (wpList_load_row rfl 29 _ rfl w2.heap.size rfl 29 arrD (0, 0) _ HA.out Try.underlying29 rfl IM.out ?_) | refine wpList_load_row rfl 29 _ rfl w2.heap.size rfl 29 arrD (0, 0) _ HA.out Try.underlying29 rfl IM.out ?_ | (refine wpList_store_row rfl 29 _ _ rfl w2.heap.size arrD rfl rfl 29 _ (blk_new w2 _) IM.out SZ.out ON.out ?_; refine gate_world (F := fun w' => Hid (w'.heap[w2.heap.size]? = some (.cells arrD 29 (0, 0))) ∧ Hid (Below w2.heap.size w2 w')) ⟨Lib.hid (setRow_heap _ _ _ arrD _ _ (blk_new w2 _)), Lib.hid (below_setRow (below_alloc (Below.refl _ w2) _) (Nat.le_refl _) arrD)⟩ ?_; rintro w3 ⟨HA, hb⟩; have hb := hb.out; replace HB := Lib.hid (HB.out.trans (hb.mono HB.out.size)); clear hb) | fail)
      refine (SM.out _).mono ?_
      rintro e w4 ⟨rfl, hb⟩
      replace HB := Lib.hid (HB.out.trans (hb.mono HB.out.size)); clear hb
      go_wp2_with fail
      refine (LA.out _).mono ?_
      rintro e w5 ⟨rfl, rfl⟩
      go_wp2
      go_ret
      exact ⟨rfl, HB.out⟩
    · exact absurd hk (by omega)
    · clear hv4 h0
      go_wp2_with (first | refine gate_guard (by rfl) (wpList_load_row rfl 29 _ rfl w2.heap.size rfl 29 arrD (0, 0) _ HA.out Try.underlying29 rfl IM.out ?_) | refine wpList_load_row rfl 29 _ rfl w2.heap.size rfl 29 arrD (0, 0) _ HA.out Try.underlying29 rfl IM.out ?_ | (refine wpList_store_row rfl 29 _ _ rfl w2.heap.size arrD rfl rfl 29 _ (blk_new w2 _) IM.out SZ.out ON.out ?_; refine gate_world (F := fun w' => Hid (w'.heap[w2.heap.size]? = some (.cells arrD 29 (0, 0))) ∧ Hid (Below w2.heap.size w2 w')) ⟨Lib.hid (setRow_heap _ _ _ arrD _ _ (blk_new w2 _)), Lib.hid (below_setRow (below_alloc (Below.refl _ w2) _) (Nat.le_refl _) arrD)⟩ ?_; rintro w3 ⟨HA, hb⟩; have hb := hb.out; replace HB := Lib.hid (HB.out.trans (hb.mono HB.out.size)); clear hb) | fail)
      refine (SM.out _).mono ?_
      rintro e w4 ⟨rfl, hb⟩
      replace HB := Lib.hid (HB.out.trans (hb.mono HB.out.size)); clear hb
      go_wp2
      go_ret
      exact ⟨rfl, HB.out⟩
    · have hv := hv4 hk
      have y5 : decide (v < 4) = true := decide_eq_true hv
      clear hv4 hk h0 hv
      go_wp2_with (first | refine gate_guard (by rfl) (wpList_load_row rfl 29 _ rfl w2.heap.size rfl 29 arrD (0, 0) _ HA.out Try.underlying29 rfl IM.out ?_) | refine wpList_load_row rfl 29 _ rfl w2.heap.size rfl 29 arrD (0, 0) _ HA.out Try.underlying29 rfl IM.out ?_ | (refine wpList_store_row rfl 29 _ _ rfl w2.heap.size arrD rfl rfl 29 _ (blk_new w2 _) IM.out SZ.out ON.out ?_; refine gate_world (F := fun w' => Hid (w'.heap[w2.heap.size]? = some (.cells arrD 29 (0, 0))) ∧ Hid (Below w2.heap.size w2 w')) ⟨Lib.hid (setRow_heap _ _ _ arrD _ _ (blk_new w2 _)), Lib.hid (below_setRow (below_alloc (Below.refl _ w2) _) (Nat.le_refl _) arrD)⟩ ?_; rintro w3 ⟨HA, hb⟩; have hb := hb.out; replace HB := Lib.hid (HB.out.trans (hb.mono HB.out.size)); clear hb) | fail)
      refine (SM.out _).mono ?_
      rintro e w4 ⟨rfl, hb⟩
      replace HB := Lib.hid (HB.out.trans (hb.mono HB.out.size)); clear hb
      go_wp2
      go_ret
      exact ⟨rfl, HB.out⟩
theorem msg_decodes_walk (a0 : Int) (a1 : ByteArray) (W : World) (_ : (Lit.int .i64 a0).wf = true) (h : a1.size ≤ 140737488351232) :
    Calls Try.prog 5 #[.int .i64 a0, .string a1] W fun e w' => e = .returned (.bool true) ∧ Below W.heap.size W w' := msg_decodes a0 a1 W h
end Go.Proofs.Ytemhmgpihkemjaa.My
