/- The law MsgBack, walked. -/
import Derived.Test.YtemhmgpihkemjaaMrdC
import Derived.Test.YtemhmgpihkemjaaOpenMsg
namespace Go.Proofs.Ytemhmgpihkemjaa.My
set_option linter.unusedSimpArgs false
set_option linter.unusedVariables false
open Go.RowKit Go.Proofs.YtemhmgpihkemjaaW.PrintWords Go.Proofs.YtemhmgpihkemjaaW.PrintLast Go.Proofs.Ytemhmgpihkemjaa.Pm

theorem dec_is {v : Int} {b : ByteArray} {mm : MsgS} {lf er : Nat} (hd : decM v b = (mm, lf, er)) (W : World) (hb : b.size ≤ 140737488351232) : Calls Try.prog 16 #[.int .i64 v, .string b] W fun e w' => ∃ A c, e = .returned (.tuple #[.agg (mm.arr A mm.ws.length c), .int .i64 (lf : Int), .int .i64 (er : Int)]) ∧ Wrs w' A mm.ws.length mm.ws ∧ Below W.heap.size W w' := by
  have h := decode_any v b W hb
  rw [hd] at h
  refine h.mono ?_
  rintro e w' ⟨A, c, rfl, ho, hB⟩
  exact ⟨A, c, rfl, row_wrs (ho.row wrC_len), hB⟩
theorem dec_back {m : MsgS} (G : m.Good) (hr : rightB m = true) {v : Int} {hi : Nat} (h : hi ≤ 12) (hv : knownS v ≠ 0) (hk : knownS v ≤ hi) : decM v (bytesN m hi) = if critN m (knownS v) hi = true then (zeroM, 0, 4) else (restr m (knownS v), leftN m (knownS v) hi, 0) := by
  have e := decM_own (v := v) G hr (hi := hi) h ⟨#[]⟩ (stM m (knownS v) hi) hv (by rw [ap_nil]; exact Nat.le_trans (bytes_mono m h) (right_size hr)) (by rw [decW_nil]) rfl rfl
  rw [ap_nil] at e
  rw [e]
  show (if critN m (knownS v) hi = true then _ else (restr m (min hi (knownS v)), leftN m (knownS v) hi, 0)) = _
  rw [Nat.min_eq_right hk]
def bN (b : Prop) [Decidable b] : Nat := if b then 1 else 0
theorem has10 (m : MsgS) : hasB m 10 = decide (m.note.size ≠ 0) := rfl
theorem has11 (m : MsgS) : hasB m 11 = decide (m.hint ≠ 0) := rfl
theorem has12 (m : MsgS) : hasB m 12 = decide (m.must ≠ 0) := rfl
theorem left_1_1 (m : MsgS) : leftN m 9 9 = 0 := by
  simp [leftN, bN]
theorem crit_1_1 (m : MsgS) : critN m 9 9 = false := by
  simp [critN, headS]
theorem left_1_2 (m : MsgS) : leftN m 9 10 = 0 + bN (hasB m 10 = true) := by
  simp [leftN, bN]
theorem crit_1_2 (m : MsgS) : critN m 9 10 = false := by
  simp [critN, headS]
theorem left_1_3 (m : MsgS) : leftN m 9 12 = 0 + bN (hasB m 10 = true) + bN (hasB m 11 = true) + bN (hasB m 12 = true) := by
  simp [leftN, bN]
theorem crit_1_3 (m : MsgS) : critN m 9 12 = hasB m 12 := by
  simp [critN, headS]
theorem left_2_2 (m : MsgS) : leftN m 10 10 = 0 := by
  simp [leftN, bN]
theorem crit_2_2 (m : MsgS) : critN m 10 10 = false := by
  simp [critN, headS]
theorem left_2_3 (m : MsgS) : leftN m 10 12 = 0 + bN (hasB m 11 = true) + bN (hasB m 12 = true) := by
  simp [leftN, bN]
theorem crit_2_3 (m : MsgS) : critN m 10 12 = hasB m 12 := by
  simp [critN, headS]
theorem left_3_3 (m : MsgS) : leftN m 12 12 = 0 := by
  simp [leftN, bN]
theorem crit_3_3 (m : MsgS) : critN m 12 12 = false := by
  simp [critN, headS]
set_option maxRecDepth 100000 in
set_option maxHeartbeats 16000000 in
theorem msg_back_11 (m : MsgS) (A : Option Addr) (n c : Nat) (v u : Nat) (w : World) (hw : Wrs w A n m.ws) (hn : n ≤ 140737488351232) (hi : m.In) (hv : v % 3 = 0) (hu : u % 3 = 0) :
    Calls Try.prog 4 #[.agg (m.arr A n c), .int .u8 (v : Int), .int .u8 (u : Int)] w fun e w' => e = .returned (.bool true) ∧ Below w.heap.size w w' := by
  have x1 : (v : Int) % 3 = 0 := by omega
  have x2 : Int.tmod (v : Int) 3 = 0 := by rw [Int.tmod_eq_emod_of_nonneg (by omega)]; exact x1
  have x3 : (u : Int) % 3 = 0 := by omega
  have x4 : Int.tmod (u : Int) 3 = 0 := by rw [Int.tmod_eq_emod_of_nonneg (by omega)]; exact x3
  have FW := Lib.hid (fun (w : World) (hw : Wrs w A n m.ws) => fewm_any m A n c w hw hn hi.key hi.note hi.value)
  have AW := Lib.hid (fun w => awake05 w)
  have hb1 := below_alloc (Below.refl _ w) (.cells (m.arr A n c) 29)
  have HW := Lib.hid (hw.below hb1)
  have HB := Lib.hid hb1
  have HP := Lib.hid (blk_new w (.cells (m.arr A n c) 29))
  have IM := Lib.hid (info_msg.trans (congrArg some (arr_size m A n c).1.symm))
  have EN := Lib.hid (fun (z : m.Z) (w : World) (hw : Wrs w A n m.ws) => encode_any 1 m A n c w z hw)
  have PR := Lib.hid (fun (z : m.Z) (w : World) (hw : Wrs w A n m.ws) => rproject_any 1 m A n c w z hw)
  have NG := Lib.hid (show ∀ W, Calls Try.prog 17 #[.int .i64 1, .int .i64 1] W fun e w' => e = .returned (.int .i64 1) ∧ W = w' from fun W => negotiate_any 1 1 W)
  have A14 := Lib.hid (show (m.arr A n c)[14]? = some (.string m.note) from rfl)
  have A15 := Lib.hid (show (m.arr A n c)[15]? = some (.int .u64 (m.hint : Int)) from rfl)
  obtain ⟨fb, hfb⟩ : ∃ x, fewB m = x := ⟨_, rfl⟩
  rw [hfb] at FW
  have HZ := Lib.hid (show fb = true → m.Z from fun h => hi.z (fewB_few (hfb.trans h)))
  clear hw hb1 hi hfb hv hu
  generalize hMM : m.arr A n c = arrM at *
  have HMM := Lib.hid hMM; clear hMM
  go_enter Try.func4, Try.ntmps4
  go_wp2_with fail
  refine (AW.out _).mono ?_
  rintro e w1 ⟨rfl, hb⟩
  replace HB := Lib.hid (HB.out.trans (hb.mono HB.out.size)); replace HW := Lib.hid (HW.out.below hb); replace HP := Lib.hid (blk_below HP.out hb); clear hb
  obtain ⟨pp, hpp⟩ : ∃ pp, w.heap.size = pp := ⟨_, rfl⟩
  rw [hpp] at HP ⊢
  have HPP := Lib.hid hpp; clear hpp
  go_wp2_with (first | refine gate_guard (by rfl) (wpList_load_row rfl 29 _ rfl pp rfl 29 arrM (0, 0) _ HP.out Try.underlying29 rfl IM.out ?_) | refine wpList_load_row rfl 29 _ rfl pp rfl 29 arrM (0, 0) _ HP.out Try.underlying29 rfl IM.out ?_ | fail)
  refine (FW.out _ HW.out).mono ?_
  rintro e w2 ⟨rfl, hb⟩
  replace HB := Lib.hid (HB.out.trans (hb.mono HB.out.size)); replace HW := Lib.hid (HW.out.below hb); replace HP := Lib.hid (blk_below HP.out hb); clear hb
  cases fb with
  | false =>
    go_wp2_with fail
    refine (AW.out _).mono ?_
    rintro e w3 ⟨rfl, hb⟩
    replace HB := Lib.hid (HB.out.trans (hb.mono HB.out.size))
    go_wp2
    go_ret
    first | exact ⟨rfl, HB.out⟩ | exact ⟨rfl, HPP.out ▸ HB.out⟩
  | true =>
    replace HZ := Lib.hid (HZ.out rfl)
    go_wp2_with (first | refine gate_guard (by rfl) (wpList_load_row rfl 29 _ rfl pp rfl 29 arrM (0, 0) _ HP.out Try.underlying29 rfl IM.out ?_) | refine wpList_load_row rfl 29 _ rfl pp rfl 29 arrM (0, 0) _ HP.out Try.underlying29 rfl IM.out ?_ | fail)
    refine (EN.out HZ.out _ HW.out).mono ?_
    rintro e w3 ⟨rfl, hb⟩
    replace HB := Lib.hid (HB.out.trans (hb.mono HB.out.size)); replace HW := Lib.hid (HW.out.below hb); replace HP := Lib.hid (blk_below HP.out hb); clear hb
    by_cases h0 : mayE 1 m = 0
    · obtain ⟨o1, -, o3⟩ := may_ok h0
      have HG := Lib.hid (right_good HZ.out o1)
      have HD := Lib.hid (dec_back HG.out o1 (v := 1) (hi := 9) (by decide) (by decide) (by decide))
      rw [show knownS 1 = 9 from rfl, crit_1_1, left_1_1] at HD
      rw [show encS 1 m = bytesN m 9 from if_pos h0, h0]
      have HSZ := Lib.hid (show (bytesN m 9).size ≤ 140737488351232 from Nat.le_trans (bytes_mono m (show 9 ≤ 12 by decide)) (Nat.le_trans (right_size o1) (by decide)))
      have HR := Lib.hid o1
      have HM := Lib.hid o3
      have ML := Lib.hid (show mayE 1 m = if m.must ≠ 0 ∧ 9 < 12 then 4 else 0 by unfold mayE; rw [if_neg (by rintro (h | h); exact absurd h (by decide); rw [o1] at h; cases h)]; rfl)
      have hfit := HG.out.fit
      clear h0 o1 o3
      obtain ⟨sB, hsB⟩ : ∃ x, bytesN m 9 = x := ⟨_, rfl⟩
      rw [hsB] at HD HSZ ⊢
      clear hsB
      have ml := ML.out
      have hmu0 : m.must = 0 := HM.out.resolve_right (by decide)
      rw [if_neg (fun h => h.1 hmu0)] at ml
      have hcr : ¬ false = true := by decide
      obtain ⟨lf, hlf⟩ : ∃ x, 0 = x := ⟨_, rfl⟩
      have HLE := Lib.hid hlf
      have HDQ := Lib.hid (show decM 1 sB = (projS 1 m, lf, 0) from HD.out.trans ((if_neg hcr).trans (by rw [hlf, ← restr_proj ml]; rfl)))
      have PRJ := Lib.hid (fun (W : World) (hw : Wrs W A n m.ws) => PR.out HZ.out W hw)
      simp only [ml, if_pos (show (0 : Nat) = 0 from rfl)] at PRJ
      clear ml hcr hlf
      go_wp2_with fail
      refine (dec_is HDQ.out _ HSZ.out).mono ?_
      rintro e w4 ⟨A4, c4, rfl, hw4, hb⟩
      replace HB := Lib.hid (HB.out.trans (hb.mono HB.out.size)); replace HW := Lib.hid (HW.out.below hb); replace HP := Lib.hid (blk_below HP.out hb); clear hb
      have HW4 := Lib.hid hw4; clear hw4
      have I4 := Lib.hid (info_msg.trans (congrArg some (arr_size (projS 1 m) A4 (projS 1 m).ws.length c4).1.symm))
      have S4 := Lib.hid (show 17 = ((projS 1 m).arr A4 (projS 1 m).ws.length c4).size from (arr_size (projS 1 m) A4 (projS 1 m).ws.length c4).1.symm)
      have O4 := Lib.hid (arr_size (projS 1 m) A4 (projS 1 m).ws.length c4).2
      have SM := Lib.hid (fun W (hw : Wrs W A4 (projS 1 m).ws.length (projS 1 m).ws) (hw2 : Wrs W A n m.ws) => (show Calls Try.prog 15 #[.agg ((projS 1 m).arr A4 (projS 1 m).ws.length c4), .agg ((projS 1 m).arr A n c)] W fun e w' => e = .returned (.bool true) ∧ Below W.heap.size W w' from by
          have h := same_any (projS 1 m) (projS 1 m) A4 A (projS 1 m).ws.length c4 n c W (projS_fit hfit) (projS_fit hfit) hw hw2
          rw [beq_self_eq_true] at h
          exact h))
      generalize (projS 1 m).arr A4 (projS 1 m).ws.length c4 = arrX at *
      go_wp2_with (first | refine gate_guard (by rfl) (wpList_load_row rfl 29 _ rfl pp rfl 29 arrM (0, 0) _ HP.out Try.underlying29 rfl IM.out ?_) | refine wpList_load_row rfl 29 _ rfl pp rfl 29 arrM (0, 0) _ HP.out Try.underlying29 rfl IM.out ?_ | (refine wpList_store_row rfl 29 _ _ rfl w4.heap.size arrX rfl rfl 29 _ (blk_new w4 _) I4.out S4.out O4.out ?_; refine gate_world (F := fun w' => Hid (w'.heap[w4.heap.size]? = some (.cells arrX 29 (0, 0))) ∧ Hid (Below w4.heap.size w4 w')) ⟨Lib.hid (setRow_heap _ _ _ arrX _ _ (blk_new w4 _)), Lib.hid (below_setRow (below_alloc (Below.refl _ w4) _) (Nat.le_refl _) arrX)⟩ ?_; rintro w5 ⟨HX, hb⟩; have hb := hb.out; replace HB := Lib.hid (HB.out.trans (hb.mono HB.out.size)); replace HW := Lib.hid (HW.out.below hb); replace HP := Lib.hid (blk_below HP.out hb); replace HW4 := Lib.hid (HW4.out.below hb); clear hb) | fail)
      have HX4 := Lib.hid HX.out
      refine (PRJ.out _ HW.out).mono ?_
      rintro e w6 ⟨rfl, hb⟩
      replace HB := Lib.hid (HB.out.trans (hb.mono HB.out.size)); replace HW := Lib.hid (HW.out.below hb); replace HP := Lib.hid (blk_below HP.out hb); replace HW4 := Lib.hid (HW4.out.below hb); replace HX := Lib.hid (blk_below HX.out hb); clear hb HX4
      obtain ⟨gx, hgx⟩ : ∃ x, w4.heap.size = x := ⟨_, rfl⟩
      rw [hgx] at HX ⊢
      clear hgx
      have I6 := Lib.hid (info_msg.trans (congrArg some (arr_size (projS 1 m) A n c).1.symm))
      have S6 := Lib.hid (show 17 = ((projS 1 m).arr A n c).size from (arr_size (projS 1 m) A n c).1.symm)
      have O6 := Lib.hid (arr_size (projS 1 m) A n c).2
      generalize (projS 1 m).arr A n c = arrW at *
      have c14 : w6.cell? ⟨pp, 14, none⟩ = some (.string m.note) := (blk_cell HP.out 14).trans A14.out
      have c15 : w6.cell? ⟨pp, 15, none⟩ = some (.int .u64 (m.hint : Int)) := (blk_cell HP.out 15).trans A15.out
      have hpl := blk_lt HP.out
      by_cases hnb : m.note.size = 0
      · have e14 : m.note.toList.isEmpty = true := by rw [str_e]; exact decide_eq_true hnb
        have n14 : bN (hasB m 10 = true) = 0 := by rw [has10]; unfold bN; simp [hnb]
        by_cases hhb : m.hint = 0
        · have e15 : ((m.hint : Int) == 0) = true := beq_iff_eq.2 (by omega)
          have e15n : (m.hint == 0) = true := beq_iff_eq.2 hhb
          have n15 : bN (hasB m 11 = true) = 0 := by rw [has11]; unfold bN; simp [hhb]
          have hle := HLE.out
          have z1 : ((lf : Int) == 0) = true := beq_iff_eq.2 (by omega)
          have z2 : (lf == 0) = true := beq_iff_eq.2 (by omega)
          clear hle
          have HNB := Lib.hid hnb; have HHB := Lib.hid hhb; clear hnb hhb n14 n15
          go_wp2_with (first | refine gate_guard (by rfl) (wpList_load_row rfl 29 _ rfl pp rfl 29 arrM (0, 0) _ HP.out Try.underlying29 rfl IM.out ?_) | refine wpList_load_row rfl 29 _ rfl pp rfl 29 arrM (0, 0) _ HP.out Try.underlying29 rfl IM.out ?_ | (refine wpList_store_row rfl 29 _ _ rfl w6.heap.size arrW rfl rfl 29 _ (blk_new w6 _) I6.out S6.out O6.out ?_; refine gate_world (F := fun w' => Hid (w'.heap[w6.heap.size]? = some (.cells arrW 29 (0, 0))) ∧ Hid (Below w6.heap.size w6 w')) ⟨Lib.hid (setRow_heap _ _ _ arrW _ _ (blk_new w6 _)), Lib.hid (below_setRow (below_alloc (Below.refl _ w6) _) (Nat.le_refl _) arrW)⟩ ?_; rintro w7 ⟨HV, hb⟩; have hb := hb.out; have c14 := (hb.cell (p := ⟨pp, 14, none⟩) hpl).trans c14; have c15 := (hb.cell (p := ⟨pp, 15, none⟩) hpl).trans c15; replace HB := Lib.hid (HB.out.trans (hb.mono HB.out.size)); replace HW := Lib.hid (HW.out.below hb); replace HP := Lib.hid (blk_below HP.out hb); replace HW4 := Lib.hid (HW4.out.below hb); replace HX := Lib.hid (blk_below HX.out hb); clear hb) | refine gate_guard (by rfl) (wpList_load_row rfl 29 _ rfl gx rfl 29 arrX (0, 0) _ HX.out Try.underlying29 rfl I4.out ?_) | refine wpList_load_row rfl 29 _ rfl gx rfl 29 arrX (0, 0) _ HX.out Try.underlying29 rfl I4.out ?_ | refine gate_guard (by rfl) (wpList_load_row rfl 29 _ rfl w6.heap.size rfl 29 arrW (0, 0) _ HV.out Try.underlying29 rfl I6.out ?_) | refine wpList_load_row rfl 29 _ rfl w6.heap.size rfl 29 arrW (0, 0) _ HV.out Try.underlying29 rfl I6.out ?_ | fail)
          refine (NG.out _).mono ?_
          rintro e w8 ⟨rfl, rfl⟩
          go_wp2_with (first | refine gate_guard (by rfl) (wpList_load_row rfl 29 _ rfl gx rfl 29 arrX (0, 0) _ HX.out Try.underlying29 rfl I4.out ?_) | refine wpList_load_row rfl 29 _ rfl gx rfl 29 arrX (0, 0) _ HX.out Try.underlying29 rfl I4.out ?_ | refine gate_guard (by rfl) (wpList_load_row rfl 29 _ rfl w6.heap.size rfl 29 arrW (0, 0) _ HV.out Try.underlying29 rfl I6.out ?_) | refine wpList_load_row rfl 29 _ rfl w6.heap.size rfl 29 arrW (0, 0) _ HV.out Try.underlying29 rfl I6.out ?_ | fail)
          refine (SM.out _ HW4.out HW.out).mono ?_
          rintro e w8 ⟨rfl, hb⟩
          replace HB := Lib.hid (HB.out.trans (hb.mono HB.out.size))
          go_wp2
          go_ret
          first | exact ⟨rfl, HB.out⟩ | exact ⟨rfl, HPP.out ▸ HB.out⟩
        · have e15 : ((m.hint : Int) == 0) = false := beq_eq_false_iff_ne.2 (by omega)
          have e15n : (m.hint == 0) = false := beq_eq_false_iff_ne.2 hhb
          have n15 : bN (hasB m 11 = true) = 1 := by rw [has11]; unfold bN; simp [hhb]
          have hle := HLE.out
          have z1 : ((lf : Int) == 0) = true := beq_iff_eq.2 (by omega)
          have z2 : (lf == 0) = true := beq_iff_eq.2 (by omega)
          clear hle
          have HNB := Lib.hid hnb; have HHB := Lib.hid hhb; clear hnb hhb n14 n15
          go_wp2_with (first | refine gate_guard (by rfl) (wpList_load_row rfl 29 _ rfl pp rfl 29 arrM (0, 0) _ HP.out Try.underlying29 rfl IM.out ?_) | refine wpList_load_row rfl 29 _ rfl pp rfl 29 arrM (0, 0) _ HP.out Try.underlying29 rfl IM.out ?_ | (refine wpList_store_row rfl 29 _ _ rfl w6.heap.size arrW rfl rfl 29 _ (blk_new w6 _) I6.out S6.out O6.out ?_; refine gate_world (F := fun w' => Hid (w'.heap[w6.heap.size]? = some (.cells arrW 29 (0, 0))) ∧ Hid (Below w6.heap.size w6 w')) ⟨Lib.hid (setRow_heap _ _ _ arrW _ _ (blk_new w6 _)), Lib.hid (below_setRow (below_alloc (Below.refl _ w6) _) (Nat.le_refl _) arrW)⟩ ?_; rintro w7 ⟨HV, hb⟩; have hb := hb.out; have c14 := (hb.cell (p := ⟨pp, 14, none⟩) hpl).trans c14; have c15 := (hb.cell (p := ⟨pp, 15, none⟩) hpl).trans c15; replace HB := Lib.hid (HB.out.trans (hb.mono HB.out.size)); replace HW := Lib.hid (HW.out.below hb); replace HP := Lib.hid (blk_below HP.out hb); replace HW4 := Lib.hid (HW4.out.below hb); replace HX := Lib.hid (blk_below HX.out hb); clear hb) | refine gate_guard (by rfl) (wpList_load_row rfl 29 _ rfl gx rfl 29 arrX (0, 0) _ HX.out Try.underlying29 rfl I4.out ?_) | refine wpList_load_row rfl 29 _ rfl gx rfl 29 arrX (0, 0) _ HX.out Try.underlying29 rfl I4.out ?_ | refine gate_guard (by rfl) (wpList_load_row rfl 29 _ rfl w6.heap.size rfl 29 arrW (0, 0) _ HV.out Try.underlying29 rfl I6.out ?_) | refine wpList_load_row rfl 29 _ rfl w6.heap.size rfl 29 arrW (0, 0) _ HV.out Try.underlying29 rfl I6.out ?_ | fail)
          refine (NG.out _).mono ?_
          rintro e w8 ⟨rfl, rfl⟩
          go_wp2_with (first | refine gate_guard (by rfl) (wpList_load_row rfl 29 _ rfl gx rfl 29 arrX (0, 0) _ HX.out Try.underlying29 rfl I4.out ?_) | refine wpList_load_row rfl 29 _ rfl gx rfl 29 arrX (0, 0) _ HX.out Try.underlying29 rfl I4.out ?_ | refine gate_guard (by rfl) (wpList_load_row rfl 29 _ rfl w6.heap.size rfl 29 arrW (0, 0) _ HV.out Try.underlying29 rfl I6.out ?_) | refine wpList_load_row rfl 29 _ rfl w6.heap.size rfl 29 arrW (0, 0) _ HV.out Try.underlying29 rfl I6.out ?_ | fail)
          refine (SM.out _ HW4.out HW.out).mono ?_
          rintro e w8 ⟨rfl, hb⟩
          replace HB := Lib.hid (HB.out.trans (hb.mono HB.out.size))
          go_wp2
          go_ret
          first | exact ⟨rfl, HB.out⟩ | exact ⟨rfl, HPP.out ▸ HB.out⟩
      · have e14 : m.note.toList.isEmpty = false := by rw [str_e]; exact decide_eq_false hnb
        have n14 : bN (hasB m 10 = true) = 1 := by rw [has10]; unfold bN; simp [hnb]
        by_cases hhb : m.hint = 0
        · have e15 : ((m.hint : Int) == 0) = true := beq_iff_eq.2 (by omega)
          have e15n : (m.hint == 0) = true := beq_iff_eq.2 hhb
          have n15 : bN (hasB m 11 = true) = 0 := by rw [has11]; unfold bN; simp [hhb]
          have hle := HLE.out
          have z1 : ((lf : Int) == 0) = true := beq_iff_eq.2 (by omega)
          have z2 : (lf == 0) = true := beq_iff_eq.2 (by omega)
          clear hle
          have HNB := Lib.hid hnb; have HHB := Lib.hid hhb; clear hnb hhb n14 n15
          go_wp2_with (first | refine gate_guard (by rfl) (wpList_load_row rfl 29 _ rfl pp rfl 29 arrM (0, 0) _ HP.out Try.underlying29 rfl IM.out ?_) | refine wpList_load_row rfl 29 _ rfl pp rfl 29 arrM (0, 0) _ HP.out Try.underlying29 rfl IM.out ?_ | (refine wpList_store_row rfl 29 _ _ rfl w6.heap.size arrW rfl rfl 29 _ (blk_new w6 _) I6.out S6.out O6.out ?_; refine gate_world (F := fun w' => Hid (w'.heap[w6.heap.size]? = some (.cells arrW 29 (0, 0))) ∧ Hid (Below w6.heap.size w6 w')) ⟨Lib.hid (setRow_heap _ _ _ arrW _ _ (blk_new w6 _)), Lib.hid (below_setRow (below_alloc (Below.refl _ w6) _) (Nat.le_refl _) arrW)⟩ ?_; rintro w7 ⟨HV, hb⟩; have hb := hb.out; have c14 := (hb.cell (p := ⟨pp, 14, none⟩) hpl).trans c14; have c15 := (hb.cell (p := ⟨pp, 15, none⟩) hpl).trans c15; replace HB := Lib.hid (HB.out.trans (hb.mono HB.out.size)); replace HW := Lib.hid (HW.out.below hb); replace HP := Lib.hid (blk_below HP.out hb); replace HW4 := Lib.hid (HW4.out.below hb); replace HX := Lib.hid (blk_below HX.out hb); clear hb) | refine gate_guard (by rfl) (wpList_load_row rfl 29 _ rfl gx rfl 29 arrX (0, 0) _ HX.out Try.underlying29 rfl I4.out ?_) | refine wpList_load_row rfl 29 _ rfl gx rfl 29 arrX (0, 0) _ HX.out Try.underlying29 rfl I4.out ?_ | refine gate_guard (by rfl) (wpList_load_row rfl 29 _ rfl w6.heap.size rfl 29 arrW (0, 0) _ HV.out Try.underlying29 rfl I6.out ?_) | refine wpList_load_row rfl 29 _ rfl w6.heap.size rfl 29 arrW (0, 0) _ HV.out Try.underlying29 rfl I6.out ?_ | fail)
          refine (NG.out _).mono ?_
          rintro e w8 ⟨rfl, rfl⟩
          go_wp2_with (first | refine gate_guard (by rfl) (wpList_load_row rfl 29 _ rfl gx rfl 29 arrX (0, 0) _ HX.out Try.underlying29 rfl I4.out ?_) | refine wpList_load_row rfl 29 _ rfl gx rfl 29 arrX (0, 0) _ HX.out Try.underlying29 rfl I4.out ?_ | refine gate_guard (by rfl) (wpList_load_row rfl 29 _ rfl w6.heap.size rfl 29 arrW (0, 0) _ HV.out Try.underlying29 rfl I6.out ?_) | refine wpList_load_row rfl 29 _ rfl w6.heap.size rfl 29 arrW (0, 0) _ HV.out Try.underlying29 rfl I6.out ?_ | fail)
          refine (SM.out _ HW4.out HW.out).mono ?_
          rintro e w8 ⟨rfl, hb⟩
          replace HB := Lib.hid (HB.out.trans (hb.mono HB.out.size))
          go_wp2
          go_ret
          first | exact ⟨rfl, HB.out⟩ | exact ⟨rfl, HPP.out ▸ HB.out⟩
        · have e15 : ((m.hint : Int) == 0) = false := beq_eq_false_iff_ne.2 (by omega)
          have e15n : (m.hint == 0) = false := beq_eq_false_iff_ne.2 hhb
          have n15 : bN (hasB m 11 = true) = 1 := by rw [has11]; unfold bN; simp [hhb]
          have hle := HLE.out
          have z1 : ((lf : Int) == 0) = true := beq_iff_eq.2 (by omega)
          have z2 : (lf == 0) = true := beq_iff_eq.2 (by omega)
          clear hle
          have HNB := Lib.hid hnb; have HHB := Lib.hid hhb; clear hnb hhb n14 n15
          go_wp2_with (first | refine gate_guard (by rfl) (wpList_load_row rfl 29 _ rfl pp rfl 29 arrM (0, 0) _ HP.out Try.underlying29 rfl IM.out ?_) | refine wpList_load_row rfl 29 _ rfl pp rfl 29 arrM (0, 0) _ HP.out Try.underlying29 rfl IM.out ?_ | (refine wpList_store_row rfl 29 _ _ rfl w6.heap.size arrW rfl rfl 29 _ (blk_new w6 _) I6.out S6.out O6.out ?_; refine gate_world (F := fun w' => Hid (w'.heap[w6.heap.size]? = some (.cells arrW 29 (0, 0))) ∧ Hid (Below w6.heap.size w6 w')) ⟨Lib.hid (setRow_heap _ _ _ arrW _ _ (blk_new w6 _)), Lib.hid (below_setRow (below_alloc (Below.refl _ w6) _) (Nat.le_refl _) arrW)⟩ ?_; rintro w7 ⟨HV, hb⟩; have hb := hb.out; have c14 := (hb.cell (p := ⟨pp, 14, none⟩) hpl).trans c14; have c15 := (hb.cell (p := ⟨pp, 15, none⟩) hpl).trans c15; replace HB := Lib.hid (HB.out.trans (hb.mono HB.out.size)); replace HW := Lib.hid (HW.out.below hb); replace HP := Lib.hid (blk_below HP.out hb); replace HW4 := Lib.hid (HW4.out.below hb); replace HX := Lib.hid (blk_below HX.out hb); clear hb) | refine gate_guard (by rfl) (wpList_load_row rfl 29 _ rfl gx rfl 29 arrX (0, 0) _ HX.out Try.underlying29 rfl I4.out ?_) | refine wpList_load_row rfl 29 _ rfl gx rfl 29 arrX (0, 0) _ HX.out Try.underlying29 rfl I4.out ?_ | refine gate_guard (by rfl) (wpList_load_row rfl 29 _ rfl w6.heap.size rfl 29 arrW (0, 0) _ HV.out Try.underlying29 rfl I6.out ?_) | refine wpList_load_row rfl 29 _ rfl w6.heap.size rfl 29 arrW (0, 0) _ HV.out Try.underlying29 rfl I6.out ?_ | fail)
          refine (NG.out _).mono ?_
          rintro e w8 ⟨rfl, rfl⟩
          go_wp2_with (first | refine gate_guard (by rfl) (wpList_load_row rfl 29 _ rfl gx rfl 29 arrX (0, 0) _ HX.out Try.underlying29 rfl I4.out ?_) | refine wpList_load_row rfl 29 _ rfl gx rfl 29 arrX (0, 0) _ HX.out Try.underlying29 rfl I4.out ?_ | refine gate_guard (by rfl) (wpList_load_row rfl 29 _ rfl w6.heap.size rfl 29 arrW (0, 0) _ HV.out Try.underlying29 rfl I6.out ?_) | refine wpList_load_row rfl 29 _ rfl w6.heap.size rfl 29 arrW (0, 0) _ HV.out Try.underlying29 rfl I6.out ?_ | fail)
          refine (SM.out _ HW4.out HW.out).mono ?_
          rintro e w8 ⟨rfl, hb⟩
          replace HB := Lib.hid (HB.out.trans (hb.mono HB.out.size))
          go_wp2
          go_ret
          first | exact ⟨rfl, HB.out⟩ | exact ⟨rfl, HPP.out ▸ HB.out⟩
    · have y0 : ((mayE 1 m : Int) == 0) = false := beq_eq_false_iff_ne.2 (by omega)
      have y0n : (mayE 1 m == 0) = false := beq_eq_false_iff_ne.2 h0
      go_wp2
      go_ret
      first | exact ⟨rfl, HB.out⟩ | exact ⟨rfl, HPP.out ▸ HB.out⟩
set_option maxRecDepth 100000 in
set_option maxHeartbeats 16000000 in
theorem msg_back_12 (m : MsgS) (A : Option Addr) (n c : Nat) (v u : Nat) (w : World) (hw : Wrs w A n m.ws) (hn : n ≤ 140737488351232) (hi : m.In) (hv : v % 3 = 0) (hu : u % 3 = 1) :
    Calls Try.prog 4 #[.agg (m.arr A n c), .int .u8 (v : Int), .int .u8 (u : Int)] w fun e w' => e = .returned (.bool true) ∧ Below w.heap.size w w' := by
  have x1 : (v : Int) % 3 = 0 := by omega
  have x2 : Int.tmod (v : Int) 3 = 0 := by rw [Int.tmod_eq_emod_of_nonneg (by omega)]; exact x1
  have x3 : (u : Int) % 3 = 1 := by omega
  have x4 : Int.tmod (u : Int) 3 = 1 := by rw [Int.tmod_eq_emod_of_nonneg (by omega)]; exact x3
  have FW := Lib.hid (fun (w : World) (hw : Wrs w A n m.ws) => fewm_any m A n c w hw hn hi.key hi.note hi.value)
  have AW := Lib.hid (fun w => awake05 w)
  have hb1 := below_alloc (Below.refl _ w) (.cells (m.arr A n c) 29)
  have HW := Lib.hid (hw.below hb1)
  have HB := Lib.hid hb1
  have HP := Lib.hid (blk_new w (.cells (m.arr A n c) 29))
  have IM := Lib.hid (info_msg.trans (congrArg some (arr_size m A n c).1.symm))
  have EN := Lib.hid (fun (z : m.Z) (w : World) (hw : Wrs w A n m.ws) => encode_any 2 m A n c w z hw)
  have PR := Lib.hid (fun (z : m.Z) (w : World) (hw : Wrs w A n m.ws) => rproject_any 1 m A n c w z hw)
  have NG := Lib.hid (show ∀ W, Calls Try.prog 17 #[.int .i64 1, .int .i64 2] W fun e w' => e = .returned (.int .i64 1) ∧ W = w' from fun W => negotiate_any 1 2 W)
  have A14 := Lib.hid (show (m.arr A n c)[14]? = some (.string m.note) from rfl)
  have A15 := Lib.hid (show (m.arr A n c)[15]? = some (.int .u64 (m.hint : Int)) from rfl)
  obtain ⟨fb, hfb⟩ : ∃ x, fewB m = x := ⟨_, rfl⟩
  rw [hfb] at FW
  have HZ := Lib.hid (show fb = true → m.Z from fun h => hi.z (fewB_few (hfb.trans h)))
  clear hw hb1 hi hfb hv hu
  generalize hMM : m.arr A n c = arrM at *
  have HMM := Lib.hid hMM; clear hMM
  go_enter Try.func4, Try.ntmps4
  go_wp2_with fail
  refine (AW.out _).mono ?_
  rintro e w1 ⟨rfl, hb⟩
  replace HB := Lib.hid (HB.out.trans (hb.mono HB.out.size)); replace HW := Lib.hid (HW.out.below hb); replace HP := Lib.hid (blk_below HP.out hb); clear hb
  obtain ⟨pp, hpp⟩ : ∃ pp, w.heap.size = pp := ⟨_, rfl⟩
  rw [hpp] at HP ⊢
  have HPP := Lib.hid hpp; clear hpp
  go_wp2_with (first | refine gate_guard (by rfl) (wpList_load_row rfl 29 _ rfl pp rfl 29 arrM (0, 0) _ HP.out Try.underlying29 rfl IM.out ?_) | refine wpList_load_row rfl 29 _ rfl pp rfl 29 arrM (0, 0) _ HP.out Try.underlying29 rfl IM.out ?_ | fail)
  refine (FW.out _ HW.out).mono ?_
  rintro e w2 ⟨rfl, hb⟩
  replace HB := Lib.hid (HB.out.trans (hb.mono HB.out.size)); replace HW := Lib.hid (HW.out.below hb); replace HP := Lib.hid (blk_below HP.out hb); clear hb
  cases fb with
  | false =>
    go_wp2_with fail
    refine (AW.out _).mono ?_
    rintro e w3 ⟨rfl, hb⟩
    replace HB := Lib.hid (HB.out.trans (hb.mono HB.out.size))
    go_wp2
    go_ret
    first | exact ⟨rfl, HB.out⟩ | exact ⟨rfl, HPP.out ▸ HB.out⟩
  | true =>
    replace HZ := Lib.hid (HZ.out rfl)
    go_wp2_with (first | refine gate_guard (by rfl) (wpList_load_row rfl 29 _ rfl pp rfl 29 arrM (0, 0) _ HP.out Try.underlying29 rfl IM.out ?_) | refine wpList_load_row rfl 29 _ rfl pp rfl 29 arrM (0, 0) _ HP.out Try.underlying29 rfl IM.out ?_ | fail)
    refine (EN.out HZ.out _ HW.out).mono ?_
    rintro e w3 ⟨rfl, hb⟩
    replace HB := Lib.hid (HB.out.trans (hb.mono HB.out.size)); replace HW := Lib.hid (HW.out.below hb); replace HP := Lib.hid (blk_below HP.out hb); clear hb
    by_cases h0 : mayE 2 m = 0
    · obtain ⟨o1, -, o3⟩ := may_ok h0
      have HG := Lib.hid (right_good HZ.out o1)
      have HD := Lib.hid (dec_back HG.out o1 (v := 1) (hi := 10) (by decide) (by decide) (by decide))
      rw [show knownS 1 = 9 from rfl, crit_1_2, left_1_2] at HD
      rw [show encS 2 m = bytesN m 10 from if_pos h0, h0]
      have HSZ := Lib.hid (show (bytesN m 10).size ≤ 140737488351232 from Nat.le_trans (bytes_mono m (show 10 ≤ 12 by decide)) (Nat.le_trans (right_size o1) (by decide)))
      have HR := Lib.hid o1
      have HM := Lib.hid o3
      have ML := Lib.hid (show mayE 1 m = if m.must ≠ 0 ∧ 9 < 12 then 4 else 0 by unfold mayE; rw [if_neg (by rintro (h | h); exact absurd h (by decide); rw [o1] at h; cases h)]; rfl)
      have hfit := HG.out.fit
      clear h0 o1 o3
      obtain ⟨sB, hsB⟩ : ∃ x, bytesN m 10 = x := ⟨_, rfl⟩
      rw [hsB] at HD HSZ ⊢
      clear hsB
      have ml := ML.out
      have hmu0 : m.must = 0 := HM.out.resolve_right (by decide)
      rw [if_neg (fun h => h.1 hmu0)] at ml
      have hcr : ¬ false = true := by decide
      obtain ⟨lf, hlf⟩ : ∃ x, 0 + bN (hasB m 10 = true) = x := ⟨_, rfl⟩
      have HLE := Lib.hid hlf
      have HDQ := Lib.hid (show decM 1 sB = (projS 1 m, lf, 0) from HD.out.trans ((if_neg hcr).trans (by rw [hlf, ← restr_proj ml]; rfl)))
      have PRJ := Lib.hid (fun (W : World) (hw : Wrs W A n m.ws) => PR.out HZ.out W hw)
      simp only [ml, if_pos (show (0 : Nat) = 0 from rfl)] at PRJ
      clear ml hcr hlf
      go_wp2_with fail
      refine (dec_is HDQ.out _ HSZ.out).mono ?_
      rintro e w4 ⟨A4, c4, rfl, hw4, hb⟩
      replace HB := Lib.hid (HB.out.trans (hb.mono HB.out.size)); replace HW := Lib.hid (HW.out.below hb); replace HP := Lib.hid (blk_below HP.out hb); clear hb
      have HW4 := Lib.hid hw4; clear hw4
      have I4 := Lib.hid (info_msg.trans (congrArg some (arr_size (projS 1 m) A4 (projS 1 m).ws.length c4).1.symm))
      have S4 := Lib.hid (show 17 = ((projS 1 m).arr A4 (projS 1 m).ws.length c4).size from (arr_size (projS 1 m) A4 (projS 1 m).ws.length c4).1.symm)
      have O4 := Lib.hid (arr_size (projS 1 m) A4 (projS 1 m).ws.length c4).2
      have SM := Lib.hid (fun W (hw : Wrs W A4 (projS 1 m).ws.length (projS 1 m).ws) (hw2 : Wrs W A n m.ws) => (show Calls Try.prog 15 #[.agg ((projS 1 m).arr A4 (projS 1 m).ws.length c4), .agg ((projS 1 m).arr A n c)] W fun e w' => e = .returned (.bool true) ∧ Below W.heap.size W w' from by
          have h := same_any (projS 1 m) (projS 1 m) A4 A (projS 1 m).ws.length c4 n c W (projS_fit hfit) (projS_fit hfit) hw hw2
          rw [beq_self_eq_true] at h
          exact h))
      generalize (projS 1 m).arr A4 (projS 1 m).ws.length c4 = arrX at *
      go_wp2_with (first | refine gate_guard (by rfl) (wpList_load_row rfl 29 _ rfl pp rfl 29 arrM (0, 0) _ HP.out Try.underlying29 rfl IM.out ?_) | refine wpList_load_row rfl 29 _ rfl pp rfl 29 arrM (0, 0) _ HP.out Try.underlying29 rfl IM.out ?_ | (refine wpList_store_row rfl 29 _ _ rfl w4.heap.size arrX rfl rfl 29 _ (blk_new w4 _) I4.out S4.out O4.out ?_; refine gate_world (F := fun w' => Hid (w'.heap[w4.heap.size]? = some (.cells arrX 29 (0, 0))) ∧ Hid (Below w4.heap.size w4 w')) ⟨Lib.hid (setRow_heap _ _ _ arrX _ _ (blk_new w4 _)), Lib.hid (below_setRow (below_alloc (Below.refl _ w4) _) (Nat.le_refl _) arrX)⟩ ?_; rintro w5 ⟨HX, hb⟩; have hb := hb.out; replace HB := Lib.hid (HB.out.trans (hb.mono HB.out.size)); replace HW := Lib.hid (HW.out.below hb); replace HP := Lib.hid (blk_below HP.out hb); replace HW4 := Lib.hid (HW4.out.below hb); clear hb) | fail)
      have HX4 := Lib.hid HX.out
      refine (PRJ.out _ HW.out).mono ?_
      rintro e w6 ⟨rfl, hb⟩
      replace HB := Lib.hid (HB.out.trans (hb.mono HB.out.size)); replace HW := Lib.hid (HW.out.below hb); replace HP := Lib.hid (blk_below HP.out hb); replace HW4 := Lib.hid (HW4.out.below hb); replace HX := Lib.hid (blk_below HX.out hb); clear hb HX4
      obtain ⟨gx, hgx⟩ : ∃ x, w4.heap.size = x := ⟨_, rfl⟩
      rw [hgx] at HX ⊢
      clear hgx
      have I6 := Lib.hid (info_msg.trans (congrArg some (arr_size (projS 1 m) A n c).1.symm))
      have S6 := Lib.hid (show 17 = ((projS 1 m).arr A n c).size from (arr_size (projS 1 m) A n c).1.symm)
      have O6 := Lib.hid (arr_size (projS 1 m) A n c).2
      generalize (projS 1 m).arr A n c = arrW at *
      have c14 : w6.cell? ⟨pp, 14, none⟩ = some (.string m.note) := (blk_cell HP.out 14).trans A14.out
      have c15 : w6.cell? ⟨pp, 15, none⟩ = some (.int .u64 (m.hint : Int)) := (blk_cell HP.out 15).trans A15.out
      have hpl := blk_lt HP.out
      by_cases hnb : m.note.size = 0
      · have e14 : m.note.toList.isEmpty = true := by rw [str_e]; exact decide_eq_true hnb
        have n14 : bN (hasB m 10 = true) = 0 := by rw [has10]; unfold bN; simp [hnb]
        by_cases hhb : m.hint = 0
        · have e15 : ((m.hint : Int) == 0) = true := beq_iff_eq.2 (by omega)
          have e15n : (m.hint == 0) = true := beq_iff_eq.2 hhb
          have n15 : bN (hasB m 11 = true) = 0 := by rw [has11]; unfold bN; simp [hhb]
          have hle := HLE.out
          rw [n14] at hle
          have z1 : ((lf : Int) == 0) = true := beq_iff_eq.2 (by omega)
          have z2 : (lf == 0) = true := beq_iff_eq.2 (by omega)
          clear hle
          have HNB := Lib.hid hnb; have HHB := Lib.hid hhb; clear hnb hhb n14 n15
          go_wp2_with (first | refine gate_guard (by rfl) (wpList_load_row rfl 29 _ rfl pp rfl 29 arrM (0, 0) _ HP.out Try.underlying29 rfl IM.out ?_) | refine wpList_load_row rfl 29 _ rfl pp rfl 29 arrM (0, 0) _ HP.out Try.underlying29 rfl IM.out ?_ | (refine wpList_store_row rfl 29 _ _ rfl w6.heap.size arrW rfl rfl 29 _ (blk_new w6 _) I6.out S6.out O6.out ?_; refine gate_world (F := fun w' => Hid (w'.heap[w6.heap.size]? = some (.cells arrW 29 (0, 0))) ∧ Hid (Below w6.heap.size w6 w')) ⟨Lib.hid (setRow_heap _ _ _ arrW _ _ (blk_new w6 _)), Lib.hid (below_setRow (below_alloc (Below.refl _ w6) _) (Nat.le_refl _) arrW)⟩ ?_; rintro w7 ⟨HV, hb⟩; have hb := hb.out; have c14 := (hb.cell (p := ⟨pp, 14, none⟩) hpl).trans c14; have c15 := (hb.cell (p := ⟨pp, 15, none⟩) hpl).trans c15; replace HB := Lib.hid (HB.out.trans (hb.mono HB.out.size)); replace HW := Lib.hid (HW.out.below hb); replace HP := Lib.hid (blk_below HP.out hb); replace HW4 := Lib.hid (HW4.out.below hb); replace HX := Lib.hid (blk_below HX.out hb); clear hb) | refine gate_guard (by rfl) (wpList_load_row rfl 29 _ rfl gx rfl 29 arrX (0, 0) _ HX.out Try.underlying29 rfl I4.out ?_) | refine wpList_load_row rfl 29 _ rfl gx rfl 29 arrX (0, 0) _ HX.out Try.underlying29 rfl I4.out ?_ | refine gate_guard (by rfl) (wpList_load_row rfl 29 _ rfl w6.heap.size rfl 29 arrW (0, 0) _ HV.out Try.underlying29 rfl I6.out ?_) | refine wpList_load_row rfl 29 _ rfl w6.heap.size rfl 29 arrW (0, 0) _ HV.out Try.underlying29 rfl I6.out ?_ | fail)
          refine (NG.out _).mono ?_
          rintro e w8 ⟨rfl, rfl⟩
          go_wp2_with (first | refine gate_guard (by rfl) (wpList_load_row rfl 29 _ rfl gx rfl 29 arrX (0, 0) _ HX.out Try.underlying29 rfl I4.out ?_) | refine wpList_load_row rfl 29 _ rfl gx rfl 29 arrX (0, 0) _ HX.out Try.underlying29 rfl I4.out ?_ | refine gate_guard (by rfl) (wpList_load_row rfl 29 _ rfl w6.heap.size rfl 29 arrW (0, 0) _ HV.out Try.underlying29 rfl I6.out ?_) | refine wpList_load_row rfl 29 _ rfl w6.heap.size rfl 29 arrW (0, 0) _ HV.out Try.underlying29 rfl I6.out ?_ | fail)
          refine (SM.out _ HW4.out HW.out).mono ?_
          rintro e w8 ⟨rfl, hb⟩
          replace HB := Lib.hid (HB.out.trans (hb.mono HB.out.size))
          go_wp2
          go_ret
          first | exact ⟨rfl, HB.out⟩ | exact ⟨rfl, HPP.out ▸ HB.out⟩
        · have e15 : ((m.hint : Int) == 0) = false := beq_eq_false_iff_ne.2 (by omega)
          have e15n : (m.hint == 0) = false := beq_eq_false_iff_ne.2 hhb
          have n15 : bN (hasB m 11 = true) = 1 := by rw [has11]; unfold bN; simp [hhb]
          have hle := HLE.out
          rw [n14] at hle
          have z1 : ((lf : Int) == 0) = true := beq_iff_eq.2 (by omega)
          have z2 : (lf == 0) = true := beq_iff_eq.2 (by omega)
          clear hle
          have HNB := Lib.hid hnb; have HHB := Lib.hid hhb; clear hnb hhb n14 n15
          go_wp2_with (first | refine gate_guard (by rfl) (wpList_load_row rfl 29 _ rfl pp rfl 29 arrM (0, 0) _ HP.out Try.underlying29 rfl IM.out ?_) | refine wpList_load_row rfl 29 _ rfl pp rfl 29 arrM (0, 0) _ HP.out Try.underlying29 rfl IM.out ?_ | (refine wpList_store_row rfl 29 _ _ rfl w6.heap.size arrW rfl rfl 29 _ (blk_new w6 _) I6.out S6.out O6.out ?_; refine gate_world (F := fun w' => Hid (w'.heap[w6.heap.size]? = some (.cells arrW 29 (0, 0))) ∧ Hid (Below w6.heap.size w6 w')) ⟨Lib.hid (setRow_heap _ _ _ arrW _ _ (blk_new w6 _)), Lib.hid (below_setRow (below_alloc (Below.refl _ w6) _) (Nat.le_refl _) arrW)⟩ ?_; rintro w7 ⟨HV, hb⟩; have hb := hb.out; have c14 := (hb.cell (p := ⟨pp, 14, none⟩) hpl).trans c14; have c15 := (hb.cell (p := ⟨pp, 15, none⟩) hpl).trans c15; replace HB := Lib.hid (HB.out.trans (hb.mono HB.out.size)); replace HW := Lib.hid (HW.out.below hb); replace HP := Lib.hid (blk_below HP.out hb); replace HW4 := Lib.hid (HW4.out.below hb); replace HX := Lib.hid (blk_below HX.out hb); clear hb) | refine gate_guard (by rfl) (wpList_load_row rfl 29 _ rfl gx rfl 29 arrX (0, 0) _ HX.out Try.underlying29 rfl I4.out ?_) | refine wpList_load_row rfl 29 _ rfl gx rfl 29 arrX (0, 0) _ HX.out Try.underlying29 rfl I4.out ?_ | refine gate_guard (by rfl) (wpList_load_row rfl 29 _ rfl w6.heap.size rfl 29 arrW (0, 0) _ HV.out Try.underlying29 rfl I6.out ?_) | refine wpList_load_row rfl 29 _ rfl w6.heap.size rfl 29 arrW (0, 0) _ HV.out Try.underlying29 rfl I6.out ?_ | fail)
          refine (NG.out _).mono ?_
          rintro e w8 ⟨rfl, rfl⟩
          go_wp2_with (first | refine gate_guard (by rfl) (wpList_load_row rfl 29 _ rfl gx rfl 29 arrX (0, 0) _ HX.out Try.underlying29 rfl I4.out ?_) | refine wpList_load_row rfl 29 _ rfl gx rfl 29 arrX (0, 0) _ HX.out Try.underlying29 rfl I4.out ?_ | refine gate_guard (by rfl) (wpList_load_row rfl 29 _ rfl w6.heap.size rfl 29 arrW (0, 0) _ HV.out Try.underlying29 rfl I6.out ?_) | refine wpList_load_row rfl 29 _ rfl w6.heap.size rfl 29 arrW (0, 0) _ HV.out Try.underlying29 rfl I6.out ?_ | fail)
          refine (SM.out _ HW4.out HW.out).mono ?_
          rintro e w8 ⟨rfl, hb⟩
          replace HB := Lib.hid (HB.out.trans (hb.mono HB.out.size))
          go_wp2
          go_ret
          first | exact ⟨rfl, HB.out⟩ | exact ⟨rfl, HPP.out ▸ HB.out⟩
      · have e14 : m.note.toList.isEmpty = false := by rw [str_e]; exact decide_eq_false hnb
        have n14 : bN (hasB m 10 = true) = 1 := by rw [has10]; unfold bN; simp [hnb]
        by_cases hhb : m.hint = 0
        · have e15 : ((m.hint : Int) == 0) = true := beq_iff_eq.2 (by omega)
          have e15n : (m.hint == 0) = true := beq_iff_eq.2 hhb
          have n15 : bN (hasB m 11 = true) = 0 := by rw [has11]; unfold bN; simp [hhb]
          have hle := HLE.out
          rw [n14] at hle
          have z1 : ((lf : Int) == 1) = true := beq_iff_eq.2 (by omega)
          have z2 : (lf == 1) = true := beq_iff_eq.2 (by omega)
          clear hle
          have HNB := Lib.hid hnb; have HHB := Lib.hid hhb; clear hnb hhb n14 n15
          go_wp2_with (first | refine gate_guard (by rfl) (wpList_load_row rfl 29 _ rfl pp rfl 29 arrM (0, 0) _ HP.out Try.underlying29 rfl IM.out ?_) | refine wpList_load_row rfl 29 _ rfl pp rfl 29 arrM (0, 0) _ HP.out Try.underlying29 rfl IM.out ?_ | (refine wpList_store_row rfl 29 _ _ rfl w6.heap.size arrW rfl rfl 29 _ (blk_new w6 _) I6.out S6.out O6.out ?_; refine gate_world (F := fun w' => Hid (w'.heap[w6.heap.size]? = some (.cells arrW 29 (0, 0))) ∧ Hid (Below w6.heap.size w6 w')) ⟨Lib.hid (setRow_heap _ _ _ arrW _ _ (blk_new w6 _)), Lib.hid (below_setRow (below_alloc (Below.refl _ w6) _) (Nat.le_refl _) arrW)⟩ ?_; rintro w7 ⟨HV, hb⟩; have hb := hb.out; have c14 := (hb.cell (p := ⟨pp, 14, none⟩) hpl).trans c14; have c15 := (hb.cell (p := ⟨pp, 15, none⟩) hpl).trans c15; replace HB := Lib.hid (HB.out.trans (hb.mono HB.out.size)); replace HW := Lib.hid (HW.out.below hb); replace HP := Lib.hid (blk_below HP.out hb); replace HW4 := Lib.hid (HW4.out.below hb); replace HX := Lib.hid (blk_below HX.out hb); clear hb) | refine gate_guard (by rfl) (wpList_load_row rfl 29 _ rfl gx rfl 29 arrX (0, 0) _ HX.out Try.underlying29 rfl I4.out ?_) | refine wpList_load_row rfl 29 _ rfl gx rfl 29 arrX (0, 0) _ HX.out Try.underlying29 rfl I4.out ?_ | refine gate_guard (by rfl) (wpList_load_row rfl 29 _ rfl w6.heap.size rfl 29 arrW (0, 0) _ HV.out Try.underlying29 rfl I6.out ?_) | refine wpList_load_row rfl 29 _ rfl w6.heap.size rfl 29 arrW (0, 0) _ HV.out Try.underlying29 rfl I6.out ?_ | fail)
          refine (NG.out _).mono ?_
          rintro e w8 ⟨rfl, rfl⟩
          go_wp2_with (first | refine gate_guard (by rfl) (wpList_load_row rfl 29 _ rfl gx rfl 29 arrX (0, 0) _ HX.out Try.underlying29 rfl I4.out ?_) | refine wpList_load_row rfl 29 _ rfl gx rfl 29 arrX (0, 0) _ HX.out Try.underlying29 rfl I4.out ?_ | refine gate_guard (by rfl) (wpList_load_row rfl 29 _ rfl w6.heap.size rfl 29 arrW (0, 0) _ HV.out Try.underlying29 rfl I6.out ?_) | refine wpList_load_row rfl 29 _ rfl w6.heap.size rfl 29 arrW (0, 0) _ HV.out Try.underlying29 rfl I6.out ?_ | fail)
          refine (SM.out _ HW4.out HW.out).mono ?_
          rintro e w8 ⟨rfl, hb⟩
          replace HB := Lib.hid (HB.out.trans (hb.mono HB.out.size))
          go_wp2
          go_ret
          first | exact ⟨rfl, HB.out⟩ | exact ⟨rfl, HPP.out ▸ HB.out⟩
        · have e15 : ((m.hint : Int) == 0) = false := beq_eq_false_iff_ne.2 (by omega)
          have e15n : (m.hint == 0) = false := beq_eq_false_iff_ne.2 hhb
          have n15 : bN (hasB m 11 = true) = 1 := by rw [has11]; unfold bN; simp [hhb]
          have hle := HLE.out
          rw [n14] at hle
          have z1 : ((lf : Int) == 1) = true := beq_iff_eq.2 (by omega)
          have z2 : (lf == 1) = true := beq_iff_eq.2 (by omega)
          clear hle
          have HNB := Lib.hid hnb; have HHB := Lib.hid hhb; clear hnb hhb n14 n15
          go_wp2_with (first | refine gate_guard (by rfl) (wpList_load_row rfl 29 _ rfl pp rfl 29 arrM (0, 0) _ HP.out Try.underlying29 rfl IM.out ?_) | refine wpList_load_row rfl 29 _ rfl pp rfl 29 arrM (0, 0) _ HP.out Try.underlying29 rfl IM.out ?_ | (refine wpList_store_row rfl 29 _ _ rfl w6.heap.size arrW rfl rfl 29 _ (blk_new w6 _) I6.out S6.out O6.out ?_; refine gate_world (F := fun w' => Hid (w'.heap[w6.heap.size]? = some (.cells arrW 29 (0, 0))) ∧ Hid (Below w6.heap.size w6 w')) ⟨Lib.hid (setRow_heap _ _ _ arrW _ _ (blk_new w6 _)), Lib.hid (below_setRow (below_alloc (Below.refl _ w6) _) (Nat.le_refl _) arrW)⟩ ?_; rintro w7 ⟨HV, hb⟩; have hb := hb.out; have c14 := (hb.cell (p := ⟨pp, 14, none⟩) hpl).trans c14; have c15 := (hb.cell (p := ⟨pp, 15, none⟩) hpl).trans c15; replace HB := Lib.hid (HB.out.trans (hb.mono HB.out.size)); replace HW := Lib.hid (HW.out.below hb); replace HP := Lib.hid (blk_below HP.out hb); replace HW4 := Lib.hid (HW4.out.below hb); replace HX := Lib.hid (blk_below HX.out hb); clear hb) | refine gate_guard (by rfl) (wpList_load_row rfl 29 _ rfl gx rfl 29 arrX (0, 0) _ HX.out Try.underlying29 rfl I4.out ?_) | refine wpList_load_row rfl 29 _ rfl gx rfl 29 arrX (0, 0) _ HX.out Try.underlying29 rfl I4.out ?_ | refine gate_guard (by rfl) (wpList_load_row rfl 29 _ rfl w6.heap.size rfl 29 arrW (0, 0) _ HV.out Try.underlying29 rfl I6.out ?_) | refine wpList_load_row rfl 29 _ rfl w6.heap.size rfl 29 arrW (0, 0) _ HV.out Try.underlying29 rfl I6.out ?_ | fail)
          refine (NG.out _).mono ?_
          rintro e w8 ⟨rfl, rfl⟩
          go_wp2_with (first | refine gate_guard (by rfl) (wpList_load_row rfl 29 _ rfl gx rfl 29 arrX (0, 0) _ HX.out Try.underlying29 rfl I4.out ?_) | refine wpList_load_row rfl 29 _ rfl gx rfl 29 arrX (0, 0) _ HX.out Try.underlying29 rfl I4.out ?_ | refine gate_guard (by rfl) (wpList_load_row rfl 29 _ rfl w6.heap.size rfl 29 arrW (0, 0) _ HV.out Try.underlying29 rfl I6.out ?_) | refine wpList_load_row rfl 29 _ rfl w6.heap.size rfl 29 arrW (0, 0) _ HV.out Try.underlying29 rfl I6.out ?_ | fail)
          refine (SM.out _ HW4.out HW.out).mono ?_
          rintro e w8 ⟨rfl, hb⟩
          replace HB := Lib.hid (HB.out.trans (hb.mono HB.out.size))
          go_wp2
          go_ret
          first | exact ⟨rfl, HB.out⟩ | exact ⟨rfl, HPP.out ▸ HB.out⟩
    · have y0 : ((mayE 2 m : Int) == 0) = false := beq_eq_false_iff_ne.2 (by omega)
      have y0n : (mayE 2 m == 0) = false := beq_eq_false_iff_ne.2 h0
      go_wp2
      go_ret
      first | exact ⟨rfl, HB.out⟩ | exact ⟨rfl, HPP.out ▸ HB.out⟩
set_option maxRecDepth 100000 in
set_option maxHeartbeats 16000000 in
theorem msg_back_13 (m : MsgS) (A : Option Addr) (n c : Nat) (v u : Nat) (w : World) (hw : Wrs w A n m.ws) (hn : n ≤ 140737488351232) (hi : m.In) (hv : v % 3 = 0) (hu : u % 3 = 2) :
    Calls Try.prog 4 #[.agg (m.arr A n c), .int .u8 (v : Int), .int .u8 (u : Int)] w fun e w' => e = .returned (.bool true) ∧ Below w.heap.size w w' := by
  have x1 : (v : Int) % 3 = 0 := by omega
  have x2 : Int.tmod (v : Int) 3 = 0 := by rw [Int.tmod_eq_emod_of_nonneg (by omega)]; exact x1
  have x3 : (u : Int) % 3 = 2 := by omega
  have x4 : Int.tmod (u : Int) 3 = 2 := by rw [Int.tmod_eq_emod_of_nonneg (by omega)]; exact x3
  have FW := Lib.hid (fun (w : World) (hw : Wrs w A n m.ws) => fewm_any m A n c w hw hn hi.key hi.note hi.value)
  have AW := Lib.hid (fun w => awake05 w)
  have hb1 := below_alloc (Below.refl _ w) (.cells (m.arr A n c) 29)
  have HW := Lib.hid (hw.below hb1)
  have HB := Lib.hid hb1
  have HP := Lib.hid (blk_new w (.cells (m.arr A n c) 29))
  have IM := Lib.hid (info_msg.trans (congrArg some (arr_size m A n c).1.symm))
  have EN := Lib.hid (fun (z : m.Z) (w : World) (hw : Wrs w A n m.ws) => encode_any 3 m A n c w z hw)
  have PR := Lib.hid (fun (z : m.Z) (w : World) (hw : Wrs w A n m.ws) => rproject_any 1 m A n c w z hw)
  have NG := Lib.hid (show ∀ W, Calls Try.prog 17 #[.int .i64 1, .int .i64 3] W fun e w' => e = .returned (.int .i64 1) ∧ W = w' from fun W => negotiate_any 1 3 W)
  have A14 := Lib.hid (show (m.arr A n c)[14]? = some (.string m.note) from rfl)
  have A15 := Lib.hid (show (m.arr A n c)[15]? = some (.int .u64 (m.hint : Int)) from rfl)
  obtain ⟨fb, hfb⟩ : ∃ x, fewB m = x := ⟨_, rfl⟩
  rw [hfb] at FW
  have HZ := Lib.hid (show fb = true → m.Z from fun h => hi.z (fewB_few (hfb.trans h)))
  clear hw hb1 hi hfb hv hu
  generalize hMM : m.arr A n c = arrM at *
  have HMM := Lib.hid hMM; clear hMM
  go_enter Try.func4, Try.ntmps4
  go_wp2_with fail
  refine (AW.out _).mono ?_
  rintro e w1 ⟨rfl, hb⟩
  replace HB := Lib.hid (HB.out.trans (hb.mono HB.out.size)); replace HW := Lib.hid (HW.out.below hb); replace HP := Lib.hid (blk_below HP.out hb); clear hb
  obtain ⟨pp, hpp⟩ : ∃ pp, w.heap.size = pp := ⟨_, rfl⟩
  rw [hpp] at HP ⊢
  have HPP := Lib.hid hpp; clear hpp
  go_wp2_with (first | refine gate_guard (by rfl) (wpList_load_row rfl 29 _ rfl pp rfl 29 arrM (0, 0) _ HP.out Try.underlying29 rfl IM.out ?_) | refine wpList_load_row rfl 29 _ rfl pp rfl 29 arrM (0, 0) _ HP.out Try.underlying29 rfl IM.out ?_ | fail)
  refine (FW.out _ HW.out).mono ?_
  rintro e w2 ⟨rfl, hb⟩
  replace HB := Lib.hid (HB.out.trans (hb.mono HB.out.size)); replace HW := Lib.hid (HW.out.below hb); replace HP := Lib.hid (blk_below HP.out hb); clear hb
  cases fb with
  | false =>
    go_wp2_with fail
    refine (AW.out _).mono ?_
    rintro e w3 ⟨rfl, hb⟩
    replace HB := Lib.hid (HB.out.trans (hb.mono HB.out.size))
    go_wp2
    go_ret
    first | exact ⟨rfl, HB.out⟩ | exact ⟨rfl, HPP.out ▸ HB.out⟩
  | true =>
    replace HZ := Lib.hid (HZ.out rfl)
    go_wp2_with (first | refine gate_guard (by rfl) (wpList_load_row rfl 29 _ rfl pp rfl 29 arrM (0, 0) _ HP.out Try.underlying29 rfl IM.out ?_) | refine wpList_load_row rfl 29 _ rfl pp rfl 29 arrM (0, 0) _ HP.out Try.underlying29 rfl IM.out ?_ | fail)
    refine (EN.out HZ.out _ HW.out).mono ?_
    rintro e w3 ⟨rfl, hb⟩
    replace HB := Lib.hid (HB.out.trans (hb.mono HB.out.size)); replace HW := Lib.hid (HW.out.below hb); replace HP := Lib.hid (blk_below HP.out hb); clear hb
    by_cases h0 : mayE 3 m = 0
    · obtain ⟨o1, -, o3⟩ := may_ok h0
      have HG := Lib.hid (right_good HZ.out o1)
      have HD := Lib.hid (dec_back HG.out o1 (v := 1) (hi := 12) (by decide) (by decide) (by decide))
      rw [show knownS 1 = 9 from rfl, crit_1_3, left_1_3] at HD
      rw [show encS 3 m = bytesN m 12 from if_pos h0, h0]
      have HSZ := Lib.hid (show (bytesN m 12).size ≤ 140737488351232 from Nat.le_trans (bytes_mono m (show 12 ≤ 12 by decide)) (Nat.le_trans (right_size o1) (by decide)))
      have HR := Lib.hid o1
      have HM := Lib.hid o3
      have ML := Lib.hid (show mayE 1 m = if m.must ≠ 0 ∧ 9 < 12 then 4 else 0 by unfold mayE; rw [if_neg (by rintro (h | h); exact absurd h (by decide); rw [o1] at h; cases h)]; rfl)
      have hfit := HG.out.fit
      clear h0 o1 o3
      obtain ⟨sB, hsB⟩ : ∃ x, bytesN m 12 = x := ⟨_, rfl⟩
      rw [hsB] at HD HSZ ⊢
      clear hsB
      by_cases hmu : m.must ≠ 0
      · have HDQ := Lib.hid (show decM 1 sB = (zeroM, 0, 4) from HD.out.trans (if_pos (by rw [has12]; exact decide_eq_true hmu)))
        have PRJ := Lib.hid (fun (W : World) (hw : Wrs W A n m.ws) => PR.out HZ.out W hw)
        have ml := ML.out
        rw [if_pos ⟨hmu, by decide⟩] at ml
        simp only [ml, if_neg (show ¬ (4 : Nat) = 0 by decide)] at PRJ
        clear ml
        go_wp2_with fail
        refine (dec_is HDQ.out _ HSZ.out).mono ?_
        rintro e w4 ⟨A4, c4, rfl, hw4, hb⟩
        replace HB := Lib.hid (HB.out.trans (hb.mono HB.out.size)); replace HW := Lib.hid (HW.out.below hb); replace HP := Lib.hid (blk_below HP.out hb); clear hb
        have HW4 := Lib.hid hw4; clear hw4
        have I4 := Lib.hid (info_msg.trans (congrArg some (arr_size zeroM A4 zeroM.ws.length c4).1.symm))
        have S4 := Lib.hid (show 17 = (zeroM.arr A4 zeroM.ws.length c4).size from (arr_size zeroM A4 zeroM.ws.length c4).1.symm)
        have O4 := Lib.hid (arr_size zeroM A4 zeroM.ws.length c4).2
        have SM := Lib.hid (show ∀ W, Calls Try.prog 15 #[.agg (zeroM.arr A4 zeroM.ws.length c4), .agg #[.int .i64 0, .int .i64 0, .int .i64 0, .int .i64 0, .int .i64 0, .int .i64 0, .int .u64 0, .int .u64 0, .string ⟨#[]⟩, .bool false, .int .u64 0, .bool false, .string ⟨#[]⟩, .slice none 0 0, .string ⟨#[]⟩, .int .u64 0, .int .u64 0]] W fun e w' => e = .returned (.bool true) ∧ Below W.heap.size W w' from fun W => by
            have h := same_any zeroM zeroM A4 none zeroM.ws.length c4 0 0 W zeroM_fit zeroM_fit ⟨rfl, fun h => absurd h (by decide)⟩ (Wrs.nil W)
            rw [beq_self_eq_true] at h
            exact h)
        generalize zeroM.arr A4 zeroM.ws.length c4 = arrX at *
        go_wp2_with (first | refine gate_guard (by rfl) (wpList_load_row rfl 29 _ rfl pp rfl 29 arrM (0, 0) _ HP.out Try.underlying29 rfl IM.out ?_) | refine wpList_load_row rfl 29 _ rfl pp rfl 29 arrM (0, 0) _ HP.out Try.underlying29 rfl IM.out ?_ | (refine wpList_store_row rfl 29 _ _ rfl w4.heap.size arrX rfl rfl 29 _ (blk_new w4 _) I4.out S4.out O4.out ?_; refine gate_world (F := fun w' => Hid (w'.heap[w4.heap.size]? = some (.cells arrX 29 (0, 0))) ∧ Hid (Below w4.heap.size w4 w')) ⟨Lib.hid (setRow_heap _ _ _ arrX _ _ (blk_new w4 _)), Lib.hid (below_setRow (below_alloc (Below.refl _ w4) _) (Nat.le_refl _) arrX)⟩ ?_; rintro w5 ⟨HX, hb⟩; have hb := hb.out; replace HB := Lib.hid (HB.out.trans (hb.mono HB.out.size)); replace HW := Lib.hid (HW.out.below hb); replace HP := Lib.hid (blk_below HP.out hb); replace HW4 := Lib.hid (HW4.out.below hb); clear hb) | fail)
        have HX4 := Lib.hid HX.out
        refine (PRJ.out _ HW.out).mono ?_
        rintro e w6 ⟨rfl, hb⟩
        replace HB := Lib.hid (HB.out.trans (hb.mono HB.out.size)); replace HW := Lib.hid (HW.out.below hb); replace HP := Lib.hid (blk_below HP.out hb); replace HW4 := Lib.hid (HW4.out.below hb); replace HX := Lib.hid (blk_below HX.out hb); clear hb HX4
        obtain ⟨gx, hgx⟩ : ∃ x, w4.heap.size = x := ⟨_, rfl⟩
        rw [hgx] at HX ⊢
        clear hgx
        have I6 := Lib.hid (info_msg.trans (congrArg some (arr_size zeroM none 0 0).1.symm))
        have S6 := Lib.hid (show 17 = (zeroM.arr none 0 0).size from (arr_size zeroM none 0 0).1.symm)
        have O6 := Lib.hid (arr_size zeroM none 0 0).2
        generalize zeroM.arr none 0 0 = arrW at *
        have c14 : w6.cell? ⟨pp, 14, none⟩ = some (.string m.note) := (blk_cell HP.out 14).trans A14.out
        have c15 : w6.cell? ⟨pp, 15, none⟩ = some (.int .u64 (m.hint : Int)) := (blk_cell HP.out 15).trans A15.out
        have hpl := blk_lt HP.out
        by_cases hnb : m.note.size = 0
        · have e14 : m.note.toList.isEmpty = true := by rw [str_e]; exact decide_eq_true hnb
          have n14 : bN (hasB m 10 = true) = 0 := by rw [has10]; unfold bN; simp [hnb]
          by_cases hhb : m.hint = 0
          · have e15 : ((m.hint : Int) == 0) = true := beq_iff_eq.2 (by omega)
            have e15n : (m.hint == 0) = true := beq_iff_eq.2 hhb
            have HNB := Lib.hid hnb; have HHB := Lib.hid hhb; clear hnb hhb n14
            go_wp2_with (first | refine gate_guard (by rfl) (wpList_load_row rfl 29 _ rfl pp rfl 29 arrM (0, 0) _ HP.out Try.underlying29 rfl IM.out ?_) | refine wpList_load_row rfl 29 _ rfl pp rfl 29 arrM (0, 0) _ HP.out Try.underlying29 rfl IM.out ?_ | (refine wpList_store_row rfl 29 _ _ rfl w6.heap.size arrW rfl rfl 29 _ (blk_new w6 _) I6.out S6.out O6.out ?_; refine gate_world (F := fun w' => Hid (w'.heap[w6.heap.size]? = some (.cells arrW 29 (0, 0))) ∧ Hid (Below w6.heap.size w6 w')) ⟨Lib.hid (setRow_heap _ _ _ arrW _ _ (blk_new w6 _)), Lib.hid (below_setRow (below_alloc (Below.refl _ w6) _) (Nat.le_refl _) arrW)⟩ ?_; rintro w7 ⟨HV, hb⟩; have hb := hb.out; have c14 := (hb.cell (p := ⟨pp, 14, none⟩) hpl).trans c14; have c15 := (hb.cell (p := ⟨pp, 15, none⟩) hpl).trans c15; replace HB := Lib.hid (HB.out.trans (hb.mono HB.out.size)); replace HW := Lib.hid (HW.out.below hb); replace HP := Lib.hid (blk_below HP.out hb); replace HW4 := Lib.hid (HW4.out.below hb); replace HX := Lib.hid (blk_below HX.out hb); clear hb) | refine gate_guard (by rfl) (wpList_load_row rfl 29 _ rfl gx rfl 29 arrX (0, 0) _ HX.out Try.underlying29 rfl I4.out ?_) | refine wpList_load_row rfl 29 _ rfl gx rfl 29 arrX (0, 0) _ HX.out Try.underlying29 rfl I4.out ?_ | refine gate_guard (by rfl) (wpList_load_row rfl 29 _ rfl w6.heap.size rfl 29 arrW (0, 0) _ HV.out Try.underlying29 rfl I6.out ?_) | refine wpList_load_row rfl 29 _ rfl w6.heap.size rfl 29 arrW (0, 0) _ HV.out Try.underlying29 rfl I6.out ?_ | fail)
            refine (SM.out _).mono ?_
            rintro e w8 ⟨rfl, hb⟩
            replace HB := Lib.hid (HB.out.trans (hb.mono HB.out.size))
            go_wp2
            go_ret
            first | exact ⟨rfl, HB.out⟩ | exact ⟨rfl, HPP.out ▸ HB.out⟩
          · have e15 : ((m.hint : Int) == 0) = false := beq_eq_false_iff_ne.2 (by omega)
            have e15n : (m.hint == 0) = false := beq_eq_false_iff_ne.2 hhb
            have HNB := Lib.hid hnb; have HHB := Lib.hid hhb; clear hnb hhb n14
            go_wp2_with (first | refine gate_guard (by rfl) (wpList_load_row rfl 29 _ rfl pp rfl 29 arrM (0, 0) _ HP.out Try.underlying29 rfl IM.out ?_) | refine wpList_load_row rfl 29 _ rfl pp rfl 29 arrM (0, 0) _ HP.out Try.underlying29 rfl IM.out ?_ | (refine wpList_store_row rfl 29 _ _ rfl w6.heap.size arrW rfl rfl 29 _ (blk_new w6 _) I6.out S6.out O6.out ?_; refine gate_world (F := fun w' => Hid (w'.heap[w6.heap.size]? = some (.cells arrW 29 (0, 0))) ∧ Hid (Below w6.heap.size w6 w')) ⟨Lib.hid (setRow_heap _ _ _ arrW _ _ (blk_new w6 _)), Lib.hid (below_setRow (below_alloc (Below.refl _ w6) _) (Nat.le_refl _) arrW)⟩ ?_; rintro w7 ⟨HV, hb⟩; have hb := hb.out; have c14 := (hb.cell (p := ⟨pp, 14, none⟩) hpl).trans c14; have c15 := (hb.cell (p := ⟨pp, 15, none⟩) hpl).trans c15; replace HB := Lib.hid (HB.out.trans (hb.mono HB.out.size)); replace HW := Lib.hid (HW.out.below hb); replace HP := Lib.hid (blk_below HP.out hb); replace HW4 := Lib.hid (HW4.out.below hb); replace HX := Lib.hid (blk_below HX.out hb); clear hb) | refine gate_guard (by rfl) (wpList_load_row rfl 29 _ rfl gx rfl 29 arrX (0, 0) _ HX.out Try.underlying29 rfl I4.out ?_) | refine wpList_load_row rfl 29 _ rfl gx rfl 29 arrX (0, 0) _ HX.out Try.underlying29 rfl I4.out ?_ | refine gate_guard (by rfl) (wpList_load_row rfl 29 _ rfl w6.heap.size rfl 29 arrW (0, 0) _ HV.out Try.underlying29 rfl I6.out ?_) | refine wpList_load_row rfl 29 _ rfl w6.heap.size rfl 29 arrW (0, 0) _ HV.out Try.underlying29 rfl I6.out ?_ | fail)
            refine (SM.out _).mono ?_
            rintro e w8 ⟨rfl, hb⟩
            replace HB := Lib.hid (HB.out.trans (hb.mono HB.out.size))
            go_wp2
            go_ret
            first | exact ⟨rfl, HB.out⟩ | exact ⟨rfl, HPP.out ▸ HB.out⟩
        · have e14 : m.note.toList.isEmpty = false := by rw [str_e]; exact decide_eq_false hnb
          have n14 : bN (hasB m 10 = true) = 1 := by rw [has10]; unfold bN; simp [hnb]
          by_cases hhb : m.hint = 0
          · have e15 : ((m.hint : Int) == 0) = true := beq_iff_eq.2 (by omega)
            have e15n : (m.hint == 0) = true := beq_iff_eq.2 hhb
            have HNB := Lib.hid hnb; have HHB := Lib.hid hhb; clear hnb hhb n14
            go_wp2_with (first | refine gate_guard (by rfl) (wpList_load_row rfl 29 _ rfl pp rfl 29 arrM (0, 0) _ HP.out Try.underlying29 rfl IM.out ?_) | refine wpList_load_row rfl 29 _ rfl pp rfl 29 arrM (0, 0) _ HP.out Try.underlying29 rfl IM.out ?_ | (refine wpList_store_row rfl 29 _ _ rfl w6.heap.size arrW rfl rfl 29 _ (blk_new w6 _) I6.out S6.out O6.out ?_; refine gate_world (F := fun w' => Hid (w'.heap[w6.heap.size]? = some (.cells arrW 29 (0, 0))) ∧ Hid (Below w6.heap.size w6 w')) ⟨Lib.hid (setRow_heap _ _ _ arrW _ _ (blk_new w6 _)), Lib.hid (below_setRow (below_alloc (Below.refl _ w6) _) (Nat.le_refl _) arrW)⟩ ?_; rintro w7 ⟨HV, hb⟩; have hb := hb.out; have c14 := (hb.cell (p := ⟨pp, 14, none⟩) hpl).trans c14; have c15 := (hb.cell (p := ⟨pp, 15, none⟩) hpl).trans c15; replace HB := Lib.hid (HB.out.trans (hb.mono HB.out.size)); replace HW := Lib.hid (HW.out.below hb); replace HP := Lib.hid (blk_below HP.out hb); replace HW4 := Lib.hid (HW4.out.below hb); replace HX := Lib.hid (blk_below HX.out hb); clear hb) | refine gate_guard (by rfl) (wpList_load_row rfl 29 _ rfl gx rfl 29 arrX (0, 0) _ HX.out Try.underlying29 rfl I4.out ?_) | refine wpList_load_row rfl 29 _ rfl gx rfl 29 arrX (0, 0) _ HX.out Try.underlying29 rfl I4.out ?_ | refine gate_guard (by rfl) (wpList_load_row rfl 29 _ rfl w6.heap.size rfl 29 arrW (0, 0) _ HV.out Try.underlying29 rfl I6.out ?_) | refine wpList_load_row rfl 29 _ rfl w6.heap.size rfl 29 arrW (0, 0) _ HV.out Try.underlying29 rfl I6.out ?_ | fail)
            refine (SM.out _).mono ?_
            rintro e w8 ⟨rfl, hb⟩
            replace HB := Lib.hid (HB.out.trans (hb.mono HB.out.size))
            go_wp2
            go_ret
            first | exact ⟨rfl, HB.out⟩ | exact ⟨rfl, HPP.out ▸ HB.out⟩
          · have e15 : ((m.hint : Int) == 0) = false := beq_eq_false_iff_ne.2 (by omega)
            have e15n : (m.hint == 0) = false := beq_eq_false_iff_ne.2 hhb
            have HNB := Lib.hid hnb; have HHB := Lib.hid hhb; clear hnb hhb n14
            go_wp2_with (first | refine gate_guard (by rfl) (wpList_load_row rfl 29 _ rfl pp rfl 29 arrM (0, 0) _ HP.out Try.underlying29 rfl IM.out ?_) | refine wpList_load_row rfl 29 _ rfl pp rfl 29 arrM (0, 0) _ HP.out Try.underlying29 rfl IM.out ?_ | (refine wpList_store_row rfl 29 _ _ rfl w6.heap.size arrW rfl rfl 29 _ (blk_new w6 _) I6.out S6.out O6.out ?_; refine gate_world (F := fun w' => Hid (w'.heap[w6.heap.size]? = some (.cells arrW 29 (0, 0))) ∧ Hid (Below w6.heap.size w6 w')) ⟨Lib.hid (setRow_heap _ _ _ arrW _ _ (blk_new w6 _)), Lib.hid (below_setRow (below_alloc (Below.refl _ w6) _) (Nat.le_refl _) arrW)⟩ ?_; rintro w7 ⟨HV, hb⟩; have hb := hb.out; have c14 := (hb.cell (p := ⟨pp, 14, none⟩) hpl).trans c14; have c15 := (hb.cell (p := ⟨pp, 15, none⟩) hpl).trans c15; replace HB := Lib.hid (HB.out.trans (hb.mono HB.out.size)); replace HW := Lib.hid (HW.out.below hb); replace HP := Lib.hid (blk_below HP.out hb); replace HW4 := Lib.hid (HW4.out.below hb); replace HX := Lib.hid (blk_below HX.out hb); clear hb) | refine gate_guard (by rfl) (wpList_load_row rfl 29 _ rfl gx rfl 29 arrX (0, 0) _ HX.out Try.underlying29 rfl I4.out ?_) | refine wpList_load_row rfl 29 _ rfl gx rfl 29 arrX (0, 0) _ HX.out Try.underlying29 rfl I4.out ?_ | refine gate_guard (by rfl) (wpList_load_row rfl 29 _ rfl w6.heap.size rfl 29 arrW (0, 0) _ HV.out Try.underlying29 rfl I6.out ?_) | refine wpList_load_row rfl 29 _ rfl w6.heap.size rfl 29 arrW (0, 0) _ HV.out Try.underlying29 rfl I6.out ?_ | fail)
            refine (SM.out _).mono ?_
            rintro e w8 ⟨rfl, hb⟩
            replace HB := Lib.hid (HB.out.trans (hb.mono HB.out.size))
            go_wp2
            go_ret
            first | exact ⟨rfl, HB.out⟩ | exact ⟨rfl, HPP.out ▸ HB.out⟩
      · have hmu0 : m.must = 0 := Decidable.of_not_not hmu
        have HMU := Lib.hid (show bN (hasB m 12 = true) = 0 by rw [has12]; unfold bN; simp [hmu0])
        have ml := ML.out
        rw [if_neg (fun h => hmu h.1)] at ml
        have hcr : ¬ hasB m 12 = true := by rw [has12]; simp [hmu0]
        obtain ⟨lf, hlf⟩ : ∃ x, 0 + bN (hasB m 10 = true) + bN (hasB m 11 = true) + bN (hasB m 12 = true) = x := ⟨_, rfl⟩
        have HLE := Lib.hid hlf
        have HDQ := Lib.hid (show decM 1 sB = (projS 1 m, lf, 0) from HD.out.trans ((if_neg hcr).trans (by rw [hlf, ← restr_proj ml]; rfl)))
        have PRJ := Lib.hid (fun (W : World) (hw : Wrs W A n m.ws) => PR.out HZ.out W hw)
        simp only [ml, if_pos (show (0 : Nat) = 0 from rfl)] at PRJ
        clear ml hcr hlf
        go_wp2_with fail
        refine (dec_is HDQ.out _ HSZ.out).mono ?_
        rintro e w4 ⟨A4, c4, rfl, hw4, hb⟩
        replace HB := Lib.hid (HB.out.trans (hb.mono HB.out.size)); replace HW := Lib.hid (HW.out.below hb); replace HP := Lib.hid (blk_below HP.out hb); clear hb
        have HW4 := Lib.hid hw4; clear hw4
        have I4 := Lib.hid (info_msg.trans (congrArg some (arr_size (projS 1 m) A4 (projS 1 m).ws.length c4).1.symm))
        have S4 := Lib.hid (show 17 = ((projS 1 m).arr A4 (projS 1 m).ws.length c4).size from (arr_size (projS 1 m) A4 (projS 1 m).ws.length c4).1.symm)
        have O4 := Lib.hid (arr_size (projS 1 m) A4 (projS 1 m).ws.length c4).2
        have SM := Lib.hid (fun W (hw : Wrs W A4 (projS 1 m).ws.length (projS 1 m).ws) (hw2 : Wrs W A n m.ws) => (show Calls Try.prog 15 #[.agg ((projS 1 m).arr A4 (projS 1 m).ws.length c4), .agg ((projS 1 m).arr A n c)] W fun e w' => e = .returned (.bool true) ∧ Below W.heap.size W w' from by
            have h := same_any (projS 1 m) (projS 1 m) A4 A (projS 1 m).ws.length c4 n c W (projS_fit hfit) (projS_fit hfit) hw hw2
            rw [beq_self_eq_true] at h
            exact h))
        generalize (projS 1 m).arr A4 (projS 1 m).ws.length c4 = arrX at *
        go_wp2_with (first | refine gate_guard (by rfl) (wpList_load_row rfl 29 _ rfl pp rfl 29 arrM (0, 0) _ HP.out Try.underlying29 rfl IM.out ?_) | refine wpList_load_row rfl 29 _ rfl pp rfl 29 arrM (0, 0) _ HP.out Try.underlying29 rfl IM.out ?_ | (refine wpList_store_row rfl 29 _ _ rfl w4.heap.size arrX rfl rfl 29 _ (blk_new w4 _) I4.out S4.out O4.out ?_; refine gate_world (F := fun w' => Hid (w'.heap[w4.heap.size]? = some (.cells arrX 29 (0, 0))) ∧ Hid (Below w4.heap.size w4 w')) ⟨Lib.hid (setRow_heap _ _ _ arrX _ _ (blk_new w4 _)), Lib.hid (below_setRow (below_alloc (Below.refl _ w4) _) (Nat.le_refl _) arrX)⟩ ?_; rintro w5 ⟨HX, hb⟩; have hb := hb.out; replace HB := Lib.hid (HB.out.trans (hb.mono HB.out.size)); replace HW := Lib.hid (HW.out.below hb); replace HP := Lib.hid (blk_below HP.out hb); replace HW4 := Lib.hid (HW4.out.below hb); clear hb) | fail)
        have HX4 := Lib.hid HX.out
        refine (PRJ.out _ HW.out).mono ?_
        rintro e w6 ⟨rfl, hb⟩
        replace HB := Lib.hid (HB.out.trans (hb.mono HB.out.size)); replace HW := Lib.hid (HW.out.below hb); replace HP := Lib.hid (blk_below HP.out hb); replace HW4 := Lib.hid (HW4.out.below hb); replace HX := Lib.hid (blk_below HX.out hb); clear hb HX4
        obtain ⟨gx, hgx⟩ : ∃ x, w4.heap.size = x := ⟨_, rfl⟩
        rw [hgx] at HX ⊢
        clear hgx
        have I6 := Lib.hid (info_msg.trans (congrArg some (arr_size (projS 1 m) A n c).1.symm))
        have S6 := Lib.hid (show 17 = ((projS 1 m).arr A n c).size from (arr_size (projS 1 m) A n c).1.symm)
        have O6 := Lib.hid (arr_size (projS 1 m) A n c).2
        generalize (projS 1 m).arr A n c = arrW at *
        have c14 : w6.cell? ⟨pp, 14, none⟩ = some (.string m.note) := (blk_cell HP.out 14).trans A14.out
        have c15 : w6.cell? ⟨pp, 15, none⟩ = some (.int .u64 (m.hint : Int)) := (blk_cell HP.out 15).trans A15.out
        have hpl := blk_lt HP.out
        by_cases hnb : m.note.size = 0
        · have e14 : m.note.toList.isEmpty = true := by rw [str_e]; exact decide_eq_true hnb
          have n14 : bN (hasB m 10 = true) = 0 := by rw [has10]; unfold bN; simp [hnb]
          by_cases hhb : m.hint = 0
          · have e15 : ((m.hint : Int) == 0) = true := beq_iff_eq.2 (by omega)
            have e15n : (m.hint == 0) = true := beq_iff_eq.2 hhb
            have n15 : bN (hasB m 11 = true) = 0 := by rw [has11]; unfold bN; simp [hhb]
            have hle := HLE.out
            rw [n14, n15, HMU.out] at hle
            have z1 : ((lf : Int) == 0) = true := beq_iff_eq.2 (by omega)
            have z2 : (lf == 0) = true := beq_iff_eq.2 (by omega)
            clear hle
            have HNB := Lib.hid hnb; have HHB := Lib.hid hhb; clear hnb hhb n14 n15
            go_wp2_with (first | refine gate_guard (by rfl) (wpList_load_row rfl 29 _ rfl pp rfl 29 arrM (0, 0) _ HP.out Try.underlying29 rfl IM.out ?_) | refine wpList_load_row rfl 29 _ rfl pp rfl 29 arrM (0, 0) _ HP.out Try.underlying29 rfl IM.out ?_ | (refine wpList_store_row rfl 29 _ _ rfl w6.heap.size arrW rfl rfl 29 _ (blk_new w6 _) I6.out S6.out O6.out ?_; refine gate_world (F := fun w' => Hid (w'.heap[w6.heap.size]? = some (.cells arrW 29 (0, 0))) ∧ Hid (Below w6.heap.size w6 w')) ⟨Lib.hid (setRow_heap _ _ _ arrW _ _ (blk_new w6 _)), Lib.hid (below_setRow (below_alloc (Below.refl _ w6) _) (Nat.le_refl _) arrW)⟩ ?_; rintro w7 ⟨HV, hb⟩; have hb := hb.out; have c14 := (hb.cell (p := ⟨pp, 14, none⟩) hpl).trans c14; have c15 := (hb.cell (p := ⟨pp, 15, none⟩) hpl).trans c15; replace HB := Lib.hid (HB.out.trans (hb.mono HB.out.size)); replace HW := Lib.hid (HW.out.below hb); replace HP := Lib.hid (blk_below HP.out hb); replace HW4 := Lib.hid (HW4.out.below hb); replace HX := Lib.hid (blk_below HX.out hb); clear hb) | refine gate_guard (by rfl) (wpList_load_row rfl 29 _ rfl gx rfl 29 arrX (0, 0) _ HX.out Try.underlying29 rfl I4.out ?_) | refine wpList_load_row rfl 29 _ rfl gx rfl 29 arrX (0, 0) _ HX.out Try.underlying29 rfl I4.out ?_ | refine gate_guard (by rfl) (wpList_load_row rfl 29 _ rfl w6.heap.size rfl 29 arrW (0, 0) _ HV.out Try.underlying29 rfl I6.out ?_) | refine wpList_load_row rfl 29 _ rfl w6.heap.size rfl 29 arrW (0, 0) _ HV.out Try.underlying29 rfl I6.out ?_ | fail)
            refine (NG.out _).mono ?_
            rintro e w8 ⟨rfl, rfl⟩
            go_wp2_with (first | refine gate_guard (by rfl) (wpList_load_row rfl 29 _ rfl gx rfl 29 arrX (0, 0) _ HX.out Try.underlying29 rfl I4.out ?_) | refine wpList_load_row rfl 29 _ rfl gx rfl 29 arrX (0, 0) _ HX.out Try.underlying29 rfl I4.out ?_ | refine gate_guard (by rfl) (wpList_load_row rfl 29 _ rfl w6.heap.size rfl 29 arrW (0, 0) _ HV.out Try.underlying29 rfl I6.out ?_) | refine wpList_load_row rfl 29 _ rfl w6.heap.size rfl 29 arrW (0, 0) _ HV.out Try.underlying29 rfl I6.out ?_ | fail)
            refine (SM.out _ HW4.out HW.out).mono ?_
            rintro e w8 ⟨rfl, hb⟩
            replace HB := Lib.hid (HB.out.trans (hb.mono HB.out.size))
            go_wp2
            go_ret
            first | exact ⟨rfl, HB.out⟩ | exact ⟨rfl, HPP.out ▸ HB.out⟩
          · have e15 : ((m.hint : Int) == 0) = false := beq_eq_false_iff_ne.2 (by omega)
            have e15n : (m.hint == 0) = false := beq_eq_false_iff_ne.2 hhb
            have n15 : bN (hasB m 11 = true) = 1 := by rw [has11]; unfold bN; simp [hhb]
            have hle := HLE.out
            rw [n14, n15, HMU.out] at hle
            have z1 : ((lf : Int) == 1) = true := beq_iff_eq.2 (by omega)
            have z2 : (lf == 1) = true := beq_iff_eq.2 (by omega)
            clear hle
            have HNB := Lib.hid hnb; have HHB := Lib.hid hhb; clear hnb hhb n14 n15
            go_wp2_with (first | refine gate_guard (by rfl) (wpList_load_row rfl 29 _ rfl pp rfl 29 arrM (0, 0) _ HP.out Try.underlying29 rfl IM.out ?_) | refine wpList_load_row rfl 29 _ rfl pp rfl 29 arrM (0, 0) _ HP.out Try.underlying29 rfl IM.out ?_ | (refine wpList_store_row rfl 29 _ _ rfl w6.heap.size arrW rfl rfl 29 _ (blk_new w6 _) I6.out S6.out O6.out ?_; refine gate_world (F := fun w' => Hid (w'.heap[w6.heap.size]? = some (.cells arrW 29 (0, 0))) ∧ Hid (Below w6.heap.size w6 w')) ⟨Lib.hid (setRow_heap _ _ _ arrW _ _ (blk_new w6 _)), Lib.hid (below_setRow (below_alloc (Below.refl _ w6) _) (Nat.le_refl _) arrW)⟩ ?_; rintro w7 ⟨HV, hb⟩; have hb := hb.out; have c14 := (hb.cell (p := ⟨pp, 14, none⟩) hpl).trans c14; have c15 := (hb.cell (p := ⟨pp, 15, none⟩) hpl).trans c15; replace HB := Lib.hid (HB.out.trans (hb.mono HB.out.size)); replace HW := Lib.hid (HW.out.below hb); replace HP := Lib.hid (blk_below HP.out hb); replace HW4 := Lib.hid (HW4.out.below hb); replace HX := Lib.hid (blk_below HX.out hb); clear hb) | refine gate_guard (by rfl) (wpList_load_row rfl 29 _ rfl gx rfl 29 arrX (0, 0) _ HX.out Try.underlying29 rfl I4.out ?_) | refine wpList_load_row rfl 29 _ rfl gx rfl 29 arrX (0, 0) _ HX.out Try.underlying29 rfl I4.out ?_ | refine gate_guard (by rfl) (wpList_load_row rfl 29 _ rfl w6.heap.size rfl 29 arrW (0, 0) _ HV.out Try.underlying29 rfl I6.out ?_) | refine wpList_load_row rfl 29 _ rfl w6.heap.size rfl 29 arrW (0, 0) _ HV.out Try.underlying29 rfl I6.out ?_ | fail)
            refine (NG.out _).mono ?_
            rintro e w8 ⟨rfl, rfl⟩
            go_wp2_with (first | refine gate_guard (by rfl) (wpList_load_row rfl 29 _ rfl gx rfl 29 arrX (0, 0) _ HX.out Try.underlying29 rfl I4.out ?_) | refine wpList_load_row rfl 29 _ rfl gx rfl 29 arrX (0, 0) _ HX.out Try.underlying29 rfl I4.out ?_ | refine gate_guard (by rfl) (wpList_load_row rfl 29 _ rfl w6.heap.size rfl 29 arrW (0, 0) _ HV.out Try.underlying29 rfl I6.out ?_) | refine wpList_load_row rfl 29 _ rfl w6.heap.size rfl 29 arrW (0, 0) _ HV.out Try.underlying29 rfl I6.out ?_ | fail)
            refine (SM.out _ HW4.out HW.out).mono ?_
            rintro e w8 ⟨rfl, hb⟩
            replace HB := Lib.hid (HB.out.trans (hb.mono HB.out.size))
            go_wp2
            go_ret
            first | exact ⟨rfl, HB.out⟩ | exact ⟨rfl, HPP.out ▸ HB.out⟩
        · have e14 : m.note.toList.isEmpty = false := by rw [str_e]; exact decide_eq_false hnb
          have n14 : bN (hasB m 10 = true) = 1 := by rw [has10]; unfold bN; simp [hnb]
          by_cases hhb : m.hint = 0
          · have e15 : ((m.hint : Int) == 0) = true := beq_iff_eq.2 (by omega)
            have e15n : (m.hint == 0) = true := beq_iff_eq.2 hhb
            have n15 : bN (hasB m 11 = true) = 0 := by rw [has11]; unfold bN; simp [hhb]
            have hle := HLE.out
            rw [n14, n15, HMU.out] at hle
            have z1 : ((lf : Int) == 1) = true := beq_iff_eq.2 (by omega)
            have z2 : (lf == 1) = true := beq_iff_eq.2 (by omega)
            clear hle
            have HNB := Lib.hid hnb; have HHB := Lib.hid hhb; clear hnb hhb n14 n15
            go_wp2_with (first | refine gate_guard (by rfl) (wpList_load_row rfl 29 _ rfl pp rfl 29 arrM (0, 0) _ HP.out Try.underlying29 rfl IM.out ?_) | refine wpList_load_row rfl 29 _ rfl pp rfl 29 arrM (0, 0) _ HP.out Try.underlying29 rfl IM.out ?_ | (refine wpList_store_row rfl 29 _ _ rfl w6.heap.size arrW rfl rfl 29 _ (blk_new w6 _) I6.out S6.out O6.out ?_; refine gate_world (F := fun w' => Hid (w'.heap[w6.heap.size]? = some (.cells arrW 29 (0, 0))) ∧ Hid (Below w6.heap.size w6 w')) ⟨Lib.hid (setRow_heap _ _ _ arrW _ _ (blk_new w6 _)), Lib.hid (below_setRow (below_alloc (Below.refl _ w6) _) (Nat.le_refl _) arrW)⟩ ?_; rintro w7 ⟨HV, hb⟩; have hb := hb.out; have c14 := (hb.cell (p := ⟨pp, 14, none⟩) hpl).trans c14; have c15 := (hb.cell (p := ⟨pp, 15, none⟩) hpl).trans c15; replace HB := Lib.hid (HB.out.trans (hb.mono HB.out.size)); replace HW := Lib.hid (HW.out.below hb); replace HP := Lib.hid (blk_below HP.out hb); replace HW4 := Lib.hid (HW4.out.below hb); replace HX := Lib.hid (blk_below HX.out hb); clear hb) | refine gate_guard (by rfl) (wpList_load_row rfl 29 _ rfl gx rfl 29 arrX (0, 0) _ HX.out Try.underlying29 rfl I4.out ?_) | refine wpList_load_row rfl 29 _ rfl gx rfl 29 arrX (0, 0) _ HX.out Try.underlying29 rfl I4.out ?_ | refine gate_guard (by rfl) (wpList_load_row rfl 29 _ rfl w6.heap.size rfl 29 arrW (0, 0) _ HV.out Try.underlying29 rfl I6.out ?_) | refine wpList_load_row rfl 29 _ rfl w6.heap.size rfl 29 arrW (0, 0) _ HV.out Try.underlying29 rfl I6.out ?_ | fail)
            refine (NG.out _).mono ?_
            rintro e w8 ⟨rfl, rfl⟩
            go_wp2_with (first | refine gate_guard (by rfl) (wpList_load_row rfl 29 _ rfl gx rfl 29 arrX (0, 0) _ HX.out Try.underlying29 rfl I4.out ?_) | refine wpList_load_row rfl 29 _ rfl gx rfl 29 arrX (0, 0) _ HX.out Try.underlying29 rfl I4.out ?_ | refine gate_guard (by rfl) (wpList_load_row rfl 29 _ rfl w6.heap.size rfl 29 arrW (0, 0) _ HV.out Try.underlying29 rfl I6.out ?_) | refine wpList_load_row rfl 29 _ rfl w6.heap.size rfl 29 arrW (0, 0) _ HV.out Try.underlying29 rfl I6.out ?_ | fail)
            refine (SM.out _ HW4.out HW.out).mono ?_
            rintro e w8 ⟨rfl, hb⟩
            replace HB := Lib.hid (HB.out.trans (hb.mono HB.out.size))
            go_wp2
            go_ret
            first | exact ⟨rfl, HB.out⟩ | exact ⟨rfl, HPP.out ▸ HB.out⟩
          · have e15 : ((m.hint : Int) == 0) = false := beq_eq_false_iff_ne.2 (by omega)
            have e15n : (m.hint == 0) = false := beq_eq_false_iff_ne.2 hhb
            have n15 : bN (hasB m 11 = true) = 1 := by rw [has11]; unfold bN; simp [hhb]
            have hle := HLE.out
            rw [n14, n15, HMU.out] at hle
            have z1 : ((lf : Int) == 2) = true := beq_iff_eq.2 (by omega)
            have z2 : (lf == 2) = true := beq_iff_eq.2 (by omega)
            clear hle
            have HNB := Lib.hid hnb; have HHB := Lib.hid hhb; clear hnb hhb n14 n15
            go_wp2_with (first | refine gate_guard (by rfl) (wpList_load_row rfl 29 _ rfl pp rfl 29 arrM (0, 0) _ HP.out Try.underlying29 rfl IM.out ?_) | refine wpList_load_row rfl 29 _ rfl pp rfl 29 arrM (0, 0) _ HP.out Try.underlying29 rfl IM.out ?_ | (refine wpList_store_row rfl 29 _ _ rfl w6.heap.size arrW rfl rfl 29 _ (blk_new w6 _) I6.out S6.out O6.out ?_; refine gate_world (F := fun w' => Hid (w'.heap[w6.heap.size]? = some (.cells arrW 29 (0, 0))) ∧ Hid (Below w6.heap.size w6 w')) ⟨Lib.hid (setRow_heap _ _ _ arrW _ _ (blk_new w6 _)), Lib.hid (below_setRow (below_alloc (Below.refl _ w6) _) (Nat.le_refl _) arrW)⟩ ?_; rintro w7 ⟨HV, hb⟩; have hb := hb.out; have c14 := (hb.cell (p := ⟨pp, 14, none⟩) hpl).trans c14; have c15 := (hb.cell (p := ⟨pp, 15, none⟩) hpl).trans c15; replace HB := Lib.hid (HB.out.trans (hb.mono HB.out.size)); replace HW := Lib.hid (HW.out.below hb); replace HP := Lib.hid (blk_below HP.out hb); replace HW4 := Lib.hid (HW4.out.below hb); replace HX := Lib.hid (blk_below HX.out hb); clear hb) | refine gate_guard (by rfl) (wpList_load_row rfl 29 _ rfl gx rfl 29 arrX (0, 0) _ HX.out Try.underlying29 rfl I4.out ?_) | refine wpList_load_row rfl 29 _ rfl gx rfl 29 arrX (0, 0) _ HX.out Try.underlying29 rfl I4.out ?_ | refine gate_guard (by rfl) (wpList_load_row rfl 29 _ rfl w6.heap.size rfl 29 arrW (0, 0) _ HV.out Try.underlying29 rfl I6.out ?_) | refine wpList_load_row rfl 29 _ rfl w6.heap.size rfl 29 arrW (0, 0) _ HV.out Try.underlying29 rfl I6.out ?_ | fail)
            refine (NG.out _).mono ?_
            rintro e w8 ⟨rfl, rfl⟩
            go_wp2_with (first | refine gate_guard (by rfl) (wpList_load_row rfl 29 _ rfl gx rfl 29 arrX (0, 0) _ HX.out Try.underlying29 rfl I4.out ?_) | refine wpList_load_row rfl 29 _ rfl gx rfl 29 arrX (0, 0) _ HX.out Try.underlying29 rfl I4.out ?_ | refine gate_guard (by rfl) (wpList_load_row rfl 29 _ rfl w6.heap.size rfl 29 arrW (0, 0) _ HV.out Try.underlying29 rfl I6.out ?_) | refine wpList_load_row rfl 29 _ rfl w6.heap.size rfl 29 arrW (0, 0) _ HV.out Try.underlying29 rfl I6.out ?_ | fail)
            refine (SM.out _ HW4.out HW.out).mono ?_
            rintro e w8 ⟨rfl, hb⟩
            replace HB := Lib.hid (HB.out.trans (hb.mono HB.out.size))
            go_wp2
            go_ret
            first | exact ⟨rfl, HB.out⟩ | exact ⟨rfl, HPP.out ▸ HB.out⟩
    · have y0 : ((mayE 3 m : Int) == 0) = false := beq_eq_false_iff_ne.2 (by omega)
      have y0n : (mayE 3 m == 0) = false := beq_eq_false_iff_ne.2 h0
      go_wp2
      go_ret
      first | exact ⟨rfl, HB.out⟩ | exact ⟨rfl, HPP.out ▸ HB.out⟩
set_option maxRecDepth 100000 in
set_option maxHeartbeats 16000000 in
theorem msg_back_21 (m : MsgS) (A : Option Addr) (n c : Nat) (v u : Nat) (w : World) (hw : Wrs w A n m.ws) (hn : n ≤ 140737488351232) (hi : m.In) (hv : v % 3 = 1) (hu : u % 3 = 0) :
    Calls Try.prog 4 #[.agg (m.arr A n c), .int .u8 (v : Int), .int .u8 (u : Int)] w fun e w' => e = .returned (.bool true) ∧ Below w.heap.size w w' := by
  have x1 : (v : Int) % 3 = 1 := by omega
  have x2 : Int.tmod (v : Int) 3 = 1 := by rw [Int.tmod_eq_emod_of_nonneg (by omega)]; exact x1
  have x3 : (u : Int) % 3 = 0 := by omega
  have x4 : Int.tmod (u : Int) 3 = 0 := by rw [Int.tmod_eq_emod_of_nonneg (by omega)]; exact x3
  have FW := Lib.hid (fun (w : World) (hw : Wrs w A n m.ws) => fewm_any m A n c w hw hn hi.key hi.note hi.value)
  have AW := Lib.hid (fun w => awake05 w)
  have hb1 := below_alloc (Below.refl _ w) (.cells (m.arr A n c) 29)
  have HW := Lib.hid (hw.below hb1)
  have HB := Lib.hid hb1
  have HP := Lib.hid (blk_new w (.cells (m.arr A n c) 29))
  have IM := Lib.hid (info_msg.trans (congrArg some (arr_size m A n c).1.symm))
  have EN := Lib.hid (fun (z : m.Z) (w : World) (hw : Wrs w A n m.ws) => encode_any 2 m A n c w z hw)
  have PR := Lib.hid (fun (z : m.Z) (w : World) (hw : Wrs w A n m.ws) => rproject_any 1 m A n c w z hw)
  have NG := Lib.hid (show ∀ W, Calls Try.prog 17 #[.int .i64 2, .int .i64 1] W fun e w' => e = .returned (.int .i64 1) ∧ W = w' from fun W => negotiate_any 2 1 W)
  have A14 := Lib.hid (show (m.arr A n c)[14]? = some (.string m.note) from rfl)
  have A15 := Lib.hid (show (m.arr A n c)[15]? = some (.int .u64 (m.hint : Int)) from rfl)
  obtain ⟨fb, hfb⟩ : ∃ x, fewB m = x := ⟨_, rfl⟩
  rw [hfb] at FW
  have HZ := Lib.hid (show fb = true → m.Z from fun h => hi.z (fewB_few (hfb.trans h)))
  clear hw hb1 hi hfb hv hu
  generalize hMM : m.arr A n c = arrM at *
  have HMM := Lib.hid hMM; clear hMM
  go_enter Try.func4, Try.ntmps4
  go_wp2_with fail
  refine (AW.out _).mono ?_
  rintro e w1 ⟨rfl, hb⟩
  replace HB := Lib.hid (HB.out.trans (hb.mono HB.out.size)); replace HW := Lib.hid (HW.out.below hb); replace HP := Lib.hid (blk_below HP.out hb); clear hb
  obtain ⟨pp, hpp⟩ : ∃ pp, w.heap.size = pp := ⟨_, rfl⟩
  rw [hpp] at HP ⊢
  have HPP := Lib.hid hpp; clear hpp
  go_wp2_with (first | refine gate_guard (by rfl) (wpList_load_row rfl 29 _ rfl pp rfl 29 arrM (0, 0) _ HP.out Try.underlying29 rfl IM.out ?_) | refine wpList_load_row rfl 29 _ rfl pp rfl 29 arrM (0, 0) _ HP.out Try.underlying29 rfl IM.out ?_ | fail)
  refine (FW.out _ HW.out).mono ?_
  rintro e w2 ⟨rfl, hb⟩
  replace HB := Lib.hid (HB.out.trans (hb.mono HB.out.size)); replace HW := Lib.hid (HW.out.below hb); replace HP := Lib.hid (blk_below HP.out hb); clear hb
  cases fb with
  | false =>
    go_wp2_with fail
    refine (AW.out _).mono ?_
    rintro e w3 ⟨rfl, hb⟩
    replace HB := Lib.hid (HB.out.trans (hb.mono HB.out.size))
    go_wp2
    go_ret
    first | exact ⟨rfl, HB.out⟩ | exact ⟨rfl, HPP.out ▸ HB.out⟩
  | true =>
    replace HZ := Lib.hid (HZ.out rfl)
    go_wp2_with (first | refine gate_guard (by rfl) (wpList_load_row rfl 29 _ rfl pp rfl 29 arrM (0, 0) _ HP.out Try.underlying29 rfl IM.out ?_) | refine wpList_load_row rfl 29 _ rfl pp rfl 29 arrM (0, 0) _ HP.out Try.underlying29 rfl IM.out ?_ | fail)
    refine (EN.out HZ.out _ HW.out).mono ?_
    rintro e w3 ⟨rfl, hb⟩
    replace HB := Lib.hid (HB.out.trans (hb.mono HB.out.size)); replace HW := Lib.hid (HW.out.below hb); replace HP := Lib.hid (blk_below HP.out hb); clear hb
    by_cases h0 : mayE 2 m = 0
    · obtain ⟨o1, -, o3⟩ := may_ok h0
      have HG := Lib.hid (right_good HZ.out o1)
      have HD := Lib.hid (dec_back HG.out o1 (v := 1) (hi := 10) (by decide) (by decide) (by decide))
      rw [show knownS 1 = 9 from rfl, crit_1_2, left_1_2] at HD
      rw [show encS 2 m = bytesN m 10 from if_pos h0, h0]
      have HSZ := Lib.hid (show (bytesN m 10).size ≤ 140737488351232 from Nat.le_trans (bytes_mono m (show 10 ≤ 12 by decide)) (Nat.le_trans (right_size o1) (by decide)))
      have HR := Lib.hid o1
      have HM := Lib.hid o3
      have ML := Lib.hid (show mayE 1 m = if m.must ≠ 0 ∧ 9 < 12 then 4 else 0 by unfold mayE; rw [if_neg (by rintro (h | h); exact absurd h (by decide); rw [o1] at h; cases h)]; rfl)
      have hfit := HG.out.fit
      clear h0 o1 o3
      obtain ⟨sB, hsB⟩ : ∃ x, bytesN m 10 = x := ⟨_, rfl⟩
      rw [hsB] at HD HSZ ⊢
      clear hsB
      have ml := ML.out
      have hmu0 : m.must = 0 := HM.out.resolve_right (by decide)
      rw [if_neg (fun h => h.1 hmu0)] at ml
      have hcr : ¬ false = true := by decide
      obtain ⟨lf, hlf⟩ : ∃ x, 0 + bN (hasB m 10 = true) = x := ⟨_, rfl⟩
      have HLE := Lib.hid hlf
      have HDQ := Lib.hid (show decM 1 sB = (projS 1 m, lf, 0) from HD.out.trans ((if_neg hcr).trans (by rw [hlf, ← restr_proj ml]; rfl)))
      have PRJ := Lib.hid (fun (W : World) (hw : Wrs W A n m.ws) => PR.out HZ.out W hw)
      simp only [ml, if_pos (show (0 : Nat) = 0 from rfl)] at PRJ
      clear ml hcr hlf
      go_wp2_with fail
      refine (dec_is HDQ.out _ HSZ.out).mono ?_
      rintro e w4 ⟨A4, c4, rfl, hw4, hb⟩
      replace HB := Lib.hid (HB.out.trans (hb.mono HB.out.size)); replace HW := Lib.hid (HW.out.below hb); replace HP := Lib.hid (blk_below HP.out hb); clear hb
      have HW4 := Lib.hid hw4; clear hw4
      have I4 := Lib.hid (info_msg.trans (congrArg some (arr_size (projS 1 m) A4 (projS 1 m).ws.length c4).1.symm))
      have S4 := Lib.hid (show 17 = ((projS 1 m).arr A4 (projS 1 m).ws.length c4).size from (arr_size (projS 1 m) A4 (projS 1 m).ws.length c4).1.symm)
      have O4 := Lib.hid (arr_size (projS 1 m) A4 (projS 1 m).ws.length c4).2
      have SM := Lib.hid (fun W (hw : Wrs W A4 (projS 1 m).ws.length (projS 1 m).ws) (hw2 : Wrs W A n m.ws) => (show Calls Try.prog 15 #[.agg ((projS 1 m).arr A4 (projS 1 m).ws.length c4), .agg ((projS 1 m).arr A n c)] W fun e w' => e = .returned (.bool true) ∧ Below W.heap.size W w' from by
          have h := same_any (projS 1 m) (projS 1 m) A4 A (projS 1 m).ws.length c4 n c W (projS_fit hfit) (projS_fit hfit) hw hw2
          rw [beq_self_eq_true] at h
          exact h))
      generalize (projS 1 m).arr A4 (projS 1 m).ws.length c4 = arrX at *
      go_wp2_with (first | refine gate_guard (by rfl) (wpList_load_row rfl 29 _ rfl pp rfl 29 arrM (0, 0) _ HP.out Try.underlying29 rfl IM.out ?_) | refine wpList_load_row rfl 29 _ rfl pp rfl 29 arrM (0, 0) _ HP.out Try.underlying29 rfl IM.out ?_ | (refine wpList_store_row rfl 29 _ _ rfl w4.heap.size arrX rfl rfl 29 _ (blk_new w4 _) I4.out S4.out O4.out ?_; refine gate_world (F := fun w' => Hid (w'.heap[w4.heap.size]? = some (.cells arrX 29 (0, 0))) ∧ Hid (Below w4.heap.size w4 w')) ⟨Lib.hid (setRow_heap _ _ _ arrX _ _ (blk_new w4 _)), Lib.hid (below_setRow (below_alloc (Below.refl _ w4) _) (Nat.le_refl _) arrX)⟩ ?_; rintro w5 ⟨HX, hb⟩; have hb := hb.out; replace HB := Lib.hid (HB.out.trans (hb.mono HB.out.size)); replace HW := Lib.hid (HW.out.below hb); replace HP := Lib.hid (blk_below HP.out hb); replace HW4 := Lib.hid (HW4.out.below hb); clear hb) | fail)
      have HX4 := Lib.hid HX.out
      refine (PRJ.out _ HW.out).mono ?_
      rintro e w6 ⟨rfl, hb⟩
      replace HB := Lib.hid (HB.out.trans (hb.mono HB.out.size)); replace HW := Lib.hid (HW.out.below hb); replace HP := Lib.hid (blk_below HP.out hb); replace HW4 := Lib.hid (HW4.out.below hb); replace HX := Lib.hid (blk_below HX.out hb); clear hb HX4
      obtain ⟨gx, hgx⟩ : ∃ x, w4.heap.size = x := ⟨_, rfl⟩
      rw [hgx] at HX ⊢
      clear hgx
      have I6 := Lib.hid (info_msg.trans (congrArg some (arr_size (projS 1 m) A n c).1.symm))
      have S6 := Lib.hid (show 17 = ((projS 1 m).arr A n c).size from (arr_size (projS 1 m) A n c).1.symm)
      have O6 := Lib.hid (arr_size (projS 1 m) A n c).2
      generalize (projS 1 m).arr A n c = arrW at *
      have c14 : w6.cell? ⟨pp, 14, none⟩ = some (.string m.note) := (blk_cell HP.out 14).trans A14.out
      have c15 : w6.cell? ⟨pp, 15, none⟩ = some (.int .u64 (m.hint : Int)) := (blk_cell HP.out 15).trans A15.out
      have hpl := blk_lt HP.out
      by_cases hnb : m.note.size = 0
      · have e14 : m.note.toList.isEmpty = true := by rw [str_e]; exact decide_eq_true hnb
        have n14 : bN (hasB m 10 = true) = 0 := by rw [has10]; unfold bN; simp [hnb]
        by_cases hhb : m.hint = 0
        · have e15 : ((m.hint : Int) == 0) = true := beq_iff_eq.2 (by omega)
          have e15n : (m.hint == 0) = true := beq_iff_eq.2 hhb
          have n15 : bN (hasB m 11 = true) = 0 := by rw [has11]; unfold bN; simp [hhb]
          have hle := HLE.out
          rw [n14] at hle
          have z1 : ((lf : Int) == 0) = true := beq_iff_eq.2 (by omega)
          have z2 : (lf == 0) = true := beq_iff_eq.2 (by omega)
          clear hle
          have HNB := Lib.hid hnb; have HHB := Lib.hid hhb; clear hnb hhb n14 n15
          go_wp2_with (first | refine gate_guard (by rfl) (wpList_load_row rfl 29 _ rfl pp rfl 29 arrM (0, 0) _ HP.out Try.underlying29 rfl IM.out ?_) | refine wpList_load_row rfl 29 _ rfl pp rfl 29 arrM (0, 0) _ HP.out Try.underlying29 rfl IM.out ?_ | (refine wpList_store_row rfl 29 _ _ rfl w6.heap.size arrW rfl rfl 29 _ (blk_new w6 _) I6.out S6.out O6.out ?_; refine gate_world (F := fun w' => Hid (w'.heap[w6.heap.size]? = some (.cells arrW 29 (0, 0))) ∧ Hid (Below w6.heap.size w6 w')) ⟨Lib.hid (setRow_heap _ _ _ arrW _ _ (blk_new w6 _)), Lib.hid (below_setRow (below_alloc (Below.refl _ w6) _) (Nat.le_refl _) arrW)⟩ ?_; rintro w7 ⟨HV, hb⟩; have hb := hb.out; have c14 := (hb.cell (p := ⟨pp, 14, none⟩) hpl).trans c14; have c15 := (hb.cell (p := ⟨pp, 15, none⟩) hpl).trans c15; replace HB := Lib.hid (HB.out.trans (hb.mono HB.out.size)); replace HW := Lib.hid (HW.out.below hb); replace HP := Lib.hid (blk_below HP.out hb); replace HW4 := Lib.hid (HW4.out.below hb); replace HX := Lib.hid (blk_below HX.out hb); clear hb) | refine gate_guard (by rfl) (wpList_load_row rfl 29 _ rfl gx rfl 29 arrX (0, 0) _ HX.out Try.underlying29 rfl I4.out ?_) | refine wpList_load_row rfl 29 _ rfl gx rfl 29 arrX (0, 0) _ HX.out Try.underlying29 rfl I4.out ?_ | refine gate_guard (by rfl) (wpList_load_row rfl 29 _ rfl w6.heap.size rfl 29 arrW (0, 0) _ HV.out Try.underlying29 rfl I6.out ?_) | refine wpList_load_row rfl 29 _ rfl w6.heap.size rfl 29 arrW (0, 0) _ HV.out Try.underlying29 rfl I6.out ?_ | fail)
          refine (NG.out _).mono ?_
          rintro e w8 ⟨rfl, rfl⟩
          go_wp2_with (first | refine gate_guard (by rfl) (wpList_load_row rfl 29 _ rfl gx rfl 29 arrX (0, 0) _ HX.out Try.underlying29 rfl I4.out ?_) | refine wpList_load_row rfl 29 _ rfl gx rfl 29 arrX (0, 0) _ HX.out Try.underlying29 rfl I4.out ?_ | refine gate_guard (by rfl) (wpList_load_row rfl 29 _ rfl w6.heap.size rfl 29 arrW (0, 0) _ HV.out Try.underlying29 rfl I6.out ?_) | refine wpList_load_row rfl 29 _ rfl w6.heap.size rfl 29 arrW (0, 0) _ HV.out Try.underlying29 rfl I6.out ?_ | fail)
          refine (SM.out _ HW4.out HW.out).mono ?_
          rintro e w8 ⟨rfl, hb⟩
          replace HB := Lib.hid (HB.out.trans (hb.mono HB.out.size))
          go_wp2
          go_ret
          first | exact ⟨rfl, HB.out⟩ | exact ⟨rfl, HPP.out ▸ HB.out⟩
        · have e15 : ((m.hint : Int) == 0) = false := beq_eq_false_iff_ne.2 (by omega)
          have e15n : (m.hint == 0) = false := beq_eq_false_iff_ne.2 hhb
          have n15 : bN (hasB m 11 = true) = 1 := by rw [has11]; unfold bN; simp [hhb]
          have hle := HLE.out
          rw [n14] at hle
          have z1 : ((lf : Int) == 0) = true := beq_iff_eq.2 (by omega)
          have z2 : (lf == 0) = true := beq_iff_eq.2 (by omega)
          clear hle
          have HNB := Lib.hid hnb; have HHB := Lib.hid hhb; clear hnb hhb n14 n15
          go_wp2_with (first | refine gate_guard (by rfl) (wpList_load_row rfl 29 _ rfl pp rfl 29 arrM (0, 0) _ HP.out Try.underlying29 rfl IM.out ?_) | refine wpList_load_row rfl 29 _ rfl pp rfl 29 arrM (0, 0) _ HP.out Try.underlying29 rfl IM.out ?_ | (refine wpList_store_row rfl 29 _ _ rfl w6.heap.size arrW rfl rfl 29 _ (blk_new w6 _) I6.out S6.out O6.out ?_; refine gate_world (F := fun w' => Hid (w'.heap[w6.heap.size]? = some (.cells arrW 29 (0, 0))) ∧ Hid (Below w6.heap.size w6 w')) ⟨Lib.hid (setRow_heap _ _ _ arrW _ _ (blk_new w6 _)), Lib.hid (below_setRow (below_alloc (Below.refl _ w6) _) (Nat.le_refl _) arrW)⟩ ?_; rintro w7 ⟨HV, hb⟩; have hb := hb.out; have c14 := (hb.cell (p := ⟨pp, 14, none⟩) hpl).trans c14; have c15 := (hb.cell (p := ⟨pp, 15, none⟩) hpl).trans c15; replace HB := Lib.hid (HB.out.trans (hb.mono HB.out.size)); replace HW := Lib.hid (HW.out.below hb); replace HP := Lib.hid (blk_below HP.out hb); replace HW4 := Lib.hid (HW4.out.below hb); replace HX := Lib.hid (blk_below HX.out hb); clear hb) | refine gate_guard (by rfl) (wpList_load_row rfl 29 _ rfl gx rfl 29 arrX (0, 0) _ HX.out Try.underlying29 rfl I4.out ?_) | refine wpList_load_row rfl 29 _ rfl gx rfl 29 arrX (0, 0) _ HX.out Try.underlying29 rfl I4.out ?_ | refine gate_guard (by rfl) (wpList_load_row rfl 29 _ rfl w6.heap.size rfl 29 arrW (0, 0) _ HV.out Try.underlying29 rfl I6.out ?_) | refine wpList_load_row rfl 29 _ rfl w6.heap.size rfl 29 arrW (0, 0) _ HV.out Try.underlying29 rfl I6.out ?_ | fail)
          refine (NG.out _).mono ?_
          rintro e w8 ⟨rfl, rfl⟩
          go_wp2_with (first | refine gate_guard (by rfl) (wpList_load_row rfl 29 _ rfl gx rfl 29 arrX (0, 0) _ HX.out Try.underlying29 rfl I4.out ?_) | refine wpList_load_row rfl 29 _ rfl gx rfl 29 arrX (0, 0) _ HX.out Try.underlying29 rfl I4.out ?_ | refine gate_guard (by rfl) (wpList_load_row rfl 29 _ rfl w6.heap.size rfl 29 arrW (0, 0) _ HV.out Try.underlying29 rfl I6.out ?_) | refine wpList_load_row rfl 29 _ rfl w6.heap.size rfl 29 arrW (0, 0) _ HV.out Try.underlying29 rfl I6.out ?_ | fail)
          refine (SM.out _ HW4.out HW.out).mono ?_
          rintro e w8 ⟨rfl, hb⟩
          replace HB := Lib.hid (HB.out.trans (hb.mono HB.out.size))
          go_wp2
          go_ret
          first | exact ⟨rfl, HB.out⟩ | exact ⟨rfl, HPP.out ▸ HB.out⟩
      · have e14 : m.note.toList.isEmpty = false := by rw [str_e]; exact decide_eq_false hnb
        have n14 : bN (hasB m 10 = true) = 1 := by rw [has10]; unfold bN; simp [hnb]
        by_cases hhb : m.hint = 0
        · have e15 : ((m.hint : Int) == 0) = true := beq_iff_eq.2 (by omega)
          have e15n : (m.hint == 0) = true := beq_iff_eq.2 hhb
          have n15 : bN (hasB m 11 = true) = 0 := by rw [has11]; unfold bN; simp [hhb]
          have hle := HLE.out
          rw [n14] at hle
          have z1 : ((lf : Int) == 1) = true := beq_iff_eq.2 (by omega)
          have z2 : (lf == 1) = true := beq_iff_eq.2 (by omega)
          clear hle
          have HNB := Lib.hid hnb; have HHB := Lib.hid hhb; clear hnb hhb n14 n15
          go_wp2_with (first | refine gate_guard (by rfl) (wpList_load_row rfl 29 _ rfl pp rfl 29 arrM (0, 0) _ HP.out Try.underlying29 rfl IM.out ?_) | refine wpList_load_row rfl 29 _ rfl pp rfl 29 arrM (0, 0) _ HP.out Try.underlying29 rfl IM.out ?_ | (refine wpList_store_row rfl 29 _ _ rfl w6.heap.size arrW rfl rfl 29 _ (blk_new w6 _) I6.out S6.out O6.out ?_; refine gate_world (F := fun w' => Hid (w'.heap[w6.heap.size]? = some (.cells arrW 29 (0, 0))) ∧ Hid (Below w6.heap.size w6 w')) ⟨Lib.hid (setRow_heap _ _ _ arrW _ _ (blk_new w6 _)), Lib.hid (below_setRow (below_alloc (Below.refl _ w6) _) (Nat.le_refl _) arrW)⟩ ?_; rintro w7 ⟨HV, hb⟩; have hb := hb.out; have c14 := (hb.cell (p := ⟨pp, 14, none⟩) hpl).trans c14; have c15 := (hb.cell (p := ⟨pp, 15, none⟩) hpl).trans c15; replace HB := Lib.hid (HB.out.trans (hb.mono HB.out.size)); replace HW := Lib.hid (HW.out.below hb); replace HP := Lib.hid (blk_below HP.out hb); replace HW4 := Lib.hid (HW4.out.below hb); replace HX := Lib.hid (blk_below HX.out hb); clear hb) | refine gate_guard (by rfl) (wpList_load_row rfl 29 _ rfl gx rfl 29 arrX (0, 0) _ HX.out Try.underlying29 rfl I4.out ?_) | refine wpList_load_row rfl 29 _ rfl gx rfl 29 arrX (0, 0) _ HX.out Try.underlying29 rfl I4.out ?_ | refine gate_guard (by rfl) (wpList_load_row rfl 29 _ rfl w6.heap.size rfl 29 arrW (0, 0) _ HV.out Try.underlying29 rfl I6.out ?_) | refine wpList_load_row rfl 29 _ rfl w6.heap.size rfl 29 arrW (0, 0) _ HV.out Try.underlying29 rfl I6.out ?_ | fail)
          refine (NG.out _).mono ?_
          rintro e w8 ⟨rfl, rfl⟩
          go_wp2_with (first | refine gate_guard (by rfl) (wpList_load_row rfl 29 _ rfl gx rfl 29 arrX (0, 0) _ HX.out Try.underlying29 rfl I4.out ?_) | refine wpList_load_row rfl 29 _ rfl gx rfl 29 arrX (0, 0) _ HX.out Try.underlying29 rfl I4.out ?_ | refine gate_guard (by rfl) (wpList_load_row rfl 29 _ rfl w6.heap.size rfl 29 arrW (0, 0) _ HV.out Try.underlying29 rfl I6.out ?_) | refine wpList_load_row rfl 29 _ rfl w6.heap.size rfl 29 arrW (0, 0) _ HV.out Try.underlying29 rfl I6.out ?_ | fail)
          refine (SM.out _ HW4.out HW.out).mono ?_
          rintro e w8 ⟨rfl, hb⟩
          replace HB := Lib.hid (HB.out.trans (hb.mono HB.out.size))
          go_wp2
          go_ret
          first | exact ⟨rfl, HB.out⟩ | exact ⟨rfl, HPP.out ▸ HB.out⟩
        · have e15 : ((m.hint : Int) == 0) = false := beq_eq_false_iff_ne.2 (by omega)
          have e15n : (m.hint == 0) = false := beq_eq_false_iff_ne.2 hhb
          have n15 : bN (hasB m 11 = true) = 1 := by rw [has11]; unfold bN; simp [hhb]
          have hle := HLE.out
          rw [n14] at hle
          have z1 : ((lf : Int) == 1) = true := beq_iff_eq.2 (by omega)
          have z2 : (lf == 1) = true := beq_iff_eq.2 (by omega)
          clear hle
          have HNB := Lib.hid hnb; have HHB := Lib.hid hhb; clear hnb hhb n14 n15
          go_wp2_with (first | refine gate_guard (by rfl) (wpList_load_row rfl 29 _ rfl pp rfl 29 arrM (0, 0) _ HP.out Try.underlying29 rfl IM.out ?_) | refine wpList_load_row rfl 29 _ rfl pp rfl 29 arrM (0, 0) _ HP.out Try.underlying29 rfl IM.out ?_ | (refine wpList_store_row rfl 29 _ _ rfl w6.heap.size arrW rfl rfl 29 _ (blk_new w6 _) I6.out S6.out O6.out ?_; refine gate_world (F := fun w' => Hid (w'.heap[w6.heap.size]? = some (.cells arrW 29 (0, 0))) ∧ Hid (Below w6.heap.size w6 w')) ⟨Lib.hid (setRow_heap _ _ _ arrW _ _ (blk_new w6 _)), Lib.hid (below_setRow (below_alloc (Below.refl _ w6) _) (Nat.le_refl _) arrW)⟩ ?_; rintro w7 ⟨HV, hb⟩; have hb := hb.out; have c14 := (hb.cell (p := ⟨pp, 14, none⟩) hpl).trans c14; have c15 := (hb.cell (p := ⟨pp, 15, none⟩) hpl).trans c15; replace HB := Lib.hid (HB.out.trans (hb.mono HB.out.size)); replace HW := Lib.hid (HW.out.below hb); replace HP := Lib.hid (blk_below HP.out hb); replace HW4 := Lib.hid (HW4.out.below hb); replace HX := Lib.hid (blk_below HX.out hb); clear hb) | refine gate_guard (by rfl) (wpList_load_row rfl 29 _ rfl gx rfl 29 arrX (0, 0) _ HX.out Try.underlying29 rfl I4.out ?_) | refine wpList_load_row rfl 29 _ rfl gx rfl 29 arrX (0, 0) _ HX.out Try.underlying29 rfl I4.out ?_ | refine gate_guard (by rfl) (wpList_load_row rfl 29 _ rfl w6.heap.size rfl 29 arrW (0, 0) _ HV.out Try.underlying29 rfl I6.out ?_) | refine wpList_load_row rfl 29 _ rfl w6.heap.size rfl 29 arrW (0, 0) _ HV.out Try.underlying29 rfl I6.out ?_ | fail)
          refine (NG.out _).mono ?_
          rintro e w8 ⟨rfl, rfl⟩
          go_wp2_with (first | refine gate_guard (by rfl) (wpList_load_row rfl 29 _ rfl gx rfl 29 arrX (0, 0) _ HX.out Try.underlying29 rfl I4.out ?_) | refine wpList_load_row rfl 29 _ rfl gx rfl 29 arrX (0, 0) _ HX.out Try.underlying29 rfl I4.out ?_ | refine gate_guard (by rfl) (wpList_load_row rfl 29 _ rfl w6.heap.size rfl 29 arrW (0, 0) _ HV.out Try.underlying29 rfl I6.out ?_) | refine wpList_load_row rfl 29 _ rfl w6.heap.size rfl 29 arrW (0, 0) _ HV.out Try.underlying29 rfl I6.out ?_ | fail)
          refine (SM.out _ HW4.out HW.out).mono ?_
          rintro e w8 ⟨rfl, hb⟩
          replace HB := Lib.hid (HB.out.trans (hb.mono HB.out.size))
          go_wp2
          go_ret
          first | exact ⟨rfl, HB.out⟩ | exact ⟨rfl, HPP.out ▸ HB.out⟩
    · have y0 : ((mayE 2 m : Int) == 0) = false := beq_eq_false_iff_ne.2 (by omega)
      have y0n : (mayE 2 m == 0) = false := beq_eq_false_iff_ne.2 h0
      go_wp2
      go_ret
      first | exact ⟨rfl, HB.out⟩ | exact ⟨rfl, HPP.out ▸ HB.out⟩
set_option maxRecDepth 100000 in
set_option maxHeartbeats 16000000 in
theorem msg_back_22 (m : MsgS) (A : Option Addr) (n c : Nat) (v u : Nat) (w : World) (hw : Wrs w A n m.ws) (hn : n ≤ 140737488351232) (hi : m.In) (hv : v % 3 = 1) (hu : u % 3 = 1) :
    Calls Try.prog 4 #[.agg (m.arr A n c), .int .u8 (v : Int), .int .u8 (u : Int)] w fun e w' => e = .returned (.bool true) ∧ Below w.heap.size w w' := by
  have x1 : (v : Int) % 3 = 1 := by omega
  have x2 : Int.tmod (v : Int) 3 = 1 := by rw [Int.tmod_eq_emod_of_nonneg (by omega)]; exact x1
  have x3 : (u : Int) % 3 = 1 := by omega
  have x4 : Int.tmod (u : Int) 3 = 1 := by rw [Int.tmod_eq_emod_of_nonneg (by omega)]; exact x3
  have FW := Lib.hid (fun (w : World) (hw : Wrs w A n m.ws) => fewm_any m A n c w hw hn hi.key hi.note hi.value)
  have AW := Lib.hid (fun w => awake05 w)
  have hb1 := below_alloc (Below.refl _ w) (.cells (m.arr A n c) 29)
  have HW := Lib.hid (hw.below hb1)
  have HB := Lib.hid hb1
  have HP := Lib.hid (blk_new w (.cells (m.arr A n c) 29))
  have IM := Lib.hid (info_msg.trans (congrArg some (arr_size m A n c).1.symm))
  have EN := Lib.hid (fun (z : m.Z) (w : World) (hw : Wrs w A n m.ws) => encode_any 2 m A n c w z hw)
  have PR := Lib.hid (fun (z : m.Z) (w : World) (hw : Wrs w A n m.ws) => rproject_any 2 m A n c w z hw)
  have NG := Lib.hid (show ∀ W, Calls Try.prog 17 #[.int .i64 2, .int .i64 2] W fun e w' => e = .returned (.int .i64 2) ∧ W = w' from fun W => negotiate_any 2 2 W)
  have A14 := Lib.hid (show (m.arr A n c)[14]? = some (.string m.note) from rfl)
  have A15 := Lib.hid (show (m.arr A n c)[15]? = some (.int .u64 (m.hint : Int)) from rfl)
  obtain ⟨fb, hfb⟩ : ∃ x, fewB m = x := ⟨_, rfl⟩
  rw [hfb] at FW
  have HZ := Lib.hid (show fb = true → m.Z from fun h => hi.z (fewB_few (hfb.trans h)))
  clear hw hb1 hi hfb hv hu
  generalize hMM : m.arr A n c = arrM at *
  have HMM := Lib.hid hMM; clear hMM
  go_enter Try.func4, Try.ntmps4
  go_wp2_with fail
  refine (AW.out _).mono ?_
  rintro e w1 ⟨rfl, hb⟩
  replace HB := Lib.hid (HB.out.trans (hb.mono HB.out.size)); replace HW := Lib.hid (HW.out.below hb); replace HP := Lib.hid (blk_below HP.out hb); clear hb
  obtain ⟨pp, hpp⟩ : ∃ pp, w.heap.size = pp := ⟨_, rfl⟩
  rw [hpp] at HP ⊢
  have HPP := Lib.hid hpp; clear hpp
  go_wp2_with (first | refine gate_guard (by rfl) (wpList_load_row rfl 29 _ rfl pp rfl 29 arrM (0, 0) _ HP.out Try.underlying29 rfl IM.out ?_) | refine wpList_load_row rfl 29 _ rfl pp rfl 29 arrM (0, 0) _ HP.out Try.underlying29 rfl IM.out ?_ | fail)
  refine (FW.out _ HW.out).mono ?_
  rintro e w2 ⟨rfl, hb⟩
  replace HB := Lib.hid (HB.out.trans (hb.mono HB.out.size)); replace HW := Lib.hid (HW.out.below hb); replace HP := Lib.hid (blk_below HP.out hb); clear hb
  cases fb with
  | false =>
    go_wp2_with fail
    refine (AW.out _).mono ?_
    rintro e w3 ⟨rfl, hb⟩
    replace HB := Lib.hid (HB.out.trans (hb.mono HB.out.size))
    go_wp2
    go_ret
    first | exact ⟨rfl, HB.out⟩ | exact ⟨rfl, HPP.out ▸ HB.out⟩
  | true =>
    replace HZ := Lib.hid (HZ.out rfl)
    go_wp2_with (first | refine gate_guard (by rfl) (wpList_load_row rfl 29 _ rfl pp rfl 29 arrM (0, 0) _ HP.out Try.underlying29 rfl IM.out ?_) | refine wpList_load_row rfl 29 _ rfl pp rfl 29 arrM (0, 0) _ HP.out Try.underlying29 rfl IM.out ?_ | fail)
    refine (EN.out HZ.out _ HW.out).mono ?_
    rintro e w3 ⟨rfl, hb⟩
    replace HB := Lib.hid (HB.out.trans (hb.mono HB.out.size)); replace HW := Lib.hid (HW.out.below hb); replace HP := Lib.hid (blk_below HP.out hb); clear hb
    by_cases h0 : mayE 2 m = 0
    · obtain ⟨o1, -, o3⟩ := may_ok h0
      have HG := Lib.hid (right_good HZ.out o1)
      have HD := Lib.hid (dec_back HG.out o1 (v := 2) (hi := 10) (by decide) (by decide) (by decide))
      rw [show knownS 2 = 10 from rfl, crit_2_2, left_2_2] at HD
      rw [show encS 2 m = bytesN m 10 from if_pos h0, h0]
      have HSZ := Lib.hid (show (bytesN m 10).size ≤ 140737488351232 from Nat.le_trans (bytes_mono m (show 10 ≤ 12 by decide)) (Nat.le_trans (right_size o1) (by decide)))
      have HR := Lib.hid o1
      have HM := Lib.hid o3
      have ML := Lib.hid (show mayE 2 m = if m.must ≠ 0 ∧ 10 < 12 then 4 else 0 by unfold mayE; rw [if_neg (by rintro (h | h); exact absurd h (by decide); rw [o1] at h; cases h)]; rfl)
      have hfit := HG.out.fit
      clear h0 o1 o3
      obtain ⟨sB, hsB⟩ : ∃ x, bytesN m 10 = x := ⟨_, rfl⟩
      rw [hsB] at HD HSZ ⊢
      clear hsB
      have ml := ML.out
      have hmu0 : m.must = 0 := HM.out.resolve_right (by decide)
      rw [if_neg (fun h => h.1 hmu0)] at ml
      have hcr : ¬ false = true := by decide
      obtain ⟨lf, hlf⟩ : ∃ x, 0 = x := ⟨_, rfl⟩
      have HLE := Lib.hid hlf
      have HDQ := Lib.hid (show decM 2 sB = (projS 2 m, lf, 0) from HD.out.trans ((if_neg hcr).trans (by rw [hlf, ← restr_proj ml]; rfl)))
      have PRJ := Lib.hid (fun (W : World) (hw : Wrs W A n m.ws) => PR.out HZ.out W hw)
      simp only [ml, if_pos (show (0 : Nat) = 0 from rfl)] at PRJ
      clear ml hcr hlf
      go_wp2_with fail
      refine (dec_is HDQ.out _ HSZ.out).mono ?_
      rintro e w4 ⟨A4, c4, rfl, hw4, hb⟩
      replace HB := Lib.hid (HB.out.trans (hb.mono HB.out.size)); replace HW := Lib.hid (HW.out.below hb); replace HP := Lib.hid (blk_below HP.out hb); clear hb
      have HW4 := Lib.hid hw4; clear hw4
      have I4 := Lib.hid (info_msg.trans (congrArg some (arr_size (projS 2 m) A4 (projS 2 m).ws.length c4).1.symm))
      have S4 := Lib.hid (show 17 = ((projS 2 m).arr A4 (projS 2 m).ws.length c4).size from (arr_size (projS 2 m) A4 (projS 2 m).ws.length c4).1.symm)
      have O4 := Lib.hid (arr_size (projS 2 m) A4 (projS 2 m).ws.length c4).2
      have SM := Lib.hid (fun W (hw : Wrs W A4 (projS 2 m).ws.length (projS 2 m).ws) (hw2 : Wrs W A n m.ws) => (show Calls Try.prog 15 #[.agg ((projS 2 m).arr A4 (projS 2 m).ws.length c4), .agg ((projS 2 m).arr A n c)] W fun e w' => e = .returned (.bool true) ∧ Below W.heap.size W w' from by
          have h := same_any (projS 2 m) (projS 2 m) A4 A (projS 2 m).ws.length c4 n c W (projS_fit hfit) (projS_fit hfit) hw hw2
          rw [beq_self_eq_true] at h
          exact h))
      generalize (projS 2 m).arr A4 (projS 2 m).ws.length c4 = arrX at *
      go_wp2_with (first | refine gate_guard (by rfl) (wpList_load_row rfl 29 _ rfl pp rfl 29 arrM (0, 0) _ HP.out Try.underlying29 rfl IM.out ?_) | refine wpList_load_row rfl 29 _ rfl pp rfl 29 arrM (0, 0) _ HP.out Try.underlying29 rfl IM.out ?_ | (refine wpList_store_row rfl 29 _ _ rfl w4.heap.size arrX rfl rfl 29 _ (blk_new w4 _) I4.out S4.out O4.out ?_; refine gate_world (F := fun w' => Hid (w'.heap[w4.heap.size]? = some (.cells arrX 29 (0, 0))) ∧ Hid (Below w4.heap.size w4 w')) ⟨Lib.hid (setRow_heap _ _ _ arrX _ _ (blk_new w4 _)), Lib.hid (below_setRow (below_alloc (Below.refl _ w4) _) (Nat.le_refl _) arrX)⟩ ?_; rintro w5 ⟨HX, hb⟩; have hb := hb.out; replace HB := Lib.hid (HB.out.trans (hb.mono HB.out.size)); replace HW := Lib.hid (HW.out.below hb); replace HP := Lib.hid (blk_below HP.out hb); replace HW4 := Lib.hid (HW4.out.below hb); clear hb) | fail)
      have HX4 := Lib.hid HX.out
      refine (PRJ.out _ HW.out).mono ?_
      rintro e w6 ⟨rfl, hb⟩
      replace HB := Lib.hid (HB.out.trans (hb.mono HB.out.size)); replace HW := Lib.hid (HW.out.below hb); replace HP := Lib.hid (blk_below HP.out hb); replace HW4 := Lib.hid (HW4.out.below hb); replace HX := Lib.hid (blk_below HX.out hb); clear hb HX4
      obtain ⟨gx, hgx⟩ : ∃ x, w4.heap.size = x := ⟨_, rfl⟩
      rw [hgx] at HX ⊢
      clear hgx
      have I6 := Lib.hid (info_msg.trans (congrArg some (arr_size (projS 2 m) A n c).1.symm))
      have S6 := Lib.hid (show 17 = ((projS 2 m).arr A n c).size from (arr_size (projS 2 m) A n c).1.symm)
      have O6 := Lib.hid (arr_size (projS 2 m) A n c).2
      generalize (projS 2 m).arr A n c = arrW at *
      have c14 : w6.cell? ⟨pp, 14, none⟩ = some (.string m.note) := (blk_cell HP.out 14).trans A14.out
      have c15 : w6.cell? ⟨pp, 15, none⟩ = some (.int .u64 (m.hint : Int)) := (blk_cell HP.out 15).trans A15.out
      have hpl := blk_lt HP.out
      by_cases hnb : m.note.size = 0
      · have e14 : m.note.toList.isEmpty = true := by rw [str_e]; exact decide_eq_true hnb
        have n14 : bN (hasB m 10 = true) = 0 := by rw [has10]; unfold bN; simp [hnb]
        by_cases hhb : m.hint = 0
        · have e15 : ((m.hint : Int) == 0) = true := beq_iff_eq.2 (by omega)
          have e15n : (m.hint == 0) = true := beq_iff_eq.2 hhb
          have n15 : bN (hasB m 11 = true) = 0 := by rw [has11]; unfold bN; simp [hhb]
          have hle := HLE.out
          have z1 : ((lf : Int) == 0) = true := beq_iff_eq.2 (by omega)
          have z2 : (lf == 0) = true := beq_iff_eq.2 (by omega)
          clear hle
          have HNB := Lib.hid hnb; have HHB := Lib.hid hhb; clear hnb hhb n14 n15
          go_wp2_with (first | refine gate_guard (by rfl) (wpList_load_row rfl 29 _ rfl pp rfl 29 arrM (0, 0) _ HP.out Try.underlying29 rfl IM.out ?_) | refine wpList_load_row rfl 29 _ rfl pp rfl 29 arrM (0, 0) _ HP.out Try.underlying29 rfl IM.out ?_ | (refine wpList_store_row rfl 29 _ _ rfl w6.heap.size arrW rfl rfl 29 _ (blk_new w6 _) I6.out S6.out O6.out ?_; refine gate_world (F := fun w' => Hid (w'.heap[w6.heap.size]? = some (.cells arrW 29 (0, 0))) ∧ Hid (Below w6.heap.size w6 w')) ⟨Lib.hid (setRow_heap _ _ _ arrW _ _ (blk_new w6 _)), Lib.hid (below_setRow (below_alloc (Below.refl _ w6) _) (Nat.le_refl _) arrW)⟩ ?_; rintro w7 ⟨HV, hb⟩; have hb := hb.out; have c14 := (hb.cell (p := ⟨pp, 14, none⟩) hpl).trans c14; have c15 := (hb.cell (p := ⟨pp, 15, none⟩) hpl).trans c15; replace HB := Lib.hid (HB.out.trans (hb.mono HB.out.size)); replace HW := Lib.hid (HW.out.below hb); replace HP := Lib.hid (blk_below HP.out hb); replace HW4 := Lib.hid (HW4.out.below hb); replace HX := Lib.hid (blk_below HX.out hb); clear hb) | refine gate_guard (by rfl) (wpList_load_row rfl 29 _ rfl gx rfl 29 arrX (0, 0) _ HX.out Try.underlying29 rfl I4.out ?_) | refine wpList_load_row rfl 29 _ rfl gx rfl 29 arrX (0, 0) _ HX.out Try.underlying29 rfl I4.out ?_ | refine gate_guard (by rfl) (wpList_load_row rfl 29 _ rfl w6.heap.size rfl 29 arrW (0, 0) _ HV.out Try.underlying29 rfl I6.out ?_) | refine wpList_load_row rfl 29 _ rfl w6.heap.size rfl 29 arrW (0, 0) _ HV.out Try.underlying29 rfl I6.out ?_ | fail)
          refine (NG.out _).mono ?_
          rintro e w8 ⟨rfl, rfl⟩
          go_wp2_with (first | refine gate_guard (by rfl) (wpList_load_row rfl 29 _ rfl gx rfl 29 arrX (0, 0) _ HX.out Try.underlying29 rfl I4.out ?_) | refine wpList_load_row rfl 29 _ rfl gx rfl 29 arrX (0, 0) _ HX.out Try.underlying29 rfl I4.out ?_ | refine gate_guard (by rfl) (wpList_load_row rfl 29 _ rfl w6.heap.size rfl 29 arrW (0, 0) _ HV.out Try.underlying29 rfl I6.out ?_) | refine wpList_load_row rfl 29 _ rfl w6.heap.size rfl 29 arrW (0, 0) _ HV.out Try.underlying29 rfl I6.out ?_ | fail)
          refine (SM.out _ HW4.out HW.out).mono ?_
          rintro e w8 ⟨rfl, hb⟩
          replace HB := Lib.hid (HB.out.trans (hb.mono HB.out.size))
          go_wp2
          go_ret
          first | exact ⟨rfl, HB.out⟩ | exact ⟨rfl, HPP.out ▸ HB.out⟩
        · have e15 : ((m.hint : Int) == 0) = false := beq_eq_false_iff_ne.2 (by omega)
          have e15n : (m.hint == 0) = false := beq_eq_false_iff_ne.2 hhb
          have n15 : bN (hasB m 11 = true) = 1 := by rw [has11]; unfold bN; simp [hhb]
          have hle := HLE.out
          have z1 : ((lf : Int) == 0) = true := beq_iff_eq.2 (by omega)
          have z2 : (lf == 0) = true := beq_iff_eq.2 (by omega)
          clear hle
          have HNB := Lib.hid hnb; have HHB := Lib.hid hhb; clear hnb hhb n14 n15
          go_wp2_with (first | refine gate_guard (by rfl) (wpList_load_row rfl 29 _ rfl pp rfl 29 arrM (0, 0) _ HP.out Try.underlying29 rfl IM.out ?_) | refine wpList_load_row rfl 29 _ rfl pp rfl 29 arrM (0, 0) _ HP.out Try.underlying29 rfl IM.out ?_ | (refine wpList_store_row rfl 29 _ _ rfl w6.heap.size arrW rfl rfl 29 _ (blk_new w6 _) I6.out S6.out O6.out ?_; refine gate_world (F := fun w' => Hid (w'.heap[w6.heap.size]? = some (.cells arrW 29 (0, 0))) ∧ Hid (Below w6.heap.size w6 w')) ⟨Lib.hid (setRow_heap _ _ _ arrW _ _ (blk_new w6 _)), Lib.hid (below_setRow (below_alloc (Below.refl _ w6) _) (Nat.le_refl _) arrW)⟩ ?_; rintro w7 ⟨HV, hb⟩; have hb := hb.out; have c14 := (hb.cell (p := ⟨pp, 14, none⟩) hpl).trans c14; have c15 := (hb.cell (p := ⟨pp, 15, none⟩) hpl).trans c15; replace HB := Lib.hid (HB.out.trans (hb.mono HB.out.size)); replace HW := Lib.hid (HW.out.below hb); replace HP := Lib.hid (blk_below HP.out hb); replace HW4 := Lib.hid (HW4.out.below hb); replace HX := Lib.hid (blk_below HX.out hb); clear hb) | refine gate_guard (by rfl) (wpList_load_row rfl 29 _ rfl gx rfl 29 arrX (0, 0) _ HX.out Try.underlying29 rfl I4.out ?_) | refine wpList_load_row rfl 29 _ rfl gx rfl 29 arrX (0, 0) _ HX.out Try.underlying29 rfl I4.out ?_ | refine gate_guard (by rfl) (wpList_load_row rfl 29 _ rfl w6.heap.size rfl 29 arrW (0, 0) _ HV.out Try.underlying29 rfl I6.out ?_) | refine wpList_load_row rfl 29 _ rfl w6.heap.size rfl 29 arrW (0, 0) _ HV.out Try.underlying29 rfl I6.out ?_ | fail)
          refine (NG.out _).mono ?_
          rintro e w8 ⟨rfl, rfl⟩
          go_wp2_with (first | refine gate_guard (by rfl) (wpList_load_row rfl 29 _ rfl gx rfl 29 arrX (0, 0) _ HX.out Try.underlying29 rfl I4.out ?_) | refine wpList_load_row rfl 29 _ rfl gx rfl 29 arrX (0, 0) _ HX.out Try.underlying29 rfl I4.out ?_ | refine gate_guard (by rfl) (wpList_load_row rfl 29 _ rfl w6.heap.size rfl 29 arrW (0, 0) _ HV.out Try.underlying29 rfl I6.out ?_) | refine wpList_load_row rfl 29 _ rfl w6.heap.size rfl 29 arrW (0, 0) _ HV.out Try.underlying29 rfl I6.out ?_ | fail)
          refine (SM.out _ HW4.out HW.out).mono ?_
          rintro e w8 ⟨rfl, hb⟩
          replace HB := Lib.hid (HB.out.trans (hb.mono HB.out.size))
          go_wp2
          go_ret
          first | exact ⟨rfl, HB.out⟩ | exact ⟨rfl, HPP.out ▸ HB.out⟩
      · have e14 : m.note.toList.isEmpty = false := by rw [str_e]; exact decide_eq_false hnb
        have n14 : bN (hasB m 10 = true) = 1 := by rw [has10]; unfold bN; simp [hnb]
        by_cases hhb : m.hint = 0
        · have e15 : ((m.hint : Int) == 0) = true := beq_iff_eq.2 (by omega)
          have e15n : (m.hint == 0) = true := beq_iff_eq.2 hhb
          have n15 : bN (hasB m 11 = true) = 0 := by rw [has11]; unfold bN; simp [hhb]
          have hle := HLE.out
          have z1 : ((lf : Int) == 0) = true := beq_iff_eq.2 (by omega)
          have z2 : (lf == 0) = true := beq_iff_eq.2 (by omega)
          clear hle
          have HNB := Lib.hid hnb; have HHB := Lib.hid hhb; clear hnb hhb n14 n15
          go_wp2_with (first | refine gate_guard (by rfl) (wpList_load_row rfl 29 _ rfl pp rfl 29 arrM (0, 0) _ HP.out Try.underlying29 rfl IM.out ?_) | refine wpList_load_row rfl 29 _ rfl pp rfl 29 arrM (0, 0) _ HP.out Try.underlying29 rfl IM.out ?_ | (refine wpList_store_row rfl 29 _ _ rfl w6.heap.size arrW rfl rfl 29 _ (blk_new w6 _) I6.out S6.out O6.out ?_; refine gate_world (F := fun w' => Hid (w'.heap[w6.heap.size]? = some (.cells arrW 29 (0, 0))) ∧ Hid (Below w6.heap.size w6 w')) ⟨Lib.hid (setRow_heap _ _ _ arrW _ _ (blk_new w6 _)), Lib.hid (below_setRow (below_alloc (Below.refl _ w6) _) (Nat.le_refl _) arrW)⟩ ?_; rintro w7 ⟨HV, hb⟩; have hb := hb.out; have c14 := (hb.cell (p := ⟨pp, 14, none⟩) hpl).trans c14; have c15 := (hb.cell (p := ⟨pp, 15, none⟩) hpl).trans c15; replace HB := Lib.hid (HB.out.trans (hb.mono HB.out.size)); replace HW := Lib.hid (HW.out.below hb); replace HP := Lib.hid (blk_below HP.out hb); replace HW4 := Lib.hid (HW4.out.below hb); replace HX := Lib.hid (blk_below HX.out hb); clear hb) | refine gate_guard (by rfl) (wpList_load_row rfl 29 _ rfl gx rfl 29 arrX (0, 0) _ HX.out Try.underlying29 rfl I4.out ?_) | refine wpList_load_row rfl 29 _ rfl gx rfl 29 arrX (0, 0) _ HX.out Try.underlying29 rfl I4.out ?_ | refine gate_guard (by rfl) (wpList_load_row rfl 29 _ rfl w6.heap.size rfl 29 arrW (0, 0) _ HV.out Try.underlying29 rfl I6.out ?_) | refine wpList_load_row rfl 29 _ rfl w6.heap.size rfl 29 arrW (0, 0) _ HV.out Try.underlying29 rfl I6.out ?_ | fail)
          refine (NG.out _).mono ?_
          rintro e w8 ⟨rfl, rfl⟩
          go_wp2_with (first | refine gate_guard (by rfl) (wpList_load_row rfl 29 _ rfl gx rfl 29 arrX (0, 0) _ HX.out Try.underlying29 rfl I4.out ?_) | refine wpList_load_row rfl 29 _ rfl gx rfl 29 arrX (0, 0) _ HX.out Try.underlying29 rfl I4.out ?_ | refine gate_guard (by rfl) (wpList_load_row rfl 29 _ rfl w6.heap.size rfl 29 arrW (0, 0) _ HV.out Try.underlying29 rfl I6.out ?_) | refine wpList_load_row rfl 29 _ rfl w6.heap.size rfl 29 arrW (0, 0) _ HV.out Try.underlying29 rfl I6.out ?_ | fail)
          refine (SM.out _ HW4.out HW.out).mono ?_
          rintro e w8 ⟨rfl, hb⟩
          replace HB := Lib.hid (HB.out.trans (hb.mono HB.out.size))
          go_wp2
          go_ret
          first | exact ⟨rfl, HB.out⟩ | exact ⟨rfl, HPP.out ▸ HB.out⟩
        · have e15 : ((m.hint : Int) == 0) = false := beq_eq_false_iff_ne.2 (by omega)
          have e15n : (m.hint == 0) = false := beq_eq_false_iff_ne.2 hhb
          have n15 : bN (hasB m 11 = true) = 1 := by rw [has11]; unfold bN; simp [hhb]
          have hle := HLE.out
          have z1 : ((lf : Int) == 0) = true := beq_iff_eq.2 (by omega)
          have z2 : (lf == 0) = true := beq_iff_eq.2 (by omega)
          clear hle
          have HNB := Lib.hid hnb; have HHB := Lib.hid hhb; clear hnb hhb n14 n15
          go_wp2_with (first | refine gate_guard (by rfl) (wpList_load_row rfl 29 _ rfl pp rfl 29 arrM (0, 0) _ HP.out Try.underlying29 rfl IM.out ?_) | refine wpList_load_row rfl 29 _ rfl pp rfl 29 arrM (0, 0) _ HP.out Try.underlying29 rfl IM.out ?_ | (refine wpList_store_row rfl 29 _ _ rfl w6.heap.size arrW rfl rfl 29 _ (blk_new w6 _) I6.out S6.out O6.out ?_; refine gate_world (F := fun w' => Hid (w'.heap[w6.heap.size]? = some (.cells arrW 29 (0, 0))) ∧ Hid (Below w6.heap.size w6 w')) ⟨Lib.hid (setRow_heap _ _ _ arrW _ _ (blk_new w6 _)), Lib.hid (below_setRow (below_alloc (Below.refl _ w6) _) (Nat.le_refl _) arrW)⟩ ?_; rintro w7 ⟨HV, hb⟩; have hb := hb.out; have c14 := (hb.cell (p := ⟨pp, 14, none⟩) hpl).trans c14; have c15 := (hb.cell (p := ⟨pp, 15, none⟩) hpl).trans c15; replace HB := Lib.hid (HB.out.trans (hb.mono HB.out.size)); replace HW := Lib.hid (HW.out.below hb); replace HP := Lib.hid (blk_below HP.out hb); replace HW4 := Lib.hid (HW4.out.below hb); replace HX := Lib.hid (blk_below HX.out hb); clear hb) | refine gate_guard (by rfl) (wpList_load_row rfl 29 _ rfl gx rfl 29 arrX (0, 0) _ HX.out Try.underlying29 rfl I4.out ?_) | refine wpList_load_row rfl 29 _ rfl gx rfl 29 arrX (0, 0) _ HX.out Try.underlying29 rfl I4.out ?_ | refine gate_guard (by rfl) (wpList_load_row rfl 29 _ rfl w6.heap.size rfl 29 arrW (0, 0) _ HV.out Try.underlying29 rfl I6.out ?_) | refine wpList_load_row rfl 29 _ rfl w6.heap.size rfl 29 arrW (0, 0) _ HV.out Try.underlying29 rfl I6.out ?_ | fail)
          refine (NG.out _).mono ?_
          rintro e w8 ⟨rfl, rfl⟩
          go_wp2_with (first | refine gate_guard (by rfl) (wpList_load_row rfl 29 _ rfl gx rfl 29 arrX (0, 0) _ HX.out Try.underlying29 rfl I4.out ?_) | refine wpList_load_row rfl 29 _ rfl gx rfl 29 arrX (0, 0) _ HX.out Try.underlying29 rfl I4.out ?_ | refine gate_guard (by rfl) (wpList_load_row rfl 29 _ rfl w6.heap.size rfl 29 arrW (0, 0) _ HV.out Try.underlying29 rfl I6.out ?_) | refine wpList_load_row rfl 29 _ rfl w6.heap.size rfl 29 arrW (0, 0) _ HV.out Try.underlying29 rfl I6.out ?_ | fail)
          refine (SM.out _ HW4.out HW.out).mono ?_
          rintro e w8 ⟨rfl, hb⟩
          replace HB := Lib.hid (HB.out.trans (hb.mono HB.out.size))
          go_wp2
          go_ret
          first | exact ⟨rfl, HB.out⟩ | exact ⟨rfl, HPP.out ▸ HB.out⟩
    · have y0 : ((mayE 2 m : Int) == 0) = false := beq_eq_false_iff_ne.2 (by omega)
      have y0n : (mayE 2 m == 0) = false := beq_eq_false_iff_ne.2 h0
      go_wp2
      go_ret
      first | exact ⟨rfl, HB.out⟩ | exact ⟨rfl, HPP.out ▸ HB.out⟩
set_option maxRecDepth 100000 in
set_option maxHeartbeats 16000000 in
theorem msg_back_23 (m : MsgS) (A : Option Addr) (n c : Nat) (v u : Nat) (w : World) (hw : Wrs w A n m.ws) (hn : n ≤ 140737488351232) (hi : m.In) (hv : v % 3 = 1) (hu : u % 3 = 2) :
    Calls Try.prog 4 #[.agg (m.arr A n c), .int .u8 (v : Int), .int .u8 (u : Int)] w fun e w' => e = .returned (.bool true) ∧ Below w.heap.size w w' := by
  have x1 : (v : Int) % 3 = 1 := by omega
  have x2 : Int.tmod (v : Int) 3 = 1 := by rw [Int.tmod_eq_emod_of_nonneg (by omega)]; exact x1
  have x3 : (u : Int) % 3 = 2 := by omega
  have x4 : Int.tmod (u : Int) 3 = 2 := by rw [Int.tmod_eq_emod_of_nonneg (by omega)]; exact x3
  have FW := Lib.hid (fun (w : World) (hw : Wrs w A n m.ws) => fewm_any m A n c w hw hn hi.key hi.note hi.value)
  have AW := Lib.hid (fun w => awake05 w)
  have hb1 := below_alloc (Below.refl _ w) (.cells (m.arr A n c) 29)
  have HW := Lib.hid (hw.below hb1)
  have HB := Lib.hid hb1
  have HP := Lib.hid (blk_new w (.cells (m.arr A n c) 29))
  have IM := Lib.hid (info_msg.trans (congrArg some (arr_size m A n c).1.symm))
  have EN := Lib.hid (fun (z : m.Z) (w : World) (hw : Wrs w A n m.ws) => encode_any 3 m A n c w z hw)
  have PR := Lib.hid (fun (z : m.Z) (w : World) (hw : Wrs w A n m.ws) => rproject_any 2 m A n c w z hw)
  have NG := Lib.hid (show ∀ W, Calls Try.prog 17 #[.int .i64 2, .int .i64 3] W fun e w' => e = .returned (.int .i64 2) ∧ W = w' from fun W => negotiate_any 2 3 W)
  have A14 := Lib.hid (show (m.arr A n c)[14]? = some (.string m.note) from rfl)
  have A15 := Lib.hid (show (m.arr A n c)[15]? = some (.int .u64 (m.hint : Int)) from rfl)
  obtain ⟨fb, hfb⟩ : ∃ x, fewB m = x := ⟨_, rfl⟩
  rw [hfb] at FW
  have HZ := Lib.hid (show fb = true → m.Z from fun h => hi.z (fewB_few (hfb.trans h)))
  clear hw hb1 hi hfb hv hu
  generalize hMM : m.arr A n c = arrM at *
  have HMM := Lib.hid hMM; clear hMM
  go_enter Try.func4, Try.ntmps4
  go_wp2_with fail
  refine (AW.out _).mono ?_
  rintro e w1 ⟨rfl, hb⟩
  replace HB := Lib.hid (HB.out.trans (hb.mono HB.out.size)); replace HW := Lib.hid (HW.out.below hb); replace HP := Lib.hid (blk_below HP.out hb); clear hb
  obtain ⟨pp, hpp⟩ : ∃ pp, w.heap.size = pp := ⟨_, rfl⟩
  rw [hpp] at HP ⊢
  have HPP := Lib.hid hpp; clear hpp
  go_wp2_with (first | refine gate_guard (by rfl) (wpList_load_row rfl 29 _ rfl pp rfl 29 arrM (0, 0) _ HP.out Try.underlying29 rfl IM.out ?_) | refine wpList_load_row rfl 29 _ rfl pp rfl 29 arrM (0, 0) _ HP.out Try.underlying29 rfl IM.out ?_ | fail)
  refine (FW.out _ HW.out).mono ?_
  rintro e w2 ⟨rfl, hb⟩
  replace HB := Lib.hid (HB.out.trans (hb.mono HB.out.size)); replace HW := Lib.hid (HW.out.below hb); replace HP := Lib.hid (blk_below HP.out hb); clear hb
  cases fb with
  | false =>
    go_wp2_with fail
    refine (AW.out _).mono ?_
    rintro e w3 ⟨rfl, hb⟩
    replace HB := Lib.hid (HB.out.trans (hb.mono HB.out.size))
    go_wp2
    go_ret
    first | exact ⟨rfl, HB.out⟩ | exact ⟨rfl, HPP.out ▸ HB.out⟩
  | true =>
    replace HZ := Lib.hid (HZ.out rfl)
    go_wp2_with (first | refine gate_guard (by rfl) (wpList_load_row rfl 29 _ rfl pp rfl 29 arrM (0, 0) _ HP.out Try.underlying29 rfl IM.out ?_) | refine wpList_load_row rfl 29 _ rfl pp rfl 29 arrM (0, 0) _ HP.out Try.underlying29 rfl IM.out ?_ | fail)
    refine (EN.out HZ.out _ HW.out).mono ?_
    rintro e w3 ⟨rfl, hb⟩
    replace HB := Lib.hid (HB.out.trans (hb.mono HB.out.size)); replace HW := Lib.hid (HW.out.below hb); replace HP := Lib.hid (blk_below HP.out hb); clear hb
    by_cases h0 : mayE 3 m = 0
    · obtain ⟨o1, -, o3⟩ := may_ok h0
      have HG := Lib.hid (right_good HZ.out o1)
      have HD := Lib.hid (dec_back HG.out o1 (v := 2) (hi := 12) (by decide) (by decide) (by decide))
      rw [show knownS 2 = 10 from rfl, crit_2_3, left_2_3] at HD
      rw [show encS 3 m = bytesN m 12 from if_pos h0, h0]
      have HSZ := Lib.hid (show (bytesN m 12).size ≤ 140737488351232 from Nat.le_trans (bytes_mono m (show 12 ≤ 12 by decide)) (Nat.le_trans (right_size o1) (by decide)))
      have HR := Lib.hid o1
      have HM := Lib.hid o3
      have ML := Lib.hid (show mayE 2 m = if m.must ≠ 0 ∧ 10 < 12 then 4 else 0 by unfold mayE; rw [if_neg (by rintro (h | h); exact absurd h (by decide); rw [o1] at h; cases h)]; rfl)
      have hfit := HG.out.fit
      clear h0 o1 o3
      obtain ⟨sB, hsB⟩ : ∃ x, bytesN m 12 = x := ⟨_, rfl⟩
      rw [hsB] at HD HSZ ⊢
      clear hsB
      by_cases hmu : m.must ≠ 0
      · have HDQ := Lib.hid (show decM 2 sB = (zeroM, 0, 4) from HD.out.trans (if_pos (by rw [has12]; exact decide_eq_true hmu)))
        have PRJ := Lib.hid (fun (W : World) (hw : Wrs W A n m.ws) => PR.out HZ.out W hw)
        have ml := ML.out
        rw [if_pos ⟨hmu, by decide⟩] at ml
        simp only [ml, if_neg (show ¬ (4 : Nat) = 0 by decide)] at PRJ
        clear ml
        go_wp2_with fail
        refine (dec_is HDQ.out _ HSZ.out).mono ?_
        rintro e w4 ⟨A4, c4, rfl, hw4, hb⟩
        replace HB := Lib.hid (HB.out.trans (hb.mono HB.out.size)); replace HW := Lib.hid (HW.out.below hb); replace HP := Lib.hid (blk_below HP.out hb); clear hb
        have HW4 := Lib.hid hw4; clear hw4
        have I4 := Lib.hid (info_msg.trans (congrArg some (arr_size zeroM A4 zeroM.ws.length c4).1.symm))
        have S4 := Lib.hid (show 17 = (zeroM.arr A4 zeroM.ws.length c4).size from (arr_size zeroM A4 zeroM.ws.length c4).1.symm)
        have O4 := Lib.hid (arr_size zeroM A4 zeroM.ws.length c4).2
        have SM := Lib.hid (show ∀ W, Calls Try.prog 15 #[.agg (zeroM.arr A4 zeroM.ws.length c4), .agg #[.int .i64 0, .int .i64 0, .int .i64 0, .int .i64 0, .int .i64 0, .int .i64 0, .int .u64 0, .int .u64 0, .string ⟨#[]⟩, .bool false, .int .u64 0, .bool false, .string ⟨#[]⟩, .slice none 0 0, .string ⟨#[]⟩, .int .u64 0, .int .u64 0]] W fun e w' => e = .returned (.bool true) ∧ Below W.heap.size W w' from fun W => by
            have h := same_any zeroM zeroM A4 none zeroM.ws.length c4 0 0 W zeroM_fit zeroM_fit ⟨rfl, fun h => absurd h (by decide)⟩ (Wrs.nil W)
            rw [beq_self_eq_true] at h
            exact h)
        generalize zeroM.arr A4 zeroM.ws.length c4 = arrX at *
        go_wp2_with (first | refine gate_guard (by rfl) (wpList_load_row rfl 29 _ rfl pp rfl 29 arrM (0, 0) _ HP.out Try.underlying29 rfl IM.out ?_) | refine wpList_load_row rfl 29 _ rfl pp rfl 29 arrM (0, 0) _ HP.out Try.underlying29 rfl IM.out ?_ | (refine wpList_store_row rfl 29 _ _ rfl w4.heap.size arrX rfl rfl 29 _ (blk_new w4 _) I4.out S4.out O4.out ?_; refine gate_world (F := fun w' => Hid (w'.heap[w4.heap.size]? = some (.cells arrX 29 (0, 0))) ∧ Hid (Below w4.heap.size w4 w')) ⟨Lib.hid (setRow_heap _ _ _ arrX _ _ (blk_new w4 _)), Lib.hid (below_setRow (below_alloc (Below.refl _ w4) _) (Nat.le_refl _) arrX)⟩ ?_; rintro w5 ⟨HX, hb⟩; have hb := hb.out; replace HB := Lib.hid (HB.out.trans (hb.mono HB.out.size)); replace HW := Lib.hid (HW.out.below hb); replace HP := Lib.hid (blk_below HP.out hb); replace HW4 := Lib.hid (HW4.out.below hb); clear hb) | fail)
        have HX4 := Lib.hid HX.out
        refine (PRJ.out _ HW.out).mono ?_
        rintro e w6 ⟨rfl, hb⟩
        replace HB := Lib.hid (HB.out.trans (hb.mono HB.out.size)); replace HW := Lib.hid (HW.out.below hb); replace HP := Lib.hid (blk_below HP.out hb); replace HW4 := Lib.hid (HW4.out.below hb); replace HX := Lib.hid (blk_below HX.out hb); clear hb HX4
        obtain ⟨gx, hgx⟩ : ∃ x, w4.heap.size = x := ⟨_, rfl⟩
        rw [hgx] at HX ⊢
        clear hgx
        have I6 := Lib.hid (info_msg.trans (congrArg some (arr_size zeroM none 0 0).1.symm))
        have S6 := Lib.hid (show 17 = (zeroM.arr none 0 0).size from (arr_size zeroM none 0 0).1.symm)
        have O6 := Lib.hid (arr_size zeroM none 0 0).2
        generalize zeroM.arr none 0 0 = arrW at *
        have c14 : w6.cell? ⟨pp, 14, none⟩ = some (.string m.note) := (blk_cell HP.out 14).trans A14.out
        have c15 : w6.cell? ⟨pp, 15, none⟩ = some (.int .u64 (m.hint : Int)) := (blk_cell HP.out 15).trans A15.out
        have hpl := blk_lt HP.out
        by_cases hnb : m.note.size = 0
        · have e14 : m.note.toList.isEmpty = true := by rw [str_e]; exact decide_eq_true hnb
          have n14 : bN (hasB m 10 = true) = 0 := by rw [has10]; unfold bN; simp [hnb]
          by_cases hhb : m.hint = 0
          · have e15 : ((m.hint : Int) == 0) = true := beq_iff_eq.2 (by omega)
            have e15n : (m.hint == 0) = true := beq_iff_eq.2 hhb
            have HNB := Lib.hid hnb; have HHB := Lib.hid hhb; clear hnb hhb n14
            go_wp2_with (first | refine gate_guard (by rfl) (wpList_load_row rfl 29 _ rfl pp rfl 29 arrM (0, 0) _ HP.out Try.underlying29 rfl IM.out ?_) | refine wpList_load_row rfl 29 _ rfl pp rfl 29 arrM (0, 0) _ HP.out Try.underlying29 rfl IM.out ?_ | (refine wpList_store_row rfl 29 _ _ rfl w6.heap.size arrW rfl rfl 29 _ (blk_new w6 _) I6.out S6.out O6.out ?_; refine gate_world (F := fun w' => Hid (w'.heap[w6.heap.size]? = some (.cells arrW 29 (0, 0))) ∧ Hid (Below w6.heap.size w6 w')) ⟨Lib.hid (setRow_heap _ _ _ arrW _ _ (blk_new w6 _)), Lib.hid (below_setRow (below_alloc (Below.refl _ w6) _) (Nat.le_refl _) arrW)⟩ ?_; rintro w7 ⟨HV, hb⟩; have hb := hb.out; have c14 := (hb.cell (p := ⟨pp, 14, none⟩) hpl).trans c14; have c15 := (hb.cell (p := ⟨pp, 15, none⟩) hpl).trans c15; replace HB := Lib.hid (HB.out.trans (hb.mono HB.out.size)); replace HW := Lib.hid (HW.out.below hb); replace HP := Lib.hid (blk_below HP.out hb); replace HW4 := Lib.hid (HW4.out.below hb); replace HX := Lib.hid (blk_below HX.out hb); clear hb) | refine gate_guard (by rfl) (wpList_load_row rfl 29 _ rfl gx rfl 29 arrX (0, 0) _ HX.out Try.underlying29 rfl I4.out ?_) | refine wpList_load_row rfl 29 _ rfl gx rfl 29 arrX (0, 0) _ HX.out Try.underlying29 rfl I4.out ?_ | refine gate_guard (by rfl) (wpList_load_row rfl 29 _ rfl w6.heap.size rfl 29 arrW (0, 0) _ HV.out Try.underlying29 rfl I6.out ?_) | refine wpList_load_row rfl 29 _ rfl w6.heap.size rfl 29 arrW (0, 0) _ HV.out Try.underlying29 rfl I6.out ?_ | fail)
            refine (SM.out _).mono ?_
            rintro e w8 ⟨rfl, hb⟩
            replace HB := Lib.hid (HB.out.trans (hb.mono HB.out.size))
            go_wp2
            go_ret
            first | exact ⟨rfl, HB.out⟩ | exact ⟨rfl, HPP.out ▸ HB.out⟩
          · have e15 : ((m.hint : Int) == 0) = false := beq_eq_false_iff_ne.2 (by omega)
            have e15n : (m.hint == 0) = false := beq_eq_false_iff_ne.2 hhb
            have HNB := Lib.hid hnb; have HHB := Lib.hid hhb; clear hnb hhb n14
            go_wp2_with (first | refine gate_guard (by rfl) (wpList_load_row rfl 29 _ rfl pp rfl 29 arrM (0, 0) _ HP.out Try.underlying29 rfl IM.out ?_) | refine wpList_load_row rfl 29 _ rfl pp rfl 29 arrM (0, 0) _ HP.out Try.underlying29 rfl IM.out ?_ | (refine wpList_store_row rfl 29 _ _ rfl w6.heap.size arrW rfl rfl 29 _ (blk_new w6 _) I6.out S6.out O6.out ?_; refine gate_world (F := fun w' => Hid (w'.heap[w6.heap.size]? = some (.cells arrW 29 (0, 0))) ∧ Hid (Below w6.heap.size w6 w')) ⟨Lib.hid (setRow_heap _ _ _ arrW _ _ (blk_new w6 _)), Lib.hid (below_setRow (below_alloc (Below.refl _ w6) _) (Nat.le_refl _) arrW)⟩ ?_; rintro w7 ⟨HV, hb⟩; have hb := hb.out; have c14 := (hb.cell (p := ⟨pp, 14, none⟩) hpl).trans c14; have c15 := (hb.cell (p := ⟨pp, 15, none⟩) hpl).trans c15; replace HB := Lib.hid (HB.out.trans (hb.mono HB.out.size)); replace HW := Lib.hid (HW.out.below hb); replace HP := Lib.hid (blk_below HP.out hb); replace HW4 := Lib.hid (HW4.out.below hb); replace HX := Lib.hid (blk_below HX.out hb); clear hb) | refine gate_guard (by rfl) (wpList_load_row rfl 29 _ rfl gx rfl 29 arrX (0, 0) _ HX.out Try.underlying29 rfl I4.out ?_) | refine wpList_load_row rfl 29 _ rfl gx rfl 29 arrX (0, 0) _ HX.out Try.underlying29 rfl I4.out ?_ | refine gate_guard (by rfl) (wpList_load_row rfl 29 _ rfl w6.heap.size rfl 29 arrW (0, 0) _ HV.out Try.underlying29 rfl I6.out ?_) | refine wpList_load_row rfl 29 _ rfl w6.heap.size rfl 29 arrW (0, 0) _ HV.out Try.underlying29 rfl I6.out ?_ | fail)
            refine (SM.out _).mono ?_
            rintro e w8 ⟨rfl, hb⟩
            replace HB := Lib.hid (HB.out.trans (hb.mono HB.out.size))
            go_wp2
            go_ret
            first | exact ⟨rfl, HB.out⟩ | exact ⟨rfl, HPP.out ▸ HB.out⟩
        · have e14 : m.note.toList.isEmpty = false := by rw [str_e]; exact decide_eq_false hnb
          have n14 : bN (hasB m 10 = true) = 1 := by rw [has10]; unfold bN; simp [hnb]
          by_cases hhb : m.hint = 0
          · have e15 : ((m.hint : Int) == 0) = true := beq_iff_eq.2 (by omega)
            have e15n : (m.hint == 0) = true := beq_iff_eq.2 hhb
            have HNB := Lib.hid hnb; have HHB := Lib.hid hhb; clear hnb hhb n14
            go_wp2_with (first | refine gate_guard (by rfl) (wpList_load_row rfl 29 _ rfl pp rfl 29 arrM (0, 0) _ HP.out Try.underlying29 rfl IM.out ?_) | refine wpList_load_row rfl 29 _ rfl pp rfl 29 arrM (0, 0) _ HP.out Try.underlying29 rfl IM.out ?_ | (refine wpList_store_row rfl 29 _ _ rfl w6.heap.size arrW rfl rfl 29 _ (blk_new w6 _) I6.out S6.out O6.out ?_; refine gate_world (F := fun w' => Hid (w'.heap[w6.heap.size]? = some (.cells arrW 29 (0, 0))) ∧ Hid (Below w6.heap.size w6 w')) ⟨Lib.hid (setRow_heap _ _ _ arrW _ _ (blk_new w6 _)), Lib.hid (below_setRow (below_alloc (Below.refl _ w6) _) (Nat.le_refl _) arrW)⟩ ?_; rintro w7 ⟨HV, hb⟩; have hb := hb.out; have c14 := (hb.cell (p := ⟨pp, 14, none⟩) hpl).trans c14; have c15 := (hb.cell (p := ⟨pp, 15, none⟩) hpl).trans c15; replace HB := Lib.hid (HB.out.trans (hb.mono HB.out.size)); replace HW := Lib.hid (HW.out.below hb); replace HP := Lib.hid (blk_below HP.out hb); replace HW4 := Lib.hid (HW4.out.below hb); replace HX := Lib.hid (blk_below HX.out hb); clear hb) | refine gate_guard (by rfl) (wpList_load_row rfl 29 _ rfl gx rfl 29 arrX (0, 0) _ HX.out Try.underlying29 rfl I4.out ?_) | refine wpList_load_row rfl 29 _ rfl gx rfl 29 arrX (0, 0) _ HX.out Try.underlying29 rfl I4.out ?_ | refine gate_guard (by rfl) (wpList_load_row rfl 29 _ rfl w6.heap.size rfl 29 arrW (0, 0) _ HV.out Try.underlying29 rfl I6.out ?_) | refine wpList_load_row rfl 29 _ rfl w6.heap.size rfl 29 arrW (0, 0) _ HV.out Try.underlying29 rfl I6.out ?_ | fail)
            refine (SM.out _).mono ?_
            rintro e w8 ⟨rfl, hb⟩
            replace HB := Lib.hid (HB.out.trans (hb.mono HB.out.size))
            go_wp2
            go_ret
            first | exact ⟨rfl, HB.out⟩ | exact ⟨rfl, HPP.out ▸ HB.out⟩
          · have e15 : ((m.hint : Int) == 0) = false := beq_eq_false_iff_ne.2 (by omega)
            have e15n : (m.hint == 0) = false := beq_eq_false_iff_ne.2 hhb
            have HNB := Lib.hid hnb; have HHB := Lib.hid hhb; clear hnb hhb n14
            go_wp2_with (first | refine gate_guard (by rfl) (wpList_load_row rfl 29 _ rfl pp rfl 29 arrM (0, 0) _ HP.out Try.underlying29 rfl IM.out ?_) | refine wpList_load_row rfl 29 _ rfl pp rfl 29 arrM (0, 0) _ HP.out Try.underlying29 rfl IM.out ?_ | (refine wpList_store_row rfl 29 _ _ rfl w6.heap.size arrW rfl rfl 29 _ (blk_new w6 _) I6.out S6.out O6.out ?_; refine gate_world (F := fun w' => Hid (w'.heap[w6.heap.size]? = some (.cells arrW 29 (0, 0))) ∧ Hid (Below w6.heap.size w6 w')) ⟨Lib.hid (setRow_heap _ _ _ arrW _ _ (blk_new w6 _)), Lib.hid (below_setRow (below_alloc (Below.refl _ w6) _) (Nat.le_refl _) arrW)⟩ ?_; rintro w7 ⟨HV, hb⟩; have hb := hb.out; have c14 := (hb.cell (p := ⟨pp, 14, none⟩) hpl).trans c14; have c15 := (hb.cell (p := ⟨pp, 15, none⟩) hpl).trans c15; replace HB := Lib.hid (HB.out.trans (hb.mono HB.out.size)); replace HW := Lib.hid (HW.out.below hb); replace HP := Lib.hid (blk_below HP.out hb); replace HW4 := Lib.hid (HW4.out.below hb); replace HX := Lib.hid (blk_below HX.out hb); clear hb) | refine gate_guard (by rfl) (wpList_load_row rfl 29 _ rfl gx rfl 29 arrX (0, 0) _ HX.out Try.underlying29 rfl I4.out ?_) | refine wpList_load_row rfl 29 _ rfl gx rfl 29 arrX (0, 0) _ HX.out Try.underlying29 rfl I4.out ?_ | refine gate_guard (by rfl) (wpList_load_row rfl 29 _ rfl w6.heap.size rfl 29 arrW (0, 0) _ HV.out Try.underlying29 rfl I6.out ?_) | refine wpList_load_row rfl 29 _ rfl w6.heap.size rfl 29 arrW (0, 0) _ HV.out Try.underlying29 rfl I6.out ?_ | fail)
            refine (SM.out _).mono ?_
            rintro e w8 ⟨rfl, hb⟩
            replace HB := Lib.hid (HB.out.trans (hb.mono HB.out.size))
            go_wp2
            go_ret
            first | exact ⟨rfl, HB.out⟩ | exact ⟨rfl, HPP.out ▸ HB.out⟩
      · have hmu0 : m.must = 0 := Decidable.of_not_not hmu
        have HMU := Lib.hid (show bN (hasB m 12 = true) = 0 by rw [has12]; unfold bN; simp [hmu0])
        have ml := ML.out
        rw [if_neg (fun h => hmu h.1)] at ml
        have hcr : ¬ hasB m 12 = true := by rw [has12]; simp [hmu0]
        obtain ⟨lf, hlf⟩ : ∃ x, 0 + bN (hasB m 11 = true) + bN (hasB m 12 = true) = x := ⟨_, rfl⟩
        have HLE := Lib.hid hlf
        have HDQ := Lib.hid (show decM 2 sB = (projS 2 m, lf, 0) from HD.out.trans ((if_neg hcr).trans (by rw [hlf, ← restr_proj ml]; rfl)))
        have PRJ := Lib.hid (fun (W : World) (hw : Wrs W A n m.ws) => PR.out HZ.out W hw)
        simp only [ml, if_pos (show (0 : Nat) = 0 from rfl)] at PRJ
        clear ml hcr hlf
        go_wp2_with fail
        refine (dec_is HDQ.out _ HSZ.out).mono ?_
        rintro e w4 ⟨A4, c4, rfl, hw4, hb⟩
        replace HB := Lib.hid (HB.out.trans (hb.mono HB.out.size)); replace HW := Lib.hid (HW.out.below hb); replace HP := Lib.hid (blk_below HP.out hb); clear hb
        have HW4 := Lib.hid hw4; clear hw4
        have I4 := Lib.hid (info_msg.trans (congrArg some (arr_size (projS 2 m) A4 (projS 2 m).ws.length c4).1.symm))
        have S4 := Lib.hid (show 17 = ((projS 2 m).arr A4 (projS 2 m).ws.length c4).size from (arr_size (projS 2 m) A4 (projS 2 m).ws.length c4).1.symm)
        have O4 := Lib.hid (arr_size (projS 2 m) A4 (projS 2 m).ws.length c4).2
        have SM := Lib.hid (fun W (hw : Wrs W A4 (projS 2 m).ws.length (projS 2 m).ws) (hw2 : Wrs W A n m.ws) => (show Calls Try.prog 15 #[.agg ((projS 2 m).arr A4 (projS 2 m).ws.length c4), .agg ((projS 2 m).arr A n c)] W fun e w' => e = .returned (.bool true) ∧ Below W.heap.size W w' from by
            have h := same_any (projS 2 m) (projS 2 m) A4 A (projS 2 m).ws.length c4 n c W (projS_fit hfit) (projS_fit hfit) hw hw2
            rw [beq_self_eq_true] at h
            exact h))
        generalize (projS 2 m).arr A4 (projS 2 m).ws.length c4 = arrX at *
        go_wp2_with (first | refine gate_guard (by rfl) (wpList_load_row rfl 29 _ rfl pp rfl 29 arrM (0, 0) _ HP.out Try.underlying29 rfl IM.out ?_) | refine wpList_load_row rfl 29 _ rfl pp rfl 29 arrM (0, 0) _ HP.out Try.underlying29 rfl IM.out ?_ | (refine wpList_store_row rfl 29 _ _ rfl w4.heap.size arrX rfl rfl 29 _ (blk_new w4 _) I4.out S4.out O4.out ?_; refine gate_world (F := fun w' => Hid (w'.heap[w4.heap.size]? = some (.cells arrX 29 (0, 0))) ∧ Hid (Below w4.heap.size w4 w')) ⟨Lib.hid (setRow_heap _ _ _ arrX _ _ (blk_new w4 _)), Lib.hid (below_setRow (below_alloc (Below.refl _ w4) _) (Nat.le_refl _) arrX)⟩ ?_; rintro w5 ⟨HX, hb⟩; have hb := hb.out; replace HB := Lib.hid (HB.out.trans (hb.mono HB.out.size)); replace HW := Lib.hid (HW.out.below hb); replace HP := Lib.hid (blk_below HP.out hb); replace HW4 := Lib.hid (HW4.out.below hb); clear hb) | fail)
        have HX4 := Lib.hid HX.out
        refine (PRJ.out _ HW.out).mono ?_
        rintro e w6 ⟨rfl, hb⟩
        replace HB := Lib.hid (HB.out.trans (hb.mono HB.out.size)); replace HW := Lib.hid (HW.out.below hb); replace HP := Lib.hid (blk_below HP.out hb); replace HW4 := Lib.hid (HW4.out.below hb); replace HX := Lib.hid (blk_below HX.out hb); clear hb HX4
        obtain ⟨gx, hgx⟩ : ∃ x, w4.heap.size = x := ⟨_, rfl⟩
        rw [hgx] at HX ⊢
        clear hgx
        have I6 := Lib.hid (info_msg.trans (congrArg some (arr_size (projS 2 m) A n c).1.symm))
        have S6 := Lib.hid (show 17 = ((projS 2 m).arr A n c).size from (arr_size (projS 2 m) A n c).1.symm)
        have O6 := Lib.hid (arr_size (projS 2 m) A n c).2
        generalize (projS 2 m).arr A n c = arrW at *
        have c14 : w6.cell? ⟨pp, 14, none⟩ = some (.string m.note) := (blk_cell HP.out 14).trans A14.out
        have c15 : w6.cell? ⟨pp, 15, none⟩ = some (.int .u64 (m.hint : Int)) := (blk_cell HP.out 15).trans A15.out
        have hpl := blk_lt HP.out
        by_cases hnb : m.note.size = 0
        · have e14 : m.note.toList.isEmpty = true := by rw [str_e]; exact decide_eq_true hnb
          have n14 : bN (hasB m 10 = true) = 0 := by rw [has10]; unfold bN; simp [hnb]
          by_cases hhb : m.hint = 0
          · have e15 : ((m.hint : Int) == 0) = true := beq_iff_eq.2 (by omega)
            have e15n : (m.hint == 0) = true := beq_iff_eq.2 hhb
            have n15 : bN (hasB m 11 = true) = 0 := by rw [has11]; unfold bN; simp [hhb]
            have hle := HLE.out
            rw [n15, HMU.out] at hle
            have z1 : ((lf : Int) == 0) = true := beq_iff_eq.2 (by omega)
            have z2 : (lf == 0) = true := beq_iff_eq.2 (by omega)
            clear hle
            have HNB := Lib.hid hnb; have HHB := Lib.hid hhb; clear hnb hhb n14 n15
            go_wp2_with (first | refine gate_guard (by rfl) (wpList_load_row rfl 29 _ rfl pp rfl 29 arrM (0, 0) _ HP.out Try.underlying29 rfl IM.out ?_) | refine wpList_load_row rfl 29 _ rfl pp rfl 29 arrM (0, 0) _ HP.out Try.underlying29 rfl IM.out ?_ | (refine wpList_store_row rfl 29 _ _ rfl w6.heap.size arrW rfl rfl 29 _ (blk_new w6 _) I6.out S6.out O6.out ?_; refine gate_world (F := fun w' => Hid (w'.heap[w6.heap.size]? = some (.cells arrW 29 (0, 0))) ∧ Hid (Below w6.heap.size w6 w')) ⟨Lib.hid (setRow_heap _ _ _ arrW _ _ (blk_new w6 _)), Lib.hid (below_setRow (below_alloc (Below.refl _ w6) _) (Nat.le_refl _) arrW)⟩ ?_; rintro w7 ⟨HV, hb⟩; have hb := hb.out; have c14 := (hb.cell (p := ⟨pp, 14, none⟩) hpl).trans c14; have c15 := (hb.cell (p := ⟨pp, 15, none⟩) hpl).trans c15; replace HB := Lib.hid (HB.out.trans (hb.mono HB.out.size)); replace HW := Lib.hid (HW.out.below hb); replace HP := Lib.hid (blk_below HP.out hb); replace HW4 := Lib.hid (HW4.out.below hb); replace HX := Lib.hid (blk_below HX.out hb); clear hb) | refine gate_guard (by rfl) (wpList_load_row rfl 29 _ rfl gx rfl 29 arrX (0, 0) _ HX.out Try.underlying29 rfl I4.out ?_) | refine wpList_load_row rfl 29 _ rfl gx rfl 29 arrX (0, 0) _ HX.out Try.underlying29 rfl I4.out ?_ | refine gate_guard (by rfl) (wpList_load_row rfl 29 _ rfl w6.heap.size rfl 29 arrW (0, 0) _ HV.out Try.underlying29 rfl I6.out ?_) | refine wpList_load_row rfl 29 _ rfl w6.heap.size rfl 29 arrW (0, 0) _ HV.out Try.underlying29 rfl I6.out ?_ | fail)
            refine (NG.out _).mono ?_
            rintro e w8 ⟨rfl, rfl⟩
            go_wp2_with (first | refine gate_guard (by rfl) (wpList_load_row rfl 29 _ rfl gx rfl 29 arrX (0, 0) _ HX.out Try.underlying29 rfl I4.out ?_) | refine wpList_load_row rfl 29 _ rfl gx rfl 29 arrX (0, 0) _ HX.out Try.underlying29 rfl I4.out ?_ | refine gate_guard (by rfl) (wpList_load_row rfl 29 _ rfl w6.heap.size rfl 29 arrW (0, 0) _ HV.out Try.underlying29 rfl I6.out ?_) | refine wpList_load_row rfl 29 _ rfl w6.heap.size rfl 29 arrW (0, 0) _ HV.out Try.underlying29 rfl I6.out ?_ | fail)
            refine (SM.out _ HW4.out HW.out).mono ?_
            rintro e w8 ⟨rfl, hb⟩
            replace HB := Lib.hid (HB.out.trans (hb.mono HB.out.size))
            go_wp2
            go_ret
            first | exact ⟨rfl, HB.out⟩ | exact ⟨rfl, HPP.out ▸ HB.out⟩
          · have e15 : ((m.hint : Int) == 0) = false := beq_eq_false_iff_ne.2 (by omega)
            have e15n : (m.hint == 0) = false := beq_eq_false_iff_ne.2 hhb
            have n15 : bN (hasB m 11 = true) = 1 := by rw [has11]; unfold bN; simp [hhb]
            have hle := HLE.out
            rw [n15, HMU.out] at hle
            have z1 : ((lf : Int) == 1) = true := beq_iff_eq.2 (by omega)
            have z2 : (lf == 1) = true := beq_iff_eq.2 (by omega)
            clear hle
            have HNB := Lib.hid hnb; have HHB := Lib.hid hhb; clear hnb hhb n14 n15
            go_wp2_with (first | refine gate_guard (by rfl) (wpList_load_row rfl 29 _ rfl pp rfl 29 arrM (0, 0) _ HP.out Try.underlying29 rfl IM.out ?_) | refine wpList_load_row rfl 29 _ rfl pp rfl 29 arrM (0, 0) _ HP.out Try.underlying29 rfl IM.out ?_ | (refine wpList_store_row rfl 29 _ _ rfl w6.heap.size arrW rfl rfl 29 _ (blk_new w6 _) I6.out S6.out O6.out ?_; refine gate_world (F := fun w' => Hid (w'.heap[w6.heap.size]? = some (.cells arrW 29 (0, 0))) ∧ Hid (Below w6.heap.size w6 w')) ⟨Lib.hid (setRow_heap _ _ _ arrW _ _ (blk_new w6 _)), Lib.hid (below_setRow (below_alloc (Below.refl _ w6) _) (Nat.le_refl _) arrW)⟩ ?_; rintro w7 ⟨HV, hb⟩; have hb := hb.out; have c14 := (hb.cell (p := ⟨pp, 14, none⟩) hpl).trans c14; have c15 := (hb.cell (p := ⟨pp, 15, none⟩) hpl).trans c15; replace HB := Lib.hid (HB.out.trans (hb.mono HB.out.size)); replace HW := Lib.hid (HW.out.below hb); replace HP := Lib.hid (blk_below HP.out hb); replace HW4 := Lib.hid (HW4.out.below hb); replace HX := Lib.hid (blk_below HX.out hb); clear hb) | refine gate_guard (by rfl) (wpList_load_row rfl 29 _ rfl gx rfl 29 arrX (0, 0) _ HX.out Try.underlying29 rfl I4.out ?_) | refine wpList_load_row rfl 29 _ rfl gx rfl 29 arrX (0, 0) _ HX.out Try.underlying29 rfl I4.out ?_ | refine gate_guard (by rfl) (wpList_load_row rfl 29 _ rfl w6.heap.size rfl 29 arrW (0, 0) _ HV.out Try.underlying29 rfl I6.out ?_) | refine wpList_load_row rfl 29 _ rfl w6.heap.size rfl 29 arrW (0, 0) _ HV.out Try.underlying29 rfl I6.out ?_ | fail)
            refine (NG.out _).mono ?_
            rintro e w8 ⟨rfl, rfl⟩
            go_wp2_with (first | refine gate_guard (by rfl) (wpList_load_row rfl 29 _ rfl gx rfl 29 arrX (0, 0) _ HX.out Try.underlying29 rfl I4.out ?_) | refine wpList_load_row rfl 29 _ rfl gx rfl 29 arrX (0, 0) _ HX.out Try.underlying29 rfl I4.out ?_ | refine gate_guard (by rfl) (wpList_load_row rfl 29 _ rfl w6.heap.size rfl 29 arrW (0, 0) _ HV.out Try.underlying29 rfl I6.out ?_) | refine wpList_load_row rfl 29 _ rfl w6.heap.size rfl 29 arrW (0, 0) _ HV.out Try.underlying29 rfl I6.out ?_ | fail)
            refine (SM.out _ HW4.out HW.out).mono ?_
            rintro e w8 ⟨rfl, hb⟩
            replace HB := Lib.hid (HB.out.trans (hb.mono HB.out.size))
            go_wp2
            go_ret
            first | exact ⟨rfl, HB.out⟩ | exact ⟨rfl, HPP.out ▸ HB.out⟩
        · have e14 : m.note.toList.isEmpty = false := by rw [str_e]; exact decide_eq_false hnb
          have n14 : bN (hasB m 10 = true) = 1 := by rw [has10]; unfold bN; simp [hnb]
          by_cases hhb : m.hint = 0
          · have e15 : ((m.hint : Int) == 0) = true := beq_iff_eq.2 (by omega)
            have e15n : (m.hint == 0) = true := beq_iff_eq.2 hhb
            have n15 : bN (hasB m 11 = true) = 0 := by rw [has11]; unfold bN; simp [hhb]
            have hle := HLE.out
            rw [n15, HMU.out] at hle
            have z1 : ((lf : Int) == 0) = true := beq_iff_eq.2 (by omega)
            have z2 : (lf == 0) = true := beq_iff_eq.2 (by omega)
            clear hle
            have HNB := Lib.hid hnb; have HHB := Lib.hid hhb; clear hnb hhb n14 n15
            go_wp2_with (first | refine gate_guard (by rfl) (wpList_load_row rfl 29 _ rfl pp rfl 29 arrM (0, 0) _ HP.out Try.underlying29 rfl IM.out ?_) | refine wpList_load_row rfl 29 _ rfl pp rfl 29 arrM (0, 0) _ HP.out Try.underlying29 rfl IM.out ?_ | (refine wpList_store_row rfl 29 _ _ rfl w6.heap.size arrW rfl rfl 29 _ (blk_new w6 _) I6.out S6.out O6.out ?_; refine gate_world (F := fun w' => Hid (w'.heap[w6.heap.size]? = some (.cells arrW 29 (0, 0))) ∧ Hid (Below w6.heap.size w6 w')) ⟨Lib.hid (setRow_heap _ _ _ arrW _ _ (blk_new w6 _)), Lib.hid (below_setRow (below_alloc (Below.refl _ w6) _) (Nat.le_refl _) arrW)⟩ ?_; rintro w7 ⟨HV, hb⟩; have hb := hb.out; have c14 := (hb.cell (p := ⟨pp, 14, none⟩) hpl).trans c14; have c15 := (hb.cell (p := ⟨pp, 15, none⟩) hpl).trans c15; replace HB := Lib.hid (HB.out.trans (hb.mono HB.out.size)); replace HW := Lib.hid (HW.out.below hb); replace HP := Lib.hid (blk_below HP.out hb); replace HW4 := Lib.hid (HW4.out.below hb); replace HX := Lib.hid (blk_below HX.out hb); clear hb) | refine gate_guard (by rfl) (wpList_load_row rfl 29 _ rfl gx rfl 29 arrX (0, 0) _ HX.out Try.underlying29 rfl I4.out ?_) | refine wpList_load_row rfl 29 _ rfl gx rfl 29 arrX (0, 0) _ HX.out Try.underlying29 rfl I4.out ?_ | refine gate_guard (by rfl) (wpList_load_row rfl 29 _ rfl w6.heap.size rfl 29 arrW (0, 0) _ HV.out Try.underlying29 rfl I6.out ?_) | refine wpList_load_row rfl 29 _ rfl w6.heap.size rfl 29 arrW (0, 0) _ HV.out Try.underlying29 rfl I6.out ?_ | fail)
            refine (NG.out _).mono ?_
            rintro e w8 ⟨rfl, rfl⟩
            go_wp2_with (first | refine gate_guard (by rfl) (wpList_load_row rfl 29 _ rfl gx rfl 29 arrX (0, 0) _ HX.out Try.underlying29 rfl I4.out ?_) | refine wpList_load_row rfl 29 _ rfl gx rfl 29 arrX (0, 0) _ HX.out Try.underlying29 rfl I4.out ?_ | refine gate_guard (by rfl) (wpList_load_row rfl 29 _ rfl w6.heap.size rfl 29 arrW (0, 0) _ HV.out Try.underlying29 rfl I6.out ?_) | refine wpList_load_row rfl 29 _ rfl w6.heap.size rfl 29 arrW (0, 0) _ HV.out Try.underlying29 rfl I6.out ?_ | fail)
            refine (SM.out _ HW4.out HW.out).mono ?_
            rintro e w8 ⟨rfl, hb⟩
            replace HB := Lib.hid (HB.out.trans (hb.mono HB.out.size))
            go_wp2
            go_ret
            first | exact ⟨rfl, HB.out⟩ | exact ⟨rfl, HPP.out ▸ HB.out⟩
          · have e15 : ((m.hint : Int) == 0) = false := beq_eq_false_iff_ne.2 (by omega)
            have e15n : (m.hint == 0) = false := beq_eq_false_iff_ne.2 hhb
            have n15 : bN (hasB m 11 = true) = 1 := by rw [has11]; unfold bN; simp [hhb]
            have hle := HLE.out
            rw [n15, HMU.out] at hle
            have z1 : ((lf : Int) == 1) = true := beq_iff_eq.2 (by omega)
            have z2 : (lf == 1) = true := beq_iff_eq.2 (by omega)
            clear hle
            have HNB := Lib.hid hnb; have HHB := Lib.hid hhb; clear hnb hhb n14 n15
            go_wp2_with (first | refine gate_guard (by rfl) (wpList_load_row rfl 29 _ rfl pp rfl 29 arrM (0, 0) _ HP.out Try.underlying29 rfl IM.out ?_) | refine wpList_load_row rfl 29 _ rfl pp rfl 29 arrM (0, 0) _ HP.out Try.underlying29 rfl IM.out ?_ | (refine wpList_store_row rfl 29 _ _ rfl w6.heap.size arrW rfl rfl 29 _ (blk_new w6 _) I6.out S6.out O6.out ?_; refine gate_world (F := fun w' => Hid (w'.heap[w6.heap.size]? = some (.cells arrW 29 (0, 0))) ∧ Hid (Below w6.heap.size w6 w')) ⟨Lib.hid (setRow_heap _ _ _ arrW _ _ (blk_new w6 _)), Lib.hid (below_setRow (below_alloc (Below.refl _ w6) _) (Nat.le_refl _) arrW)⟩ ?_; rintro w7 ⟨HV, hb⟩; have hb := hb.out; have c14 := (hb.cell (p := ⟨pp, 14, none⟩) hpl).trans c14; have c15 := (hb.cell (p := ⟨pp, 15, none⟩) hpl).trans c15; replace HB := Lib.hid (HB.out.trans (hb.mono HB.out.size)); replace HW := Lib.hid (HW.out.below hb); replace HP := Lib.hid (blk_below HP.out hb); replace HW4 := Lib.hid (HW4.out.below hb); replace HX := Lib.hid (blk_below HX.out hb); clear hb) | refine gate_guard (by rfl) (wpList_load_row rfl 29 _ rfl gx rfl 29 arrX (0, 0) _ HX.out Try.underlying29 rfl I4.out ?_) | refine wpList_load_row rfl 29 _ rfl gx rfl 29 arrX (0, 0) _ HX.out Try.underlying29 rfl I4.out ?_ | refine gate_guard (by rfl) (wpList_load_row rfl 29 _ rfl w6.heap.size rfl 29 arrW (0, 0) _ HV.out Try.underlying29 rfl I6.out ?_) | refine wpList_load_row rfl 29 _ rfl w6.heap.size rfl 29 arrW (0, 0) _ HV.out Try.underlying29 rfl I6.out ?_ | fail)
            refine (NG.out _).mono ?_
            rintro e w8 ⟨rfl, rfl⟩
            go_wp2_with (first | refine gate_guard (by rfl) (wpList_load_row rfl 29 _ rfl gx rfl 29 arrX (0, 0) _ HX.out Try.underlying29 rfl I4.out ?_) | refine wpList_load_row rfl 29 _ rfl gx rfl 29 arrX (0, 0) _ HX.out Try.underlying29 rfl I4.out ?_ | refine gate_guard (by rfl) (wpList_load_row rfl 29 _ rfl w6.heap.size rfl 29 arrW (0, 0) _ HV.out Try.underlying29 rfl I6.out ?_) | refine wpList_load_row rfl 29 _ rfl w6.heap.size rfl 29 arrW (0, 0) _ HV.out Try.underlying29 rfl I6.out ?_ | fail)
            refine (SM.out _ HW4.out HW.out).mono ?_
            rintro e w8 ⟨rfl, hb⟩
            replace HB := Lib.hid (HB.out.trans (hb.mono HB.out.size))
            go_wp2
            go_ret
            first | exact ⟨rfl, HB.out⟩ | exact ⟨rfl, HPP.out ▸ HB.out⟩
    · have y0 : ((mayE 3 m : Int) == 0) = false := beq_eq_false_iff_ne.2 (by omega)
      have y0n : (mayE 3 m == 0) = false := beq_eq_false_iff_ne.2 h0
      go_wp2
      go_ret
      first | exact ⟨rfl, HB.out⟩ | exact ⟨rfl, HPP.out ▸ HB.out⟩
set_option maxRecDepth 100000 in
set_option maxHeartbeats 16000000 in
theorem msg_back_31 (m : MsgS) (A : Option Addr) (n c : Nat) (v u : Nat) (w : World) (hw : Wrs w A n m.ws) (hn : n ≤ 140737488351232) (hi : m.In) (hv : v % 3 = 2) (hu : u % 3 = 0) :
    Calls Try.prog 4 #[.agg (m.arr A n c), .int .u8 (v : Int), .int .u8 (u : Int)] w fun e w' => e = .returned (.bool true) ∧ Below w.heap.size w w' := by
  have x1 : (v : Int) % 3 = 2 := by omega
  have x2 : Int.tmod (v : Int) 3 = 2 := by rw [Int.tmod_eq_emod_of_nonneg (by omega)]; exact x1
  have x3 : (u : Int) % 3 = 0 := by omega
  have x4 : Int.tmod (u : Int) 3 = 0 := by rw [Int.tmod_eq_emod_of_nonneg (by omega)]; exact x3
  have FW := Lib.hid (fun (w : World) (hw : Wrs w A n m.ws) => fewm_any m A n c w hw hn hi.key hi.note hi.value)
  have AW := Lib.hid (fun w => awake05 w)
  have hb1 := below_alloc (Below.refl _ w) (.cells (m.arr A n c) 29)
  have HW := Lib.hid (hw.below hb1)
  have HB := Lib.hid hb1
  have HP := Lib.hid (blk_new w (.cells (m.arr A n c) 29))
  have IM := Lib.hid (info_msg.trans (congrArg some (arr_size m A n c).1.symm))
  have EN := Lib.hid (fun (z : m.Z) (w : World) (hw : Wrs w A n m.ws) => encode_any 3 m A n c w z hw)
  have PR := Lib.hid (fun (z : m.Z) (w : World) (hw : Wrs w A n m.ws) => rproject_any 1 m A n c w z hw)
  have NG := Lib.hid (show ∀ W, Calls Try.prog 17 #[.int .i64 3, .int .i64 1] W fun e w' => e = .returned (.int .i64 1) ∧ W = w' from fun W => negotiate_any 3 1 W)
  have A14 := Lib.hid (show (m.arr A n c)[14]? = some (.string m.note) from rfl)
  have A15 := Lib.hid (show (m.arr A n c)[15]? = some (.int .u64 (m.hint : Int)) from rfl)
  obtain ⟨fb, hfb⟩ : ∃ x, fewB m = x := ⟨_, rfl⟩
  rw [hfb] at FW
  have HZ := Lib.hid (show fb = true → m.Z from fun h => hi.z (fewB_few (hfb.trans h)))
  clear hw hb1 hi hfb hv hu
  generalize hMM : m.arr A n c = arrM at *
  have HMM := Lib.hid hMM; clear hMM
  go_enter Try.func4, Try.ntmps4
  go_wp2_with fail
  refine (AW.out _).mono ?_
  rintro e w1 ⟨rfl, hb⟩
  replace HB := Lib.hid (HB.out.trans (hb.mono HB.out.size)); replace HW := Lib.hid (HW.out.below hb); replace HP := Lib.hid (blk_below HP.out hb); clear hb
  obtain ⟨pp, hpp⟩ : ∃ pp, w.heap.size = pp := ⟨_, rfl⟩
  rw [hpp] at HP ⊢
  have HPP := Lib.hid hpp; clear hpp
  go_wp2_with (first | refine gate_guard (by rfl) (wpList_load_row rfl 29 _ rfl pp rfl 29 arrM (0, 0) _ HP.out Try.underlying29 rfl IM.out ?_) | refine wpList_load_row rfl 29 _ rfl pp rfl 29 arrM (0, 0) _ HP.out Try.underlying29 rfl IM.out ?_ | fail)
  refine (FW.out _ HW.out).mono ?_
  rintro e w2 ⟨rfl, hb⟩
  replace HB := Lib.hid (HB.out.trans (hb.mono HB.out.size)); replace HW := Lib.hid (HW.out.below hb); replace HP := Lib.hid (blk_below HP.out hb); clear hb
  cases fb with
  | false =>
    go_wp2_with fail
    refine (AW.out _).mono ?_
    rintro e w3 ⟨rfl, hb⟩
    replace HB := Lib.hid (HB.out.trans (hb.mono HB.out.size))
    go_wp2
    go_ret
    first | exact ⟨rfl, HB.out⟩ | exact ⟨rfl, HPP.out ▸ HB.out⟩
  | true =>
    replace HZ := Lib.hid (HZ.out rfl)
    go_wp2_with (first | refine gate_guard (by rfl) (wpList_load_row rfl 29 _ rfl pp rfl 29 arrM (0, 0) _ HP.out Try.underlying29 rfl IM.out ?_) | refine wpList_load_row rfl 29 _ rfl pp rfl 29 arrM (0, 0) _ HP.out Try.underlying29 rfl IM.out ?_ | fail)
    refine (EN.out HZ.out _ HW.out).mono ?_
    rintro e w3 ⟨rfl, hb⟩
    replace HB := Lib.hid (HB.out.trans (hb.mono HB.out.size)); replace HW := Lib.hid (HW.out.below hb); replace HP := Lib.hid (blk_below HP.out hb); clear hb
    by_cases h0 : mayE 3 m = 0
    · obtain ⟨o1, -, o3⟩ := may_ok h0
      have HG := Lib.hid (right_good HZ.out o1)
      have HD := Lib.hid (dec_back HG.out o1 (v := 1) (hi := 12) (by decide) (by decide) (by decide))
      rw [show knownS 1 = 9 from rfl, crit_1_3, left_1_3] at HD
      rw [show encS 3 m = bytesN m 12 from if_pos h0, h0]
      have HSZ := Lib.hid (show (bytesN m 12).size ≤ 140737488351232 from Nat.le_trans (bytes_mono m (show 12 ≤ 12 by decide)) (Nat.le_trans (right_size o1) (by decide)))
      have HR := Lib.hid o1
      have HM := Lib.hid o3
      have ML := Lib.hid (show mayE 1 m = if m.must ≠ 0 ∧ 9 < 12 then 4 else 0 by unfold mayE; rw [if_neg (by rintro (h | h); exact absurd h (by decide); rw [o1] at h; cases h)]; rfl)
      have hfit := HG.out.fit
      clear h0 o1 o3
      obtain ⟨sB, hsB⟩ : ∃ x, bytesN m 12 = x := ⟨_, rfl⟩
      rw [hsB] at HD HSZ ⊢
      clear hsB
      by_cases hmu : m.must ≠ 0
      · have HDQ := Lib.hid (show decM 1 sB = (zeroM, 0, 4) from HD.out.trans (if_pos (by rw [has12]; exact decide_eq_true hmu)))
        have PRJ := Lib.hid (fun (W : World) (hw : Wrs W A n m.ws) => PR.out HZ.out W hw)
        have ml := ML.out
        rw [if_pos ⟨hmu, by decide⟩] at ml
        simp only [ml, if_neg (show ¬ (4 : Nat) = 0 by decide)] at PRJ
        clear ml
        go_wp2_with fail
        refine (dec_is HDQ.out _ HSZ.out).mono ?_
        rintro e w4 ⟨A4, c4, rfl, hw4, hb⟩
        replace HB := Lib.hid (HB.out.trans (hb.mono HB.out.size)); replace HW := Lib.hid (HW.out.below hb); replace HP := Lib.hid (blk_below HP.out hb); clear hb
        have HW4 := Lib.hid hw4; clear hw4
        have I4 := Lib.hid (info_msg.trans (congrArg some (arr_size zeroM A4 zeroM.ws.length c4).1.symm))
        have S4 := Lib.hid (show 17 = (zeroM.arr A4 zeroM.ws.length c4).size from (arr_size zeroM A4 zeroM.ws.length c4).1.symm)
        have O4 := Lib.hid (arr_size zeroM A4 zeroM.ws.length c4).2
        have SM := Lib.hid (show ∀ W, Calls Try.prog 15 #[.agg (zeroM.arr A4 zeroM.ws.length c4), .agg #[.int .i64 0, .int .i64 0, .int .i64 0, .int .i64 0, .int .i64 0, .int .i64 0, .int .u64 0, .int .u64 0, .string ⟨#[]⟩, .bool false, .int .u64 0, .bool false, .string ⟨#[]⟩, .slice none 0 0, .string ⟨#[]⟩, .int .u64 0, .int .u64 0]] W fun e w' => e = .returned (.bool true) ∧ Below W.heap.size W w' from fun W => by
            have h := same_any zeroM zeroM A4 none zeroM.ws.length c4 0 0 W zeroM_fit zeroM_fit ⟨rfl, fun h => absurd h (by decide)⟩ (Wrs.nil W)
            rw [beq_self_eq_true] at h
            exact h)
        generalize zeroM.arr A4 zeroM.ws.length c4 = arrX at *
        go_wp2_with (first | refine gate_guard (by rfl) (wpList_load_row rfl 29 _ rfl pp rfl 29 arrM (0, 0) _ HP.out Try.underlying29 rfl IM.out ?_) | refine wpList_load_row rfl 29 _ rfl pp rfl 29 arrM (0, 0) _ HP.out Try.underlying29 rfl IM.out ?_ | (refine wpList_store_row rfl 29 _ _ rfl w4.heap.size arrX rfl rfl 29 _ (blk_new w4 _) I4.out S4.out O4.out ?_; refine gate_world (F := fun w' => Hid (w'.heap[w4.heap.size]? = some (.cells arrX 29 (0, 0))) ∧ Hid (Below w4.heap.size w4 w')) ⟨Lib.hid (setRow_heap _ _ _ arrX _ _ (blk_new w4 _)), Lib.hid (below_setRow (below_alloc (Below.refl _ w4) _) (Nat.le_refl _) arrX)⟩ ?_; rintro w5 ⟨HX, hb⟩; have hb := hb.out; replace HB := Lib.hid (HB.out.trans (hb.mono HB.out.size)); replace HW := Lib.hid (HW.out.below hb); replace HP := Lib.hid (blk_below HP.out hb); replace HW4 := Lib.hid (HW4.out.below hb); clear hb) | fail)
        have HX4 := Lib.hid HX.out
        refine (PRJ.out _ HW.out).mono ?_
        rintro e w6 ⟨rfl, hb⟩
        replace HB := Lib.hid (HB.out.trans (hb.mono HB.out.size)); replace HW := Lib.hid (HW.out.below hb); replace HP := Lib.hid (blk_below HP.out hb); replace HW4 := Lib.hid (HW4.out.below hb); replace HX := Lib.hid (blk_below HX.out hb); clear hb HX4
        obtain ⟨gx, hgx⟩ : ∃ x, w4.heap.size = x := ⟨_, rfl⟩
        rw [hgx] at HX ⊢
        clear hgx
        have I6 := Lib.hid (info_msg.trans (congrArg some (arr_size zeroM none 0 0).1.symm))
        have S6 := Lib.hid (show 17 = (zeroM.arr none 0 0).size from (arr_size zeroM none 0 0).1.symm)
        have O6 := Lib.hid (arr_size zeroM none 0 0).2
        generalize zeroM.arr none 0 0 = arrW at *
        have c14 : w6.cell? ⟨pp, 14, none⟩ = some (.string m.note) := (blk_cell HP.out 14).trans A14.out
        have c15 : w6.cell? ⟨pp, 15, none⟩ = some (.int .u64 (m.hint : Int)) := (blk_cell HP.out 15).trans A15.out
        have hpl := blk_lt HP.out
        by_cases hnb : m.note.size = 0
        · have e14 : m.note.toList.isEmpty = true := by rw [str_e]; exact decide_eq_true hnb
          have n14 : bN (hasB m 10 = true) = 0 := by rw [has10]; unfold bN; simp [hnb]
          by_cases hhb : m.hint = 0
          · have e15 : ((m.hint : Int) == 0) = true := beq_iff_eq.2 (by omega)
            have e15n : (m.hint == 0) = true := beq_iff_eq.2 hhb
            have HNB := Lib.hid hnb; have HHB := Lib.hid hhb; clear hnb hhb n14
            go_wp2_with (first | refine gate_guard (by rfl) (wpList_load_row rfl 29 _ rfl pp rfl 29 arrM (0, 0) _ HP.out Try.underlying29 rfl IM.out ?_) | refine wpList_load_row rfl 29 _ rfl pp rfl 29 arrM (0, 0) _ HP.out Try.underlying29 rfl IM.out ?_ | (refine wpList_store_row rfl 29 _ _ rfl w6.heap.size arrW rfl rfl 29 _ (blk_new w6 _) I6.out S6.out O6.out ?_; refine gate_world (F := fun w' => Hid (w'.heap[w6.heap.size]? = some (.cells arrW 29 (0, 0))) ∧ Hid (Below w6.heap.size w6 w')) ⟨Lib.hid (setRow_heap _ _ _ arrW _ _ (blk_new w6 _)), Lib.hid (below_setRow (below_alloc (Below.refl _ w6) _) (Nat.le_refl _) arrW)⟩ ?_; rintro w7 ⟨HV, hb⟩; have hb := hb.out; have c14 := (hb.cell (p := ⟨pp, 14, none⟩) hpl).trans c14; have c15 := (hb.cell (p := ⟨pp, 15, none⟩) hpl).trans c15; replace HB := Lib.hid (HB.out.trans (hb.mono HB.out.size)); replace HW := Lib.hid (HW.out.below hb); replace HP := Lib.hid (blk_below HP.out hb); replace HW4 := Lib.hid (HW4.out.below hb); replace HX := Lib.hid (blk_below HX.out hb); clear hb) | refine gate_guard (by rfl) (wpList_load_row rfl 29 _ rfl gx rfl 29 arrX (0, 0) _ HX.out Try.underlying29 rfl I4.out ?_) | refine wpList_load_row rfl 29 _ rfl gx rfl 29 arrX (0, 0) _ HX.out Try.underlying29 rfl I4.out ?_ | refine gate_guard (by rfl) (wpList_load_row rfl 29 _ rfl w6.heap.size rfl 29 arrW (0, 0) _ HV.out Try.underlying29 rfl I6.out ?_) | refine wpList_load_row rfl 29 _ rfl w6.heap.size rfl 29 arrW (0, 0) _ HV.out Try.underlying29 rfl I6.out ?_ | fail)
            refine (SM.out _).mono ?_
            rintro e w8 ⟨rfl, hb⟩
            replace HB := Lib.hid (HB.out.trans (hb.mono HB.out.size))
            go_wp2
            go_ret
            first | exact ⟨rfl, HB.out⟩ | exact ⟨rfl, HPP.out ▸ HB.out⟩
          · have e15 : ((m.hint : Int) == 0) = false := beq_eq_false_iff_ne.2 (by omega)
            have e15n : (m.hint == 0) = false := beq_eq_false_iff_ne.2 hhb
            have HNB := Lib.hid hnb; have HHB := Lib.hid hhb; clear hnb hhb n14
            go_wp2_with (first | refine gate_guard (by rfl) (wpList_load_row rfl 29 _ rfl pp rfl 29 arrM (0, 0) _ HP.out Try.underlying29 rfl IM.out ?_) | refine wpList_load_row rfl 29 _ rfl pp rfl 29 arrM (0, 0) _ HP.out Try.underlying29 rfl IM.out ?_ | (refine wpList_store_row rfl 29 _ _ rfl w6.heap.size arrW rfl rfl 29 _ (blk_new w6 _) I6.out S6.out O6.out ?_; refine gate_world (F := fun w' => Hid (w'.heap[w6.heap.size]? = some (.cells arrW 29 (0, 0))) ∧ Hid (Below w6.heap.size w6 w')) ⟨Lib.hid (setRow_heap _ _ _ arrW _ _ (blk_new w6 _)), Lib.hid (below_setRow (below_alloc (Below.refl _ w6) _) (Nat.le_refl _) arrW)⟩ ?_; rintro w7 ⟨HV, hb⟩; have hb := hb.out; have c14 := (hb.cell (p := ⟨pp, 14, none⟩) hpl).trans c14; have c15 := (hb.cell (p := ⟨pp, 15, none⟩) hpl).trans c15; replace HB := Lib.hid (HB.out.trans (hb.mono HB.out.size)); replace HW := Lib.hid (HW.out.below hb); replace HP := Lib.hid (blk_below HP.out hb); replace HW4 := Lib.hid (HW4.out.below hb); replace HX := Lib.hid (blk_below HX.out hb); clear hb) | refine gate_guard (by rfl) (wpList_load_row rfl 29 _ rfl gx rfl 29 arrX (0, 0) _ HX.out Try.underlying29 rfl I4.out ?_) | refine wpList_load_row rfl 29 _ rfl gx rfl 29 arrX (0, 0) _ HX.out Try.underlying29 rfl I4.out ?_ | refine gate_guard (by rfl) (wpList_load_row rfl 29 _ rfl w6.heap.size rfl 29 arrW (0, 0) _ HV.out Try.underlying29 rfl I6.out ?_) | refine wpList_load_row rfl 29 _ rfl w6.heap.size rfl 29 arrW (0, 0) _ HV.out Try.underlying29 rfl I6.out ?_ | fail)
            refine (SM.out _).mono ?_
            rintro e w8 ⟨rfl, hb⟩
            replace HB := Lib.hid (HB.out.trans (hb.mono HB.out.size))
            go_wp2
            go_ret
            first | exact ⟨rfl, HB.out⟩ | exact ⟨rfl, HPP.out ▸ HB.out⟩
        · have e14 : m.note.toList.isEmpty = false := by rw [str_e]; exact decide_eq_false hnb
          have n14 : bN (hasB m 10 = true) = 1 := by rw [has10]; unfold bN; simp [hnb]
          by_cases hhb : m.hint = 0
          · have e15 : ((m.hint : Int) == 0) = true := beq_iff_eq.2 (by omega)
            have e15n : (m.hint == 0) = true := beq_iff_eq.2 hhb
            have HNB := Lib.hid hnb; have HHB := Lib.hid hhb; clear hnb hhb n14
            go_wp2_with (first | refine gate_guard (by rfl) (wpList_load_row rfl 29 _ rfl pp rfl 29 arrM (0, 0) _ HP.out Try.underlying29 rfl IM.out ?_) | refine wpList_load_row rfl 29 _ rfl pp rfl 29 arrM (0, 0) _ HP.out Try.underlying29 rfl IM.out ?_ | (refine wpList_store_row rfl 29 _ _ rfl w6.heap.size arrW rfl rfl 29 _ (blk_new w6 _) I6.out S6.out O6.out ?_; refine gate_world (F := fun w' => Hid (w'.heap[w6.heap.size]? = some (.cells arrW 29 (0, 0))) ∧ Hid (Below w6.heap.size w6 w')) ⟨Lib.hid (setRow_heap _ _ _ arrW _ _ (blk_new w6 _)), Lib.hid (below_setRow (below_alloc (Below.refl _ w6) _) (Nat.le_refl _) arrW)⟩ ?_; rintro w7 ⟨HV, hb⟩; have hb := hb.out; have c14 := (hb.cell (p := ⟨pp, 14, none⟩) hpl).trans c14; have c15 := (hb.cell (p := ⟨pp, 15, none⟩) hpl).trans c15; replace HB := Lib.hid (HB.out.trans (hb.mono HB.out.size)); replace HW := Lib.hid (HW.out.below hb); replace HP := Lib.hid (blk_below HP.out hb); replace HW4 := Lib.hid (HW4.out.below hb); replace HX := Lib.hid (blk_below HX.out hb); clear hb) | refine gate_guard (by rfl) (wpList_load_row rfl 29 _ rfl gx rfl 29 arrX (0, 0) _ HX.out Try.underlying29 rfl I4.out ?_) | refine wpList_load_row rfl 29 _ rfl gx rfl 29 arrX (0, 0) _ HX.out Try.underlying29 rfl I4.out ?_ | refine gate_guard (by rfl) (wpList_load_row rfl 29 _ rfl w6.heap.size rfl 29 arrW (0, 0) _ HV.out Try.underlying29 rfl I6.out ?_) | refine wpList_load_row rfl 29 _ rfl w6.heap.size rfl 29 arrW (0, 0) _ HV.out Try.underlying29 rfl I6.out ?_ | fail)
            refine (SM.out _).mono ?_
            rintro e w8 ⟨rfl, hb⟩
            replace HB := Lib.hid (HB.out.trans (hb.mono HB.out.size))
            go_wp2
            go_ret
            first | exact ⟨rfl, HB.out⟩ | exact ⟨rfl, HPP.out ▸ HB.out⟩
          · have e15 : ((m.hint : Int) == 0) = false := beq_eq_false_iff_ne.2 (by omega)
            have e15n : (m.hint == 0) = false := beq_eq_false_iff_ne.2 hhb
            have HNB := Lib.hid hnb; have HHB := Lib.hid hhb; clear hnb hhb n14
            go_wp2_with (first | refine gate_guard (by rfl) (wpList_load_row rfl 29 _ rfl pp rfl 29 arrM (0, 0) _ HP.out Try.underlying29 rfl IM.out ?_) | refine wpList_load_row rfl 29 _ rfl pp rfl 29 arrM (0, 0) _ HP.out Try.underlying29 rfl IM.out ?_ | (refine wpList_store_row rfl 29 _ _ rfl w6.heap.size arrW rfl rfl 29 _ (blk_new w6 _) I6.out S6.out O6.out ?_; refine gate_world (F := fun w' => Hid (w'.heap[w6.heap.size]? = some (.cells arrW 29 (0, 0))) ∧ Hid (Below w6.heap.size w6 w')) ⟨Lib.hid (setRow_heap _ _ _ arrW _ _ (blk_new w6 _)), Lib.hid (below_setRow (below_alloc (Below.refl _ w6) _) (Nat.le_refl _) arrW)⟩ ?_; rintro w7 ⟨HV, hb⟩; have hb := hb.out; have c14 := (hb.cell (p := ⟨pp, 14, none⟩) hpl).trans c14; have c15 := (hb.cell (p := ⟨pp, 15, none⟩) hpl).trans c15; replace HB := Lib.hid (HB.out.trans (hb.mono HB.out.size)); replace HW := Lib.hid (HW.out.below hb); replace HP := Lib.hid (blk_below HP.out hb); replace HW4 := Lib.hid (HW4.out.below hb); replace HX := Lib.hid (blk_below HX.out hb); clear hb) | refine gate_guard (by rfl) (wpList_load_row rfl 29 _ rfl gx rfl 29 arrX (0, 0) _ HX.out Try.underlying29 rfl I4.out ?_) | refine wpList_load_row rfl 29 _ rfl gx rfl 29 arrX (0, 0) _ HX.out Try.underlying29 rfl I4.out ?_ | refine gate_guard (by rfl) (wpList_load_row rfl 29 _ rfl w6.heap.size rfl 29 arrW (0, 0) _ HV.out Try.underlying29 rfl I6.out ?_) | refine wpList_load_row rfl 29 _ rfl w6.heap.size rfl 29 arrW (0, 0) _ HV.out Try.underlying29 rfl I6.out ?_ | fail)
            refine (SM.out _).mono ?_
            rintro e w8 ⟨rfl, hb⟩
            replace HB := Lib.hid (HB.out.trans (hb.mono HB.out.size))
            go_wp2
            go_ret
            first | exact ⟨rfl, HB.out⟩ | exact ⟨rfl, HPP.out ▸ HB.out⟩
      · have hmu0 : m.must = 0 := Decidable.of_not_not hmu
        have HMU := Lib.hid (show bN (hasB m 12 = true) = 0 by rw [has12]; unfold bN; simp [hmu0])
        have ml := ML.out
        rw [if_neg (fun h => hmu h.1)] at ml
        have hcr : ¬ hasB m 12 = true := by rw [has12]; simp [hmu0]
        obtain ⟨lf, hlf⟩ : ∃ x, 0 + bN (hasB m 10 = true) + bN (hasB m 11 = true) + bN (hasB m 12 = true) = x := ⟨_, rfl⟩
        have HLE := Lib.hid hlf
        have HDQ := Lib.hid (show decM 1 sB = (projS 1 m, lf, 0) from HD.out.trans ((if_neg hcr).trans (by rw [hlf, ← restr_proj ml]; rfl)))
        have PRJ := Lib.hid (fun (W : World) (hw : Wrs W A n m.ws) => PR.out HZ.out W hw)
        simp only [ml, if_pos (show (0 : Nat) = 0 from rfl)] at PRJ
        clear ml hcr hlf
        go_wp2_with fail
        refine (dec_is HDQ.out _ HSZ.out).mono ?_
        rintro e w4 ⟨A4, c4, rfl, hw4, hb⟩
        replace HB := Lib.hid (HB.out.trans (hb.mono HB.out.size)); replace HW := Lib.hid (HW.out.below hb); replace HP := Lib.hid (blk_below HP.out hb); clear hb
        have HW4 := Lib.hid hw4; clear hw4
        have I4 := Lib.hid (info_msg.trans (congrArg some (arr_size (projS 1 m) A4 (projS 1 m).ws.length c4).1.symm))
        have S4 := Lib.hid (show 17 = ((projS 1 m).arr A4 (projS 1 m).ws.length c4).size from (arr_size (projS 1 m) A4 (projS 1 m).ws.length c4).1.symm)
        have O4 := Lib.hid (arr_size (projS 1 m) A4 (projS 1 m).ws.length c4).2
        have SM := Lib.hid (fun W (hw : Wrs W A4 (projS 1 m).ws.length (projS 1 m).ws) (hw2 : Wrs W A n m.ws) => (show Calls Try.prog 15 #[.agg ((projS 1 m).arr A4 (projS 1 m).ws.length c4), .agg ((projS 1 m).arr A n c)] W fun e w' => e = .returned (.bool true) ∧ Below W.heap.size W w' from by
            have h := same_any (projS 1 m) (projS 1 m) A4 A (projS 1 m).ws.length c4 n c W (projS_fit hfit) (projS_fit hfit) hw hw2
            rw [beq_self_eq_true] at h
            exact h))
        generalize (projS 1 m).arr A4 (projS 1 m).ws.length c4 = arrX at *
        go_wp2_with (first | refine gate_guard (by rfl) (wpList_load_row rfl 29 _ rfl pp rfl 29 arrM (0, 0) _ HP.out Try.underlying29 rfl IM.out ?_) | refine wpList_load_row rfl 29 _ rfl pp rfl 29 arrM (0, 0) _ HP.out Try.underlying29 rfl IM.out ?_ | (refine wpList_store_row rfl 29 _ _ rfl w4.heap.size arrX rfl rfl 29 _ (blk_new w4 _) I4.out S4.out O4.out ?_; refine gate_world (F := fun w' => Hid (w'.heap[w4.heap.size]? = some (.cells arrX 29 (0, 0))) ∧ Hid (Below w4.heap.size w4 w')) ⟨Lib.hid (setRow_heap _ _ _ arrX _ _ (blk_new w4 _)), Lib.hid (below_setRow (below_alloc (Below.refl _ w4) _) (Nat.le_refl _) arrX)⟩ ?_; rintro w5 ⟨HX, hb⟩; have hb := hb.out; replace HB := Lib.hid (HB.out.trans (hb.mono HB.out.size)); replace HW := Lib.hid (HW.out.below hb); replace HP := Lib.hid (blk_below HP.out hb); replace HW4 := Lib.hid (HW4.out.below hb); clear hb) | fail)
        have HX4 := Lib.hid HX.out
        refine (PRJ.out _ HW.out).mono ?_
        rintro e w6 ⟨rfl, hb⟩
        replace HB := Lib.hid (HB.out.trans (hb.mono HB.out.size)); replace HW := Lib.hid (HW.out.below hb); replace HP := Lib.hid (blk_below HP.out hb); replace HW4 := Lib.hid (HW4.out.below hb); replace HX := Lib.hid (blk_below HX.out hb); clear hb HX4
        obtain ⟨gx, hgx⟩ : ∃ x, w4.heap.size = x := ⟨_, rfl⟩
        rw [hgx] at HX ⊢
        clear hgx
        have I6 := Lib.hid (info_msg.trans (congrArg some (arr_size (projS 1 m) A n c).1.symm))
        have S6 := Lib.hid (show 17 = ((projS 1 m).arr A n c).size from (arr_size (projS 1 m) A n c).1.symm)
        have O6 := Lib.hid (arr_size (projS 1 m) A n c).2
        generalize (projS 1 m).arr A n c = arrW at *
        have c14 : w6.cell? ⟨pp, 14, none⟩ = some (.string m.note) := (blk_cell HP.out 14).trans A14.out
        have c15 : w6.cell? ⟨pp, 15, none⟩ = some (.int .u64 (m.hint : Int)) := (blk_cell HP.out 15).trans A15.out
        have hpl := blk_lt HP.out
        by_cases hnb : m.note.size = 0
        · have e14 : m.note.toList.isEmpty = true := by rw [str_e]; exact decide_eq_true hnb
          have n14 : bN (hasB m 10 = true) = 0 := by rw [has10]; unfold bN; simp [hnb]
          by_cases hhb : m.hint = 0
          · have e15 : ((m.hint : Int) == 0) = true := beq_iff_eq.2 (by omega)
            have e15n : (m.hint == 0) = true := beq_iff_eq.2 hhb
            have n15 : bN (hasB m 11 = true) = 0 := by rw [has11]; unfold bN; simp [hhb]
            have hle := HLE.out
            rw [n14, n15, HMU.out] at hle
            have z1 : ((lf : Int) == 0) = true := beq_iff_eq.2 (by omega)
            have z2 : (lf == 0) = true := beq_iff_eq.2 (by omega)
            clear hle
            have HNB := Lib.hid hnb; have HHB := Lib.hid hhb; clear hnb hhb n14 n15
            go_wp2_with (first | refine gate_guard (by rfl) (wpList_load_row rfl 29 _ rfl pp rfl 29 arrM (0, 0) _ HP.out Try.underlying29 rfl IM.out ?_) | refine wpList_load_row rfl 29 _ rfl pp rfl 29 arrM (0, 0) _ HP.out Try.underlying29 rfl IM.out ?_ | (refine wpList_store_row rfl 29 _ _ rfl w6.heap.size arrW rfl rfl 29 _ (blk_new w6 _) I6.out S6.out O6.out ?_; refine gate_world (F := fun w' => Hid (w'.heap[w6.heap.size]? = some (.cells arrW 29 (0, 0))) ∧ Hid (Below w6.heap.size w6 w')) ⟨Lib.hid (setRow_heap _ _ _ arrW _ _ (blk_new w6 _)), Lib.hid (below_setRow (below_alloc (Below.refl _ w6) _) (Nat.le_refl _) arrW)⟩ ?_; rintro w7 ⟨HV, hb⟩; have hb := hb.out; have c14 := (hb.cell (p := ⟨pp, 14, none⟩) hpl).trans c14; have c15 := (hb.cell (p := ⟨pp, 15, none⟩) hpl).trans c15; replace HB := Lib.hid (HB.out.trans (hb.mono HB.out.size)); replace HW := Lib.hid (HW.out.below hb); replace HP := Lib.hid (blk_below HP.out hb); replace HW4 := Lib.hid (HW4.out.below hb); replace HX := Lib.hid (blk_below HX.out hb); clear hb) | refine gate_guard (by rfl) (wpList_load_row rfl 29 _ rfl gx rfl 29 arrX (0, 0) _ HX.out Try.underlying29 rfl I4.out ?_) | refine wpList_load_row rfl 29 _ rfl gx rfl 29 arrX (0, 0) _ HX.out Try.underlying29 rfl I4.out ?_ | refine gate_guard (by rfl) (wpList_load_row rfl 29 _ rfl w6.heap.size rfl 29 arrW (0, 0) _ HV.out Try.underlying29 rfl I6.out ?_) | refine wpList_load_row rfl 29 _ rfl w6.heap.size rfl 29 arrW (0, 0) _ HV.out Try.underlying29 rfl I6.out ?_ | fail)
            refine (NG.out _).mono ?_
            rintro e w8 ⟨rfl, rfl⟩
            go_wp2_with (first | refine gate_guard (by rfl) (wpList_load_row rfl 29 _ rfl gx rfl 29 arrX (0, 0) _ HX.out Try.underlying29 rfl I4.out ?_) | refine wpList_load_row rfl 29 _ rfl gx rfl 29 arrX (0, 0) _ HX.out Try.underlying29 rfl I4.out ?_ | refine gate_guard (by rfl) (wpList_load_row rfl 29 _ rfl w6.heap.size rfl 29 arrW (0, 0) _ HV.out Try.underlying29 rfl I6.out ?_) | refine wpList_load_row rfl 29 _ rfl w6.heap.size rfl 29 arrW (0, 0) _ HV.out Try.underlying29 rfl I6.out ?_ | fail)
            refine (SM.out _ HW4.out HW.out).mono ?_
            rintro e w8 ⟨rfl, hb⟩
            replace HB := Lib.hid (HB.out.trans (hb.mono HB.out.size))
            go_wp2
            go_ret
            first | exact ⟨rfl, HB.out⟩ | exact ⟨rfl, HPP.out ▸ HB.out⟩
          · have e15 : ((m.hint : Int) == 0) = false := beq_eq_false_iff_ne.2 (by omega)
            have e15n : (m.hint == 0) = false := beq_eq_false_iff_ne.2 hhb
            have n15 : bN (hasB m 11 = true) = 1 := by rw [has11]; unfold bN; simp [hhb]
            have hle := HLE.out
            rw [n14, n15, HMU.out] at hle
            have z1 : ((lf : Int) == 1) = true := beq_iff_eq.2 (by omega)
            have z2 : (lf == 1) = true := beq_iff_eq.2 (by omega)
            clear hle
            have HNB := Lib.hid hnb; have HHB := Lib.hid hhb; clear hnb hhb n14 n15
            go_wp2_with (first | refine gate_guard (by rfl) (wpList_load_row rfl 29 _ rfl pp rfl 29 arrM (0, 0) _ HP.out Try.underlying29 rfl IM.out ?_) | refine wpList_load_row rfl 29 _ rfl pp rfl 29 arrM (0, 0) _ HP.out Try.underlying29 rfl IM.out ?_ | (refine wpList_store_row rfl 29 _ _ rfl w6.heap.size arrW rfl rfl 29 _ (blk_new w6 _) I6.out S6.out O6.out ?_; refine gate_world (F := fun w' => Hid (w'.heap[w6.heap.size]? = some (.cells arrW 29 (0, 0))) ∧ Hid (Below w6.heap.size w6 w')) ⟨Lib.hid (setRow_heap _ _ _ arrW _ _ (blk_new w6 _)), Lib.hid (below_setRow (below_alloc (Below.refl _ w6) _) (Nat.le_refl _) arrW)⟩ ?_; rintro w7 ⟨HV, hb⟩; have hb := hb.out; have c14 := (hb.cell (p := ⟨pp, 14, none⟩) hpl).trans c14; have c15 := (hb.cell (p := ⟨pp, 15, none⟩) hpl).trans c15; replace HB := Lib.hid (HB.out.trans (hb.mono HB.out.size)); replace HW := Lib.hid (HW.out.below hb); replace HP := Lib.hid (blk_below HP.out hb); replace HW4 := Lib.hid (HW4.out.below hb); replace HX := Lib.hid (blk_below HX.out hb); clear hb) | refine gate_guard (by rfl) (wpList_load_row rfl 29 _ rfl gx rfl 29 arrX (0, 0) _ HX.out Try.underlying29 rfl I4.out ?_) | refine wpList_load_row rfl 29 _ rfl gx rfl 29 arrX (0, 0) _ HX.out Try.underlying29 rfl I4.out ?_ | refine gate_guard (by rfl) (wpList_load_row rfl 29 _ rfl w6.heap.size rfl 29 arrW (0, 0) _ HV.out Try.underlying29 rfl I6.out ?_) | refine wpList_load_row rfl 29 _ rfl w6.heap.size rfl 29 arrW (0, 0) _ HV.out Try.underlying29 rfl I6.out ?_ | fail)
            refine (NG.out _).mono ?_
            rintro e w8 ⟨rfl, rfl⟩
            go_wp2_with (first | refine gate_guard (by rfl) (wpList_load_row rfl 29 _ rfl gx rfl 29 arrX (0, 0) _ HX.out Try.underlying29 rfl I4.out ?_) | refine wpList_load_row rfl 29 _ rfl gx rfl 29 arrX (0, 0) _ HX.out Try.underlying29 rfl I4.out ?_ | refine gate_guard (by rfl) (wpList_load_row rfl 29 _ rfl w6.heap.size rfl 29 arrW (0, 0) _ HV.out Try.underlying29 rfl I6.out ?_) | refine wpList_load_row rfl 29 _ rfl w6.heap.size rfl 29 arrW (0, 0) _ HV.out Try.underlying29 rfl I6.out ?_ | fail)
            refine (SM.out _ HW4.out HW.out).mono ?_
            rintro e w8 ⟨rfl, hb⟩
            replace HB := Lib.hid (HB.out.trans (hb.mono HB.out.size))
            go_wp2
            go_ret
            first | exact ⟨rfl, HB.out⟩ | exact ⟨rfl, HPP.out ▸ HB.out⟩
        · have e14 : m.note.toList.isEmpty = false := by rw [str_e]; exact decide_eq_false hnb
          have n14 : bN (hasB m 10 = true) = 1 := by rw [has10]; unfold bN; simp [hnb]
          by_cases hhb : m.hint = 0
          · have e15 : ((m.hint : Int) == 0) = true := beq_iff_eq.2 (by omega)
            have e15n : (m.hint == 0) = true := beq_iff_eq.2 hhb
            have n15 : bN (hasB m 11 = true) = 0 := by rw [has11]; unfold bN; simp [hhb]
            have hle := HLE.out
            rw [n14, n15, HMU.out] at hle
            have z1 : ((lf : Int) == 1) = true := beq_iff_eq.2 (by omega)
            have z2 : (lf == 1) = true := beq_iff_eq.2 (by omega)
            clear hle
            have HNB := Lib.hid hnb; have HHB := Lib.hid hhb; clear hnb hhb n14 n15
            go_wp2_with (first | refine gate_guard (by rfl) (wpList_load_row rfl 29 _ rfl pp rfl 29 arrM (0, 0) _ HP.out Try.underlying29 rfl IM.out ?_) | refine wpList_load_row rfl 29 _ rfl pp rfl 29 arrM (0, 0) _ HP.out Try.underlying29 rfl IM.out ?_ | (refine wpList_store_row rfl 29 _ _ rfl w6.heap.size arrW rfl rfl 29 _ (blk_new w6 _) I6.out S6.out O6.out ?_; refine gate_world (F := fun w' => Hid (w'.heap[w6.heap.size]? = some (.cells arrW 29 (0, 0))) ∧ Hid (Below w6.heap.size w6 w')) ⟨Lib.hid (setRow_heap _ _ _ arrW _ _ (blk_new w6 _)), Lib.hid (below_setRow (below_alloc (Below.refl _ w6) _) (Nat.le_refl _) arrW)⟩ ?_; rintro w7 ⟨HV, hb⟩; have hb := hb.out; have c14 := (hb.cell (p := ⟨pp, 14, none⟩) hpl).trans c14; have c15 := (hb.cell (p := ⟨pp, 15, none⟩) hpl).trans c15; replace HB := Lib.hid (HB.out.trans (hb.mono HB.out.size)); replace HW := Lib.hid (HW.out.below hb); replace HP := Lib.hid (blk_below HP.out hb); replace HW4 := Lib.hid (HW4.out.below hb); replace HX := Lib.hid (blk_below HX.out hb); clear hb) | refine gate_guard (by rfl) (wpList_load_row rfl 29 _ rfl gx rfl 29 arrX (0, 0) _ HX.out Try.underlying29 rfl I4.out ?_) | refine wpList_load_row rfl 29 _ rfl gx rfl 29 arrX (0, 0) _ HX.out Try.underlying29 rfl I4.out ?_ | refine gate_guard (by rfl) (wpList_load_row rfl 29 _ rfl w6.heap.size rfl 29 arrW (0, 0) _ HV.out Try.underlying29 rfl I6.out ?_) | refine wpList_load_row rfl 29 _ rfl w6.heap.size rfl 29 arrW (0, 0) _ HV.out Try.underlying29 rfl I6.out ?_ | fail)
            refine (NG.out _).mono ?_
            rintro e w8 ⟨rfl, rfl⟩
            go_wp2_with (first | refine gate_guard (by rfl) (wpList_load_row rfl 29 _ rfl gx rfl 29 arrX (0, 0) _ HX.out Try.underlying29 rfl I4.out ?_) | refine wpList_load_row rfl 29 _ rfl gx rfl 29 arrX (0, 0) _ HX.out Try.underlying29 rfl I4.out ?_ | refine gate_guard (by rfl) (wpList_load_row rfl 29 _ rfl w6.heap.size rfl 29 arrW (0, 0) _ HV.out Try.underlying29 rfl I6.out ?_) | refine wpList_load_row rfl 29 _ rfl w6.heap.size rfl 29 arrW (0, 0) _ HV.out Try.underlying29 rfl I6.out ?_ | fail)
            refine (SM.out _ HW4.out HW.out).mono ?_
            rintro e w8 ⟨rfl, hb⟩
            replace HB := Lib.hid (HB.out.trans (hb.mono HB.out.size))
            go_wp2
            go_ret
            first | exact ⟨rfl, HB.out⟩ | exact ⟨rfl, HPP.out ▸ HB.out⟩
          · have e15 : ((m.hint : Int) == 0) = false := beq_eq_false_iff_ne.2 (by omega)
            have e15n : (m.hint == 0) = false := beq_eq_false_iff_ne.2 hhb
            have n15 : bN (hasB m 11 = true) = 1 := by rw [has11]; unfold bN; simp [hhb]
            have hle := HLE.out
            rw [n14, n15, HMU.out] at hle
            have z1 : ((lf : Int) == 2) = true := beq_iff_eq.2 (by omega)
            have z2 : (lf == 2) = true := beq_iff_eq.2 (by omega)
            clear hle
            have HNB := Lib.hid hnb; have HHB := Lib.hid hhb; clear hnb hhb n14 n15
            go_wp2_with (first | refine gate_guard (by rfl) (wpList_load_row rfl 29 _ rfl pp rfl 29 arrM (0, 0) _ HP.out Try.underlying29 rfl IM.out ?_) | refine wpList_load_row rfl 29 _ rfl pp rfl 29 arrM (0, 0) _ HP.out Try.underlying29 rfl IM.out ?_ | (refine wpList_store_row rfl 29 _ _ rfl w6.heap.size arrW rfl rfl 29 _ (blk_new w6 _) I6.out S6.out O6.out ?_; refine gate_world (F := fun w' => Hid (w'.heap[w6.heap.size]? = some (.cells arrW 29 (0, 0))) ∧ Hid (Below w6.heap.size w6 w')) ⟨Lib.hid (setRow_heap _ _ _ arrW _ _ (blk_new w6 _)), Lib.hid (below_setRow (below_alloc (Below.refl _ w6) _) (Nat.le_refl _) arrW)⟩ ?_; rintro w7 ⟨HV, hb⟩; have hb := hb.out; have c14 := (hb.cell (p := ⟨pp, 14, none⟩) hpl).trans c14; have c15 := (hb.cell (p := ⟨pp, 15, none⟩) hpl).trans c15; replace HB := Lib.hid (HB.out.trans (hb.mono HB.out.size)); replace HW := Lib.hid (HW.out.below hb); replace HP := Lib.hid (blk_below HP.out hb); replace HW4 := Lib.hid (HW4.out.below hb); replace HX := Lib.hid (blk_below HX.out hb); clear hb) | refine gate_guard (by rfl) (wpList_load_row rfl 29 _ rfl gx rfl 29 arrX (0, 0) _ HX.out Try.underlying29 rfl I4.out ?_) | refine wpList_load_row rfl 29 _ rfl gx rfl 29 arrX (0, 0) _ HX.out Try.underlying29 rfl I4.out ?_ | refine gate_guard (by rfl) (wpList_load_row rfl 29 _ rfl w6.heap.size rfl 29 arrW (0, 0) _ HV.out Try.underlying29 rfl I6.out ?_) | refine wpList_load_row rfl 29 _ rfl w6.heap.size rfl 29 arrW (0, 0) _ HV.out Try.underlying29 rfl I6.out ?_ | fail)
            refine (NG.out _).mono ?_
            rintro e w8 ⟨rfl, rfl⟩
            go_wp2_with (first | refine gate_guard (by rfl) (wpList_load_row rfl 29 _ rfl gx rfl 29 arrX (0, 0) _ HX.out Try.underlying29 rfl I4.out ?_) | refine wpList_load_row rfl 29 _ rfl gx rfl 29 arrX (0, 0) _ HX.out Try.underlying29 rfl I4.out ?_ | refine gate_guard (by rfl) (wpList_load_row rfl 29 _ rfl w6.heap.size rfl 29 arrW (0, 0) _ HV.out Try.underlying29 rfl I6.out ?_) | refine wpList_load_row rfl 29 _ rfl w6.heap.size rfl 29 arrW (0, 0) _ HV.out Try.underlying29 rfl I6.out ?_ | fail)
            refine (SM.out _ HW4.out HW.out).mono ?_
            rintro e w8 ⟨rfl, hb⟩
            replace HB := Lib.hid (HB.out.trans (hb.mono HB.out.size))
            go_wp2
            go_ret
            first | exact ⟨rfl, HB.out⟩ | exact ⟨rfl, HPP.out ▸ HB.out⟩
    · have y0 : ((mayE 3 m : Int) == 0) = false := beq_eq_false_iff_ne.2 (by omega)
      have y0n : (mayE 3 m == 0) = false := beq_eq_false_iff_ne.2 h0
      go_wp2
      go_ret
      first | exact ⟨rfl, HB.out⟩ | exact ⟨rfl, HPP.out ▸ HB.out⟩
set_option maxRecDepth 100000 in
set_option maxHeartbeats 16000000 in
theorem msg_back_32 (m : MsgS) (A : Option Addr) (n c : Nat) (v u : Nat) (w : World) (hw : Wrs w A n m.ws) (hn : n ≤ 140737488351232) (hi : m.In) (hv : v % 3 = 2) (hu : u % 3 = 1) :
    Calls Try.prog 4 #[.agg (m.arr A n c), .int .u8 (v : Int), .int .u8 (u : Int)] w fun e w' => e = .returned (.bool true) ∧ Below w.heap.size w w' := by
  have x1 : (v : Int) % 3 = 2 := by omega
  have x2 : Int.tmod (v : Int) 3 = 2 := by rw [Int.tmod_eq_emod_of_nonneg (by omega)]; exact x1
  have x3 : (u : Int) % 3 = 1 := by omega
  have x4 : Int.tmod (u : Int) 3 = 1 := by rw [Int.tmod_eq_emod_of_nonneg (by omega)]; exact x3
  have FW := Lib.hid (fun (w : World) (hw : Wrs w A n m.ws) => fewm_any m A n c w hw hn hi.key hi.note hi.value)
  have AW := Lib.hid (fun w => awake05 w)
  have hb1 := below_alloc (Below.refl _ w) (.cells (m.arr A n c) 29)
  have HW := Lib.hid (hw.below hb1)
  have HB := Lib.hid hb1
  have HP := Lib.hid (blk_new w (.cells (m.arr A n c) 29))
  have IM := Lib.hid (info_msg.trans (congrArg some (arr_size m A n c).1.symm))
  have EN := Lib.hid (fun (z : m.Z) (w : World) (hw : Wrs w A n m.ws) => encode_any 3 m A n c w z hw)
  have PR := Lib.hid (fun (z : m.Z) (w : World) (hw : Wrs w A n m.ws) => rproject_any 2 m A n c w z hw)
  have NG := Lib.hid (show ∀ W, Calls Try.prog 17 #[.int .i64 3, .int .i64 2] W fun e w' => e = .returned (.int .i64 2) ∧ W = w' from fun W => negotiate_any 3 2 W)
  have A14 := Lib.hid (show (m.arr A n c)[14]? = some (.string m.note) from rfl)
  have A15 := Lib.hid (show (m.arr A n c)[15]? = some (.int .u64 (m.hint : Int)) from rfl)
  obtain ⟨fb, hfb⟩ : ∃ x, fewB m = x := ⟨_, rfl⟩
  rw [hfb] at FW
  have HZ := Lib.hid (show fb = true → m.Z from fun h => hi.z (fewB_few (hfb.trans h)))
  clear hw hb1 hi hfb hv hu
  generalize hMM : m.arr A n c = arrM at *
  have HMM := Lib.hid hMM; clear hMM
  go_enter Try.func4, Try.ntmps4
  go_wp2_with fail
  refine (AW.out _).mono ?_
  rintro e w1 ⟨rfl, hb⟩
  replace HB := Lib.hid (HB.out.trans (hb.mono HB.out.size)); replace HW := Lib.hid (HW.out.below hb); replace HP := Lib.hid (blk_below HP.out hb); clear hb
  obtain ⟨pp, hpp⟩ : ∃ pp, w.heap.size = pp := ⟨_, rfl⟩
  rw [hpp] at HP ⊢
  have HPP := Lib.hid hpp; clear hpp
  go_wp2_with (first | refine gate_guard (by rfl) (wpList_load_row rfl 29 _ rfl pp rfl 29 arrM (0, 0) _ HP.out Try.underlying29 rfl IM.out ?_) | refine wpList_load_row rfl 29 _ rfl pp rfl 29 arrM (0, 0) _ HP.out Try.underlying29 rfl IM.out ?_ | fail)
  refine (FW.out _ HW.out).mono ?_
  rintro e w2 ⟨rfl, hb⟩
  replace HB := Lib.hid (HB.out.trans (hb.mono HB.out.size)); replace HW := Lib.hid (HW.out.below hb); replace HP := Lib.hid (blk_below HP.out hb); clear hb
  cases fb with
  | false =>
    go_wp2_with fail
    refine (AW.out _).mono ?_
    rintro e w3 ⟨rfl, hb⟩
    replace HB := Lib.hid (HB.out.trans (hb.mono HB.out.size))
    go_wp2
    go_ret
    first | exact ⟨rfl, HB.out⟩ | exact ⟨rfl, HPP.out ▸ HB.out⟩
  | true =>
    replace HZ := Lib.hid (HZ.out rfl)
    go_wp2_with (first | refine gate_guard (by rfl) (wpList_load_row rfl 29 _ rfl pp rfl 29 arrM (0, 0) _ HP.out Try.underlying29 rfl IM.out ?_) | refine wpList_load_row rfl 29 _ rfl pp rfl 29 arrM (0, 0) _ HP.out Try.underlying29 rfl IM.out ?_ | fail)
    refine (EN.out HZ.out _ HW.out).mono ?_
    rintro e w3 ⟨rfl, hb⟩
    replace HB := Lib.hid (HB.out.trans (hb.mono HB.out.size)); replace HW := Lib.hid (HW.out.below hb); replace HP := Lib.hid (blk_below HP.out hb); clear hb
    by_cases h0 : mayE 3 m = 0
    · obtain ⟨o1, -, o3⟩ := may_ok h0
      have HG := Lib.hid (right_good HZ.out o1)
      have HD := Lib.hid (dec_back HG.out o1 (v := 2) (hi := 12) (by decide) (by decide) (by decide))
      rw [show knownS 2 = 10 from rfl, crit_2_3, left_2_3] at HD
      rw [show encS 3 m = bytesN m 12 from if_pos h0, h0]
      have HSZ := Lib.hid (show (bytesN m 12).size ≤ 140737488351232 from Nat.le_trans (bytes_mono m (show 12 ≤ 12 by decide)) (Nat.le_trans (right_size o1) (by decide)))
      have HR := Lib.hid o1
      have HM := Lib.hid o3
      have ML := Lib.hid (show mayE 2 m = if m.must ≠ 0 ∧ 10 < 12 then 4 else 0 by unfold mayE; rw [if_neg (by rintro (h | h); exact absurd h (by decide); rw [o1] at h; cases h)]; rfl)
      have hfit := HG.out.fit
      clear h0 o1 o3
      obtain ⟨sB, hsB⟩ : ∃ x, bytesN m 12 = x := ⟨_, rfl⟩
      rw [hsB] at HD HSZ ⊢
      clear hsB
      by_cases hmu : m.must ≠ 0
      · have HDQ := Lib.hid (show decM 2 sB = (zeroM, 0, 4) from HD.out.trans (if_pos (by rw [has12]; exact decide_eq_true hmu)))
        have PRJ := Lib.hid (fun (W : World) (hw : Wrs W A n m.ws) => PR.out HZ.out W hw)
        have ml := ML.out
        rw [if_pos ⟨hmu, by decide⟩] at ml
        simp only [ml, if_neg (show ¬ (4 : Nat) = 0 by decide)] at PRJ
        clear ml
        go_wp2_with fail
        refine (dec_is HDQ.out _ HSZ.out).mono ?_
        rintro e w4 ⟨A4, c4, rfl, hw4, hb⟩
        replace HB := Lib.hid (HB.out.trans (hb.mono HB.out.size)); replace HW := Lib.hid (HW.out.below hb); replace HP := Lib.hid (blk_below HP.out hb); clear hb
        have HW4 := Lib.hid hw4; clear hw4
        have I4 := Lib.hid (info_msg.trans (congrArg some (arr_size zeroM A4 zeroM.ws.length c4).1.symm))
        have S4 := Lib.hid (show 17 = (zeroM.arr A4 zeroM.ws.length c4).size from (arr_size zeroM A4 zeroM.ws.length c4).1.symm)
        have O4 := Lib.hid (arr_size zeroM A4 zeroM.ws.length c4).2
        have SM := Lib.hid (show ∀ W, Calls Try.prog 15 #[.agg (zeroM.arr A4 zeroM.ws.length c4), .agg #[.int .i64 0, .int .i64 0, .int .i64 0, .int .i64 0, .int .i64 0, .int .i64 0, .int .u64 0, .int .u64 0, .string ⟨#[]⟩, .bool false, .int .u64 0, .bool false, .string ⟨#[]⟩, .slice none 0 0, .string ⟨#[]⟩, .int .u64 0, .int .u64 0]] W fun e w' => e = .returned (.bool true) ∧ Below W.heap.size W w' from fun W => by
            have h := same_any zeroM zeroM A4 none zeroM.ws.length c4 0 0 W zeroM_fit zeroM_fit ⟨rfl, fun h => absurd h (by decide)⟩ (Wrs.nil W)
            rw [beq_self_eq_true] at h
            exact h)
        generalize zeroM.arr A4 zeroM.ws.length c4 = arrX at *
        go_wp2_with (first | refine gate_guard (by rfl) (wpList_load_row rfl 29 _ rfl pp rfl 29 arrM (0, 0) _ HP.out Try.underlying29 rfl IM.out ?_) | refine wpList_load_row rfl 29 _ rfl pp rfl 29 arrM (0, 0) _ HP.out Try.underlying29 rfl IM.out ?_ | (refine wpList_store_row rfl 29 _ _ rfl w4.heap.size arrX rfl rfl 29 _ (blk_new w4 _) I4.out S4.out O4.out ?_; refine gate_world (F := fun w' => Hid (w'.heap[w4.heap.size]? = some (.cells arrX 29 (0, 0))) ∧ Hid (Below w4.heap.size w4 w')) ⟨Lib.hid (setRow_heap _ _ _ arrX _ _ (blk_new w4 _)), Lib.hid (below_setRow (below_alloc (Below.refl _ w4) _) (Nat.le_refl _) arrX)⟩ ?_; rintro w5 ⟨HX, hb⟩; have hb := hb.out; replace HB := Lib.hid (HB.out.trans (hb.mono HB.out.size)); replace HW := Lib.hid (HW.out.below hb); replace HP := Lib.hid (blk_below HP.out hb); replace HW4 := Lib.hid (HW4.out.below hb); clear hb) | fail)
        have HX4 := Lib.hid HX.out
        refine (PRJ.out _ HW.out).mono ?_
        rintro e w6 ⟨rfl, hb⟩
        replace HB := Lib.hid (HB.out.trans (hb.mono HB.out.size)); replace HW := Lib.hid (HW.out.below hb); replace HP := Lib.hid (blk_below HP.out hb); replace HW4 := Lib.hid (HW4.out.below hb); replace HX := Lib.hid (blk_below HX.out hb); clear hb HX4
        obtain ⟨gx, hgx⟩ : ∃ x, w4.heap.size = x := ⟨_, rfl⟩
        rw [hgx] at HX ⊢
        clear hgx
        have I6 := Lib.hid (info_msg.trans (congrArg some (arr_size zeroM none 0 0).1.symm))
        have S6 := Lib.hid (show 17 = (zeroM.arr none 0 0).size from (arr_size zeroM none 0 0).1.symm)
        have O6 := Lib.hid (arr_size zeroM none 0 0).2
        generalize zeroM.arr none 0 0 = arrW at *
        have c14 : w6.cell? ⟨pp, 14, none⟩ = some (.string m.note) := (blk_cell HP.out 14).trans A14.out
        have c15 : w6.cell? ⟨pp, 15, none⟩ = some (.int .u64 (m.hint : Int)) := (blk_cell HP.out 15).trans A15.out
        have hpl := blk_lt HP.out
        by_cases hnb : m.note.size = 0
        · have e14 : m.note.toList.isEmpty = true := by rw [str_e]; exact decide_eq_true hnb
          have n14 : bN (hasB m 10 = true) = 0 := by rw [has10]; unfold bN; simp [hnb]
          by_cases hhb : m.hint = 0
          · have e15 : ((m.hint : Int) == 0) = true := beq_iff_eq.2 (by omega)
            have e15n : (m.hint == 0) = true := beq_iff_eq.2 hhb
            have HNB := Lib.hid hnb; have HHB := Lib.hid hhb; clear hnb hhb n14
            go_wp2_with (first | refine gate_guard (by rfl) (wpList_load_row rfl 29 _ rfl pp rfl 29 arrM (0, 0) _ HP.out Try.underlying29 rfl IM.out ?_) | refine wpList_load_row rfl 29 _ rfl pp rfl 29 arrM (0, 0) _ HP.out Try.underlying29 rfl IM.out ?_ | (refine wpList_store_row rfl 29 _ _ rfl w6.heap.size arrW rfl rfl 29 _ (blk_new w6 _) I6.out S6.out O6.out ?_; refine gate_world (F := fun w' => Hid (w'.heap[w6.heap.size]? = some (.cells arrW 29 (0, 0))) ∧ Hid (Below w6.heap.size w6 w')) ⟨Lib.hid (setRow_heap _ _ _ arrW _ _ (blk_new w6 _)), Lib.hid (below_setRow (below_alloc (Below.refl _ w6) _) (Nat.le_refl _) arrW)⟩ ?_; rintro w7 ⟨HV, hb⟩; have hb := hb.out; have c14 := (hb.cell (p := ⟨pp, 14, none⟩) hpl).trans c14; have c15 := (hb.cell (p := ⟨pp, 15, none⟩) hpl).trans c15; replace HB := Lib.hid (HB.out.trans (hb.mono HB.out.size)); replace HW := Lib.hid (HW.out.below hb); replace HP := Lib.hid (blk_below HP.out hb); replace HW4 := Lib.hid (HW4.out.below hb); replace HX := Lib.hid (blk_below HX.out hb); clear hb) | refine gate_guard (by rfl) (wpList_load_row rfl 29 _ rfl gx rfl 29 arrX (0, 0) _ HX.out Try.underlying29 rfl I4.out ?_) | refine wpList_load_row rfl 29 _ rfl gx rfl 29 arrX (0, 0) _ HX.out Try.underlying29 rfl I4.out ?_ | refine gate_guard (by rfl) (wpList_load_row rfl 29 _ rfl w6.heap.size rfl 29 arrW (0, 0) _ HV.out Try.underlying29 rfl I6.out ?_) | refine wpList_load_row rfl 29 _ rfl w6.heap.size rfl 29 arrW (0, 0) _ HV.out Try.underlying29 rfl I6.out ?_ | fail)
            refine (SM.out _).mono ?_
            rintro e w8 ⟨rfl, hb⟩
            replace HB := Lib.hid (HB.out.trans (hb.mono HB.out.size))
            go_wp2
            go_ret
            first | exact ⟨rfl, HB.out⟩ | exact ⟨rfl, HPP.out ▸ HB.out⟩
          · have e15 : ((m.hint : Int) == 0) = false := beq_eq_false_iff_ne.2 (by omega)
            have e15n : (m.hint == 0) = false := beq_eq_false_iff_ne.2 hhb
            have HNB := Lib.hid hnb; have HHB := Lib.hid hhb; clear hnb hhb n14
            go_wp2_with (first | refine gate_guard (by rfl) (wpList_load_row rfl 29 _ rfl pp rfl 29 arrM (0, 0) _ HP.out Try.underlying29 rfl IM.out ?_) | refine wpList_load_row rfl 29 _ rfl pp rfl 29 arrM (0, 0) _ HP.out Try.underlying29 rfl IM.out ?_ | (refine wpList_store_row rfl 29 _ _ rfl w6.heap.size arrW rfl rfl 29 _ (blk_new w6 _) I6.out S6.out O6.out ?_; refine gate_world (F := fun w' => Hid (w'.heap[w6.heap.size]? = some (.cells arrW 29 (0, 0))) ∧ Hid (Below w6.heap.size w6 w')) ⟨Lib.hid (setRow_heap _ _ _ arrW _ _ (blk_new w6 _)), Lib.hid (below_setRow (below_alloc (Below.refl _ w6) _) (Nat.le_refl _) arrW)⟩ ?_; rintro w7 ⟨HV, hb⟩; have hb := hb.out; have c14 := (hb.cell (p := ⟨pp, 14, none⟩) hpl).trans c14; have c15 := (hb.cell (p := ⟨pp, 15, none⟩) hpl).trans c15; replace HB := Lib.hid (HB.out.trans (hb.mono HB.out.size)); replace HW := Lib.hid (HW.out.below hb); replace HP := Lib.hid (blk_below HP.out hb); replace HW4 := Lib.hid (HW4.out.below hb); replace HX := Lib.hid (blk_below HX.out hb); clear hb) | refine gate_guard (by rfl) (wpList_load_row rfl 29 _ rfl gx rfl 29 arrX (0, 0) _ HX.out Try.underlying29 rfl I4.out ?_) | refine wpList_load_row rfl 29 _ rfl gx rfl 29 arrX (0, 0) _ HX.out Try.underlying29 rfl I4.out ?_ | refine gate_guard (by rfl) (wpList_load_row rfl 29 _ rfl w6.heap.size rfl 29 arrW (0, 0) _ HV.out Try.underlying29 rfl I6.out ?_) | refine wpList_load_row rfl 29 _ rfl w6.heap.size rfl 29 arrW (0, 0) _ HV.out Try.underlying29 rfl I6.out ?_ | fail)
            refine (SM.out _).mono ?_
            rintro e w8 ⟨rfl, hb⟩
            replace HB := Lib.hid (HB.out.trans (hb.mono HB.out.size))
            go_wp2
            go_ret
            first | exact ⟨rfl, HB.out⟩ | exact ⟨rfl, HPP.out ▸ HB.out⟩
        · have e14 : m.note.toList.isEmpty = false := by rw [str_e]; exact decide_eq_false hnb
          have n14 : bN (hasB m 10 = true) = 1 := by rw [has10]; unfold bN; simp [hnb]
          by_cases hhb : m.hint = 0
          · have e15 : ((m.hint : Int) == 0) = true := beq_iff_eq.2 (by omega)
            have e15n : (m.hint == 0) = true := beq_iff_eq.2 hhb
            have HNB := Lib.hid hnb; have HHB := Lib.hid hhb; clear hnb hhb n14
            go_wp2_with (first | refine gate_guard (by rfl) (wpList_load_row rfl 29 _ rfl pp rfl 29 arrM (0, 0) _ HP.out Try.underlying29 rfl IM.out ?_) | refine wpList_load_row rfl 29 _ rfl pp rfl 29 arrM (0, 0) _ HP.out Try.underlying29 rfl IM.out ?_ | (refine wpList_store_row rfl 29 _ _ rfl w6.heap.size arrW rfl rfl 29 _ (blk_new w6 _) I6.out S6.out O6.out ?_; refine gate_world (F := fun w' => Hid (w'.heap[w6.heap.size]? = some (.cells arrW 29 (0, 0))) ∧ Hid (Below w6.heap.size w6 w')) ⟨Lib.hid (setRow_heap _ _ _ arrW _ _ (blk_new w6 _)), Lib.hid (below_setRow (below_alloc (Below.refl _ w6) _) (Nat.le_refl _) arrW)⟩ ?_; rintro w7 ⟨HV, hb⟩; have hb := hb.out; have c14 := (hb.cell (p := ⟨pp, 14, none⟩) hpl).trans c14; have c15 := (hb.cell (p := ⟨pp, 15, none⟩) hpl).trans c15; replace HB := Lib.hid (HB.out.trans (hb.mono HB.out.size)); replace HW := Lib.hid (HW.out.below hb); replace HP := Lib.hid (blk_below HP.out hb); replace HW4 := Lib.hid (HW4.out.below hb); replace HX := Lib.hid (blk_below HX.out hb); clear hb) | refine gate_guard (by rfl) (wpList_load_row rfl 29 _ rfl gx rfl 29 arrX (0, 0) _ HX.out Try.underlying29 rfl I4.out ?_) | refine wpList_load_row rfl 29 _ rfl gx rfl 29 arrX (0, 0) _ HX.out Try.underlying29 rfl I4.out ?_ | refine gate_guard (by rfl) (wpList_load_row rfl 29 _ rfl w6.heap.size rfl 29 arrW (0, 0) _ HV.out Try.underlying29 rfl I6.out ?_) | refine wpList_load_row rfl 29 _ rfl w6.heap.size rfl 29 arrW (0, 0) _ HV.out Try.underlying29 rfl I6.out ?_ | fail)
            refine (SM.out _).mono ?_
            rintro e w8 ⟨rfl, hb⟩
            replace HB := Lib.hid (HB.out.trans (hb.mono HB.out.size))
            go_wp2
            go_ret
            first | exact ⟨rfl, HB.out⟩ | exact ⟨rfl, HPP.out ▸ HB.out⟩
          · have e15 : ((m.hint : Int) == 0) = false := beq_eq_false_iff_ne.2 (by omega)
            have e15n : (m.hint == 0) = false := beq_eq_false_iff_ne.2 hhb
            have HNB := Lib.hid hnb; have HHB := Lib.hid hhb; clear hnb hhb n14
            go_wp2_with (first | refine gate_guard (by rfl) (wpList_load_row rfl 29 _ rfl pp rfl 29 arrM (0, 0) _ HP.out Try.underlying29 rfl IM.out ?_) | refine wpList_load_row rfl 29 _ rfl pp rfl 29 arrM (0, 0) _ HP.out Try.underlying29 rfl IM.out ?_ | (refine wpList_store_row rfl 29 _ _ rfl w6.heap.size arrW rfl rfl 29 _ (blk_new w6 _) I6.out S6.out O6.out ?_; refine gate_world (F := fun w' => Hid (w'.heap[w6.heap.size]? = some (.cells arrW 29 (0, 0))) ∧ Hid (Below w6.heap.size w6 w')) ⟨Lib.hid (setRow_heap _ _ _ arrW _ _ (blk_new w6 _)), Lib.hid (below_setRow (below_alloc (Below.refl _ w6) _) (Nat.le_refl _) arrW)⟩ ?_; rintro w7 ⟨HV, hb⟩; have hb := hb.out; have c14 := (hb.cell (p := ⟨pp, 14, none⟩) hpl).trans c14; have c15 := (hb.cell (p := ⟨pp, 15, none⟩) hpl).trans c15; replace HB := Lib.hid (HB.out.trans (hb.mono HB.out.size)); replace HW := Lib.hid (HW.out.below hb); replace HP := Lib.hid (blk_below HP.out hb); replace HW4 := Lib.hid (HW4.out.below hb); replace HX := Lib.hid (blk_below HX.out hb); clear hb) | refine gate_guard (by rfl) (wpList_load_row rfl 29 _ rfl gx rfl 29 arrX (0, 0) _ HX.out Try.underlying29 rfl I4.out ?_) | refine wpList_load_row rfl 29 _ rfl gx rfl 29 arrX (0, 0) _ HX.out Try.underlying29 rfl I4.out ?_ | refine gate_guard (by rfl) (wpList_load_row rfl 29 _ rfl w6.heap.size rfl 29 arrW (0, 0) _ HV.out Try.underlying29 rfl I6.out ?_) | refine wpList_load_row rfl 29 _ rfl w6.heap.size rfl 29 arrW (0, 0) _ HV.out Try.underlying29 rfl I6.out ?_ | fail)
            refine (SM.out _).mono ?_
            rintro e w8 ⟨rfl, hb⟩
            replace HB := Lib.hid (HB.out.trans (hb.mono HB.out.size))
            go_wp2
            go_ret
            first | exact ⟨rfl, HB.out⟩ | exact ⟨rfl, HPP.out ▸ HB.out⟩
      · have hmu0 : m.must = 0 := Decidable.of_not_not hmu
        have HMU := Lib.hid (show bN (hasB m 12 = true) = 0 by rw [has12]; unfold bN; simp [hmu0])
        have ml := ML.out
        rw [if_neg (fun h => hmu h.1)] at ml
        have hcr : ¬ hasB m 12 = true := by rw [has12]; simp [hmu0]
        obtain ⟨lf, hlf⟩ : ∃ x, 0 + bN (hasB m 11 = true) + bN (hasB m 12 = true) = x := ⟨_, rfl⟩
        have HLE := Lib.hid hlf
        have HDQ := Lib.hid (show decM 2 sB = (projS 2 m, lf, 0) from HD.out.trans ((if_neg hcr).trans (by rw [hlf, ← restr_proj ml]; rfl)))
        have PRJ := Lib.hid (fun (W : World) (hw : Wrs W A n m.ws) => PR.out HZ.out W hw)
        simp only [ml, if_pos (show (0 : Nat) = 0 from rfl)] at PRJ
        clear ml hcr hlf
        go_wp2_with fail
        refine (dec_is HDQ.out _ HSZ.out).mono ?_
        rintro e w4 ⟨A4, c4, rfl, hw4, hb⟩
        replace HB := Lib.hid (HB.out.trans (hb.mono HB.out.size)); replace HW := Lib.hid (HW.out.below hb); replace HP := Lib.hid (blk_below HP.out hb); clear hb
        have HW4 := Lib.hid hw4; clear hw4
        have I4 := Lib.hid (info_msg.trans (congrArg some (arr_size (projS 2 m) A4 (projS 2 m).ws.length c4).1.symm))
        have S4 := Lib.hid (show 17 = ((projS 2 m).arr A4 (projS 2 m).ws.length c4).size from (arr_size (projS 2 m) A4 (projS 2 m).ws.length c4).1.symm)
        have O4 := Lib.hid (arr_size (projS 2 m) A4 (projS 2 m).ws.length c4).2
        have SM := Lib.hid (fun W (hw : Wrs W A4 (projS 2 m).ws.length (projS 2 m).ws) (hw2 : Wrs W A n m.ws) => (show Calls Try.prog 15 #[.agg ((projS 2 m).arr A4 (projS 2 m).ws.length c4), .agg ((projS 2 m).arr A n c)] W fun e w' => e = .returned (.bool true) ∧ Below W.heap.size W w' from by
            have h := same_any (projS 2 m) (projS 2 m) A4 A (projS 2 m).ws.length c4 n c W (projS_fit hfit) (projS_fit hfit) hw hw2
            rw [beq_self_eq_true] at h
            exact h))
        generalize (projS 2 m).arr A4 (projS 2 m).ws.length c4 = arrX at *
        go_wp2_with (first | refine gate_guard (by rfl) (wpList_load_row rfl 29 _ rfl pp rfl 29 arrM (0, 0) _ HP.out Try.underlying29 rfl IM.out ?_) | refine wpList_load_row rfl 29 _ rfl pp rfl 29 arrM (0, 0) _ HP.out Try.underlying29 rfl IM.out ?_ | (refine wpList_store_row rfl 29 _ _ rfl w4.heap.size arrX rfl rfl 29 _ (blk_new w4 _) I4.out S4.out O4.out ?_; refine gate_world (F := fun w' => Hid (w'.heap[w4.heap.size]? = some (.cells arrX 29 (0, 0))) ∧ Hid (Below w4.heap.size w4 w')) ⟨Lib.hid (setRow_heap _ _ _ arrX _ _ (blk_new w4 _)), Lib.hid (below_setRow (below_alloc (Below.refl _ w4) _) (Nat.le_refl _) arrX)⟩ ?_; rintro w5 ⟨HX, hb⟩; have hb := hb.out; replace HB := Lib.hid (HB.out.trans (hb.mono HB.out.size)); replace HW := Lib.hid (HW.out.below hb); replace HP := Lib.hid (blk_below HP.out hb); replace HW4 := Lib.hid (HW4.out.below hb); clear hb) | fail)
        have HX4 := Lib.hid HX.out
        refine (PRJ.out _ HW.out).mono ?_
        rintro e w6 ⟨rfl, hb⟩
        replace HB := Lib.hid (HB.out.trans (hb.mono HB.out.size)); replace HW := Lib.hid (HW.out.below hb); replace HP := Lib.hid (blk_below HP.out hb); replace HW4 := Lib.hid (HW4.out.below hb); replace HX := Lib.hid (blk_below HX.out hb); clear hb HX4
        obtain ⟨gx, hgx⟩ : ∃ x, w4.heap.size = x := ⟨_, rfl⟩
        rw [hgx] at HX ⊢
        clear hgx
        have I6 := Lib.hid (info_msg.trans (congrArg some (arr_size (projS 2 m) A n c).1.symm))
        have S6 := Lib.hid (show 17 = ((projS 2 m).arr A n c).size from (arr_size (projS 2 m) A n c).1.symm)
        have O6 := Lib.hid (arr_size (projS 2 m) A n c).2
        generalize (projS 2 m).arr A n c = arrW at *
        have c14 : w6.cell? ⟨pp, 14, none⟩ = some (.string m.note) := (blk_cell HP.out 14).trans A14.out
        have c15 : w6.cell? ⟨pp, 15, none⟩ = some (.int .u64 (m.hint : Int)) := (blk_cell HP.out 15).trans A15.out
        have hpl := blk_lt HP.out
        by_cases hnb : m.note.size = 0
        · have e14 : m.note.toList.isEmpty = true := by rw [str_e]; exact decide_eq_true hnb
          have n14 : bN (hasB m 10 = true) = 0 := by rw [has10]; unfold bN; simp [hnb]
          by_cases hhb : m.hint = 0
          · have e15 : ((m.hint : Int) == 0) = true := beq_iff_eq.2 (by omega)
            have e15n : (m.hint == 0) = true := beq_iff_eq.2 hhb
            have n15 : bN (hasB m 11 = true) = 0 := by rw [has11]; unfold bN; simp [hhb]
            have hle := HLE.out
            rw [n15, HMU.out] at hle
            have z1 : ((lf : Int) == 0) = true := beq_iff_eq.2 (by omega)
            have z2 : (lf == 0) = true := beq_iff_eq.2 (by omega)
            clear hle
            have HNB := Lib.hid hnb; have HHB := Lib.hid hhb; clear hnb hhb n14 n15
            go_wp2_with (first | refine gate_guard (by rfl) (wpList_load_row rfl 29 _ rfl pp rfl 29 arrM (0, 0) _ HP.out Try.underlying29 rfl IM.out ?_) | refine wpList_load_row rfl 29 _ rfl pp rfl 29 arrM (0, 0) _ HP.out Try.underlying29 rfl IM.out ?_ | (refine wpList_store_row rfl 29 _ _ rfl w6.heap.size arrW rfl rfl 29 _ (blk_new w6 _) I6.out S6.out O6.out ?_; refine gate_world (F := fun w' => Hid (w'.heap[w6.heap.size]? = some (.cells arrW 29 (0, 0))) ∧ Hid (Below w6.heap.size w6 w')) ⟨Lib.hid (setRow_heap _ _ _ arrW _ _ (blk_new w6 _)), Lib.hid (below_setRow (below_alloc (Below.refl _ w6) _) (Nat.le_refl _) arrW)⟩ ?_; rintro w7 ⟨HV, hb⟩; have hb := hb.out; have c14 := (hb.cell (p := ⟨pp, 14, none⟩) hpl).trans c14; have c15 := (hb.cell (p := ⟨pp, 15, none⟩) hpl).trans c15; replace HB := Lib.hid (HB.out.trans (hb.mono HB.out.size)); replace HW := Lib.hid (HW.out.below hb); replace HP := Lib.hid (blk_below HP.out hb); replace HW4 := Lib.hid (HW4.out.below hb); replace HX := Lib.hid (blk_below HX.out hb); clear hb) | refine gate_guard (by rfl) (wpList_load_row rfl 29 _ rfl gx rfl 29 arrX (0, 0) _ HX.out Try.underlying29 rfl I4.out ?_) | refine wpList_load_row rfl 29 _ rfl gx rfl 29 arrX (0, 0) _ HX.out Try.underlying29 rfl I4.out ?_ | refine gate_guard (by rfl) (wpList_load_row rfl 29 _ rfl w6.heap.size rfl 29 arrW (0, 0) _ HV.out Try.underlying29 rfl I6.out ?_) | refine wpList_load_row rfl 29 _ rfl w6.heap.size rfl 29 arrW (0, 0) _ HV.out Try.underlying29 rfl I6.out ?_ | fail)
            refine (NG.out _).mono ?_
            rintro e w8 ⟨rfl, rfl⟩
            go_wp2_with (first | refine gate_guard (by rfl) (wpList_load_row rfl 29 _ rfl gx rfl 29 arrX (0, 0) _ HX.out Try.underlying29 rfl I4.out ?_) | refine wpList_load_row rfl 29 _ rfl gx rfl 29 arrX (0, 0) _ HX.out Try.underlying29 rfl I4.out ?_ | refine gate_guard (by rfl) (wpList_load_row rfl 29 _ rfl w6.heap.size rfl 29 arrW (0, 0) _ HV.out Try.underlying29 rfl I6.out ?_) | refine wpList_load_row rfl 29 _ rfl w6.heap.size rfl 29 arrW (0, 0) _ HV.out Try.underlying29 rfl I6.out ?_ | fail)
            refine (SM.out _ HW4.out HW.out).mono ?_
            rintro e w8 ⟨rfl, hb⟩
            replace HB := Lib.hid (HB.out.trans (hb.mono HB.out.size))
            go_wp2
            go_ret
            first | exact ⟨rfl, HB.out⟩ | exact ⟨rfl, HPP.out ▸ HB.out⟩
          · have e15 : ((m.hint : Int) == 0) = false := beq_eq_false_iff_ne.2 (by omega)
            have e15n : (m.hint == 0) = false := beq_eq_false_iff_ne.2 hhb
            have n15 : bN (hasB m 11 = true) = 1 := by rw [has11]; unfold bN; simp [hhb]
            have hle := HLE.out
            rw [n15, HMU.out] at hle
            have z1 : ((lf : Int) == 1) = true := beq_iff_eq.2 (by omega)
            have z2 : (lf == 1) = true := beq_iff_eq.2 (by omega)
            clear hle
            have HNB := Lib.hid hnb; have HHB := Lib.hid hhb; clear hnb hhb n14 n15
            go_wp2_with (first | refine gate_guard (by rfl) (wpList_load_row rfl 29 _ rfl pp rfl 29 arrM (0, 0) _ HP.out Try.underlying29 rfl IM.out ?_) | refine wpList_load_row rfl 29 _ rfl pp rfl 29 arrM (0, 0) _ HP.out Try.underlying29 rfl IM.out ?_ | (refine wpList_store_row rfl 29 _ _ rfl w6.heap.size arrW rfl rfl 29 _ (blk_new w6 _) I6.out S6.out O6.out ?_; refine gate_world (F := fun w' => Hid (w'.heap[w6.heap.size]? = some (.cells arrW 29 (0, 0))) ∧ Hid (Below w6.heap.size w6 w')) ⟨Lib.hid (setRow_heap _ _ _ arrW _ _ (blk_new w6 _)), Lib.hid (below_setRow (below_alloc (Below.refl _ w6) _) (Nat.le_refl _) arrW)⟩ ?_; rintro w7 ⟨HV, hb⟩; have hb := hb.out; have c14 := (hb.cell (p := ⟨pp, 14, none⟩) hpl).trans c14; have c15 := (hb.cell (p := ⟨pp, 15, none⟩) hpl).trans c15; replace HB := Lib.hid (HB.out.trans (hb.mono HB.out.size)); replace HW := Lib.hid (HW.out.below hb); replace HP := Lib.hid (blk_below HP.out hb); replace HW4 := Lib.hid (HW4.out.below hb); replace HX := Lib.hid (blk_below HX.out hb); clear hb) | refine gate_guard (by rfl) (wpList_load_row rfl 29 _ rfl gx rfl 29 arrX (0, 0) _ HX.out Try.underlying29 rfl I4.out ?_) | refine wpList_load_row rfl 29 _ rfl gx rfl 29 arrX (0, 0) _ HX.out Try.underlying29 rfl I4.out ?_ | refine gate_guard (by rfl) (wpList_load_row rfl 29 _ rfl w6.heap.size rfl 29 arrW (0, 0) _ HV.out Try.underlying29 rfl I6.out ?_) | refine wpList_load_row rfl 29 _ rfl w6.heap.size rfl 29 arrW (0, 0) _ HV.out Try.underlying29 rfl I6.out ?_ | fail)
            refine (NG.out _).mono ?_
            rintro e w8 ⟨rfl, rfl⟩
            go_wp2_with (first | refine gate_guard (by rfl) (wpList_load_row rfl 29 _ rfl gx rfl 29 arrX (0, 0) _ HX.out Try.underlying29 rfl I4.out ?_) | refine wpList_load_row rfl 29 _ rfl gx rfl 29 arrX (0, 0) _ HX.out Try.underlying29 rfl I4.out ?_ | refine gate_guard (by rfl) (wpList_load_row rfl 29 _ rfl w6.heap.size rfl 29 arrW (0, 0) _ HV.out Try.underlying29 rfl I6.out ?_) | refine wpList_load_row rfl 29 _ rfl w6.heap.size rfl 29 arrW (0, 0) _ HV.out Try.underlying29 rfl I6.out ?_ | fail)
            refine (SM.out _ HW4.out HW.out).mono ?_
            rintro e w8 ⟨rfl, hb⟩
            replace HB := Lib.hid (HB.out.trans (hb.mono HB.out.size))
            go_wp2
            go_ret
            first | exact ⟨rfl, HB.out⟩ | exact ⟨rfl, HPP.out ▸ HB.out⟩
        · have e14 : m.note.toList.isEmpty = false := by rw [str_e]; exact decide_eq_false hnb
          have n14 : bN (hasB m 10 = true) = 1 := by rw [has10]; unfold bN; simp [hnb]
          by_cases hhb : m.hint = 0
          · have e15 : ((m.hint : Int) == 0) = true := beq_iff_eq.2 (by omega)
            have e15n : (m.hint == 0) = true := beq_iff_eq.2 hhb
            have n15 : bN (hasB m 11 = true) = 0 := by rw [has11]; unfold bN; simp [hhb]
            have hle := HLE.out
            rw [n15, HMU.out] at hle
            have z1 : ((lf : Int) == 0) = true := beq_iff_eq.2 (by omega)
            have z2 : (lf == 0) = true := beq_iff_eq.2 (by omega)
            clear hle
            have HNB := Lib.hid hnb; have HHB := Lib.hid hhb; clear hnb hhb n14 n15
            go_wp2_with (first | refine gate_guard (by rfl) (wpList_load_row rfl 29 _ rfl pp rfl 29 arrM (0, 0) _ HP.out Try.underlying29 rfl IM.out ?_) | refine wpList_load_row rfl 29 _ rfl pp rfl 29 arrM (0, 0) _ HP.out Try.underlying29 rfl IM.out ?_ | (refine wpList_store_row rfl 29 _ _ rfl w6.heap.size arrW rfl rfl 29 _ (blk_new w6 _) I6.out S6.out O6.out ?_; refine gate_world (F := fun w' => Hid (w'.heap[w6.heap.size]? = some (.cells arrW 29 (0, 0))) ∧ Hid (Below w6.heap.size w6 w')) ⟨Lib.hid (setRow_heap _ _ _ arrW _ _ (blk_new w6 _)), Lib.hid (below_setRow (below_alloc (Below.refl _ w6) _) (Nat.le_refl _) arrW)⟩ ?_; rintro w7 ⟨HV, hb⟩; have hb := hb.out; have c14 := (hb.cell (p := ⟨pp, 14, none⟩) hpl).trans c14; have c15 := (hb.cell (p := ⟨pp, 15, none⟩) hpl).trans c15; replace HB := Lib.hid (HB.out.trans (hb.mono HB.out.size)); replace HW := Lib.hid (HW.out.below hb); replace HP := Lib.hid (blk_below HP.out hb); replace HW4 := Lib.hid (HW4.out.below hb); replace HX := Lib.hid (blk_below HX.out hb); clear hb) | refine gate_guard (by rfl) (wpList_load_row rfl 29 _ rfl gx rfl 29 arrX (0, 0) _ HX.out Try.underlying29 rfl I4.out ?_) | refine wpList_load_row rfl 29 _ rfl gx rfl 29 arrX (0, 0) _ HX.out Try.underlying29 rfl I4.out ?_ | refine gate_guard (by rfl) (wpList_load_row rfl 29 _ rfl w6.heap.size rfl 29 arrW (0, 0) _ HV.out Try.underlying29 rfl I6.out ?_) | refine wpList_load_row rfl 29 _ rfl w6.heap.size rfl 29 arrW (0, 0) _ HV.out Try.underlying29 rfl I6.out ?_ | fail)
            refine (NG.out _).mono ?_
            rintro e w8 ⟨rfl, rfl⟩
            go_wp2_with (first | refine gate_guard (by rfl) (wpList_load_row rfl 29 _ rfl gx rfl 29 arrX (0, 0) _ HX.out Try.underlying29 rfl I4.out ?_) | refine wpList_load_row rfl 29 _ rfl gx rfl 29 arrX (0, 0) _ HX.out Try.underlying29 rfl I4.out ?_ | refine gate_guard (by rfl) (wpList_load_row rfl 29 _ rfl w6.heap.size rfl 29 arrW (0, 0) _ HV.out Try.underlying29 rfl I6.out ?_) | refine wpList_load_row rfl 29 _ rfl w6.heap.size rfl 29 arrW (0, 0) _ HV.out Try.underlying29 rfl I6.out ?_ | fail)
            refine (SM.out _ HW4.out HW.out).mono ?_
            rintro e w8 ⟨rfl, hb⟩
            replace HB := Lib.hid (HB.out.trans (hb.mono HB.out.size))
            go_wp2
            go_ret
            first | exact ⟨rfl, HB.out⟩ | exact ⟨rfl, HPP.out ▸ HB.out⟩
          · have e15 : ((m.hint : Int) == 0) = false := beq_eq_false_iff_ne.2 (by omega)
            have e15n : (m.hint == 0) = false := beq_eq_false_iff_ne.2 hhb
            have n15 : bN (hasB m 11 = true) = 1 := by rw [has11]; unfold bN; simp [hhb]
            have hle := HLE.out
            rw [n15, HMU.out] at hle
            have z1 : ((lf : Int) == 1) = true := beq_iff_eq.2 (by omega)
            have z2 : (lf == 1) = true := beq_iff_eq.2 (by omega)
            clear hle
            have HNB := Lib.hid hnb; have HHB := Lib.hid hhb; clear hnb hhb n14 n15
            go_wp2_with (first | refine gate_guard (by rfl) (wpList_load_row rfl 29 _ rfl pp rfl 29 arrM (0, 0) _ HP.out Try.underlying29 rfl IM.out ?_) | refine wpList_load_row rfl 29 _ rfl pp rfl 29 arrM (0, 0) _ HP.out Try.underlying29 rfl IM.out ?_ | (refine wpList_store_row rfl 29 _ _ rfl w6.heap.size arrW rfl rfl 29 _ (blk_new w6 _) I6.out S6.out O6.out ?_; refine gate_world (F := fun w' => Hid (w'.heap[w6.heap.size]? = some (.cells arrW 29 (0, 0))) ∧ Hid (Below w6.heap.size w6 w')) ⟨Lib.hid (setRow_heap _ _ _ arrW _ _ (blk_new w6 _)), Lib.hid (below_setRow (below_alloc (Below.refl _ w6) _) (Nat.le_refl _) arrW)⟩ ?_; rintro w7 ⟨HV, hb⟩; have hb := hb.out; have c14 := (hb.cell (p := ⟨pp, 14, none⟩) hpl).trans c14; have c15 := (hb.cell (p := ⟨pp, 15, none⟩) hpl).trans c15; replace HB := Lib.hid (HB.out.trans (hb.mono HB.out.size)); replace HW := Lib.hid (HW.out.below hb); replace HP := Lib.hid (blk_below HP.out hb); replace HW4 := Lib.hid (HW4.out.below hb); replace HX := Lib.hid (blk_below HX.out hb); clear hb) | refine gate_guard (by rfl) (wpList_load_row rfl 29 _ rfl gx rfl 29 arrX (0, 0) _ HX.out Try.underlying29 rfl I4.out ?_) | refine wpList_load_row rfl 29 _ rfl gx rfl 29 arrX (0, 0) _ HX.out Try.underlying29 rfl I4.out ?_ | refine gate_guard (by rfl) (wpList_load_row rfl 29 _ rfl w6.heap.size rfl 29 arrW (0, 0) _ HV.out Try.underlying29 rfl I6.out ?_) | refine wpList_load_row rfl 29 _ rfl w6.heap.size rfl 29 arrW (0, 0) _ HV.out Try.underlying29 rfl I6.out ?_ | fail)
            refine (NG.out _).mono ?_
            rintro e w8 ⟨rfl, rfl⟩
            go_wp2_with (first | refine gate_guard (by rfl) (wpList_load_row rfl 29 _ rfl gx rfl 29 arrX (0, 0) _ HX.out Try.underlying29 rfl I4.out ?_) | refine wpList_load_row rfl 29 _ rfl gx rfl 29 arrX (0, 0) _ HX.out Try.underlying29 rfl I4.out ?_ | refine gate_guard (by rfl) (wpList_load_row rfl 29 _ rfl w6.heap.size rfl 29 arrW (0, 0) _ HV.out Try.underlying29 rfl I6.out ?_) | refine wpList_load_row rfl 29 _ rfl w6.heap.size rfl 29 arrW (0, 0) _ HV.out Try.underlying29 rfl I6.out ?_ | fail)
            refine (SM.out _ HW4.out HW.out).mono ?_
            rintro e w8 ⟨rfl, hb⟩
            replace HB := Lib.hid (HB.out.trans (hb.mono HB.out.size))
            go_wp2
            go_ret
            first | exact ⟨rfl, HB.out⟩ | exact ⟨rfl, HPP.out ▸ HB.out⟩
    · have y0 : ((mayE 3 m : Int) == 0) = false := beq_eq_false_iff_ne.2 (by omega)
      have y0n : (mayE 3 m == 0) = false := beq_eq_false_iff_ne.2 h0
      go_wp2
      go_ret
      first | exact ⟨rfl, HB.out⟩ | exact ⟨rfl, HPP.out ▸ HB.out⟩
set_option maxRecDepth 100000 in
set_option maxHeartbeats 16000000 in
theorem msg_back_33 (m : MsgS) (A : Option Addr) (n c : Nat) (v u : Nat) (w : World) (hw : Wrs w A n m.ws) (hn : n ≤ 140737488351232) (hi : m.In) (hv : v % 3 = 2) (hu : u % 3 = 2) :
    Calls Try.prog 4 #[.agg (m.arr A n c), .int .u8 (v : Int), .int .u8 (u : Int)] w fun e w' => e = .returned (.bool true) ∧ Below w.heap.size w w' := by
  have x1 : (v : Int) % 3 = 2 := by omega
  have x2 : Int.tmod (v : Int) 3 = 2 := by rw [Int.tmod_eq_emod_of_nonneg (by omega)]; exact x1
  have x3 : (u : Int) % 3 = 2 := by omega
  have x4 : Int.tmod (u : Int) 3 = 2 := by rw [Int.tmod_eq_emod_of_nonneg (by omega)]; exact x3
  have FW := Lib.hid (fun (w : World) (hw : Wrs w A n m.ws) => fewm_any m A n c w hw hn hi.key hi.note hi.value)
  have AW := Lib.hid (fun w => awake05 w)
  have hb1 := below_alloc (Below.refl _ w) (.cells (m.arr A n c) 29)
  have HW := Lib.hid (hw.below hb1)
  have HB := Lib.hid hb1
  have HP := Lib.hid (blk_new w (.cells (m.arr A n c) 29))
  have IM := Lib.hid (info_msg.trans (congrArg some (arr_size m A n c).1.symm))
  have EN := Lib.hid (fun (z : m.Z) (w : World) (hw : Wrs w A n m.ws) => encode_any 3 m A n c w z hw)
  have PR := Lib.hid (fun (z : m.Z) (w : World) (hw : Wrs w A n m.ws) => rproject_any 3 m A n c w z hw)
  have NG := Lib.hid (show ∀ W, Calls Try.prog 17 #[.int .i64 3, .int .i64 3] W fun e w' => e = .returned (.int .i64 3) ∧ W = w' from fun W => negotiate_any 3 3 W)
  have A14 := Lib.hid (show (m.arr A n c)[14]? = some (.string m.note) from rfl)
  have A15 := Lib.hid (show (m.arr A n c)[15]? = some (.int .u64 (m.hint : Int)) from rfl)
  obtain ⟨fb, hfb⟩ : ∃ x, fewB m = x := ⟨_, rfl⟩
  rw [hfb] at FW
  have HZ := Lib.hid (show fb = true → m.Z from fun h => hi.z (fewB_few (hfb.trans h)))
  clear hw hb1 hi hfb hv hu
  generalize hMM : m.arr A n c = arrM at *
  have HMM := Lib.hid hMM; clear hMM
  go_enter Try.func4, Try.ntmps4
  go_wp2_with fail
  refine (AW.out _).mono ?_
  rintro e w1 ⟨rfl, hb⟩
  replace HB := Lib.hid (HB.out.trans (hb.mono HB.out.size)); replace HW := Lib.hid (HW.out.below hb); replace HP := Lib.hid (blk_below HP.out hb); clear hb
  obtain ⟨pp, hpp⟩ : ∃ pp, w.heap.size = pp := ⟨_, rfl⟩
  rw [hpp] at HP ⊢
  have HPP := Lib.hid hpp; clear hpp
  go_wp2_with (first | refine gate_guard (by rfl) (wpList_load_row rfl 29 _ rfl pp rfl 29 arrM (0, 0) _ HP.out Try.underlying29 rfl IM.out ?_) | refine wpList_load_row rfl 29 _ rfl pp rfl 29 arrM (0, 0) _ HP.out Try.underlying29 rfl IM.out ?_ | fail)
  refine (FW.out _ HW.out).mono ?_
  rintro e w2 ⟨rfl, hb⟩
  replace HB := Lib.hid (HB.out.trans (hb.mono HB.out.size)); replace HW := Lib.hid (HW.out.below hb); replace HP := Lib.hid (blk_below HP.out hb); clear hb
  cases fb with
  | false =>
    go_wp2_with fail
    refine (AW.out _).mono ?_
    rintro e w3 ⟨rfl, hb⟩
    replace HB := Lib.hid (HB.out.trans (hb.mono HB.out.size))
    go_wp2
    go_ret
    first | exact ⟨rfl, HB.out⟩ | exact ⟨rfl, HPP.out ▸ HB.out⟩
  | true =>
    replace HZ := Lib.hid (HZ.out rfl)
    go_wp2_with (first | refine gate_guard (by rfl) (wpList_load_row rfl 29 _ rfl pp rfl 29 arrM (0, 0) _ HP.out Try.underlying29 rfl IM.out ?_) | refine wpList_load_row rfl 29 _ rfl pp rfl 29 arrM (0, 0) _ HP.out Try.underlying29 rfl IM.out ?_ | fail)
    refine (EN.out HZ.out _ HW.out).mono ?_
    rintro e w3 ⟨rfl, hb⟩
    replace HB := Lib.hid (HB.out.trans (hb.mono HB.out.size)); replace HW := Lib.hid (HW.out.below hb); replace HP := Lib.hid (blk_below HP.out hb); clear hb
    by_cases h0 : mayE 3 m = 0
    · obtain ⟨o1, -, o3⟩ := may_ok h0
      have HG := Lib.hid (right_good HZ.out o1)
      have HD := Lib.hid (dec_back HG.out o1 (v := 3) (hi := 12) (by decide) (by decide) (by decide))
      rw [show knownS 3 = 12 from rfl, crit_3_3, left_3_3] at HD
      rw [show encS 3 m = bytesN m 12 from if_pos h0, h0]
      have HSZ := Lib.hid (show (bytesN m 12).size ≤ 140737488351232 from Nat.le_trans (bytes_mono m (show 12 ≤ 12 by decide)) (Nat.le_trans (right_size o1) (by decide)))
      have HR := Lib.hid o1
      have HM := Lib.hid o3
      have ML := Lib.hid (show mayE 3 m = if m.must ≠ 0 ∧ 12 < 12 then 4 else 0 by unfold mayE; rw [if_neg (by rintro (h | h); exact absurd h (by decide); rw [o1] at h; cases h)]; rfl)
      have hfit := HG.out.fit
      clear h0 o1 o3
      obtain ⟨sB, hsB⟩ : ∃ x, bytesN m 12 = x := ⟨_, rfl⟩
      rw [hsB] at HD HSZ ⊢
      clear hsB
      have ml := ML.out
      rw [if_neg (fun h => absurd h.2 (by decide))] at ml
      have hcr : ¬ false = true := by decide
      obtain ⟨lf, hlf⟩ : ∃ x, 0 = x := ⟨_, rfl⟩
      have HLE := Lib.hid hlf
      have HDQ := Lib.hid (show decM 3 sB = (projS 3 m, lf, 0) from HD.out.trans ((if_neg hcr).trans (by rw [hlf, ← restr_proj ml]; rfl)))
      have PRJ := Lib.hid (fun (W : World) (hw : Wrs W A n m.ws) => PR.out HZ.out W hw)
      simp only [ml, if_pos (show (0 : Nat) = 0 from rfl)] at PRJ
      clear ml hcr hlf
      go_wp2_with fail
      refine (dec_is HDQ.out _ HSZ.out).mono ?_
      rintro e w4 ⟨A4, c4, rfl, hw4, hb⟩
      replace HB := Lib.hid (HB.out.trans (hb.mono HB.out.size)); replace HW := Lib.hid (HW.out.below hb); replace HP := Lib.hid (blk_below HP.out hb); clear hb
      have HW4 := Lib.hid hw4; clear hw4
      have I4 := Lib.hid (info_msg.trans (congrArg some (arr_size (projS 3 m) A4 (projS 3 m).ws.length c4).1.symm))
      have S4 := Lib.hid (show 17 = ((projS 3 m).arr A4 (projS 3 m).ws.length c4).size from (arr_size (projS 3 m) A4 (projS 3 m).ws.length c4).1.symm)
      have O4 := Lib.hid (arr_size (projS 3 m) A4 (projS 3 m).ws.length c4).2
      have SM := Lib.hid (fun W (hw : Wrs W A4 (projS 3 m).ws.length (projS 3 m).ws) (hw2 : Wrs W A n m.ws) => (show Calls Try.prog 15 #[.agg ((projS 3 m).arr A4 (projS 3 m).ws.length c4), .agg ((projS 3 m).arr A n c)] W fun e w' => e = .returned (.bool true) ∧ Below W.heap.size W w' from by
          have h := same_any (projS 3 m) (projS 3 m) A4 A (projS 3 m).ws.length c4 n c W (projS_fit hfit) (projS_fit hfit) hw hw2
          rw [beq_self_eq_true] at h
          exact h))
      generalize (projS 3 m).arr A4 (projS 3 m).ws.length c4 = arrX at *
      go_wp2_with (first | refine gate_guard (by rfl) (wpList_load_row rfl 29 _ rfl pp rfl 29 arrM (0, 0) _ HP.out Try.underlying29 rfl IM.out ?_) | refine wpList_load_row rfl 29 _ rfl pp rfl 29 arrM (0, 0) _ HP.out Try.underlying29 rfl IM.out ?_ | (refine wpList_store_row rfl 29 _ _ rfl w4.heap.size arrX rfl rfl 29 _ (blk_new w4 _) I4.out S4.out O4.out ?_; refine gate_world (F := fun w' => Hid (w'.heap[w4.heap.size]? = some (.cells arrX 29 (0, 0))) ∧ Hid (Below w4.heap.size w4 w')) ⟨Lib.hid (setRow_heap _ _ _ arrX _ _ (blk_new w4 _)), Lib.hid (below_setRow (below_alloc (Below.refl _ w4) _) (Nat.le_refl _) arrX)⟩ ?_; rintro w5 ⟨HX, hb⟩; have hb := hb.out; replace HB := Lib.hid (HB.out.trans (hb.mono HB.out.size)); replace HW := Lib.hid (HW.out.below hb); replace HP := Lib.hid (blk_below HP.out hb); replace HW4 := Lib.hid (HW4.out.below hb); clear hb) | fail)
      have HX4 := Lib.hid HX.out
      refine (PRJ.out _ HW.out).mono ?_
      rintro e w6 ⟨rfl, hb⟩
      replace HB := Lib.hid (HB.out.trans (hb.mono HB.out.size)); replace HW := Lib.hid (HW.out.below hb); replace HP := Lib.hid (blk_below HP.out hb); replace HW4 := Lib.hid (HW4.out.below hb); replace HX := Lib.hid (blk_below HX.out hb); clear hb HX4
      obtain ⟨gx, hgx⟩ : ∃ x, w4.heap.size = x := ⟨_, rfl⟩
      rw [hgx] at HX ⊢
      clear hgx
      have I6 := Lib.hid (info_msg.trans (congrArg some (arr_size (projS 3 m) A n c).1.symm))
      have S6 := Lib.hid (show 17 = ((projS 3 m).arr A n c).size from (arr_size (projS 3 m) A n c).1.symm)
      have O6 := Lib.hid (arr_size (projS 3 m) A n c).2
      generalize (projS 3 m).arr A n c = arrW at *
      have c14 : w6.cell? ⟨pp, 14, none⟩ = some (.string m.note) := (blk_cell HP.out 14).trans A14.out
      have c15 : w6.cell? ⟨pp, 15, none⟩ = some (.int .u64 (m.hint : Int)) := (blk_cell HP.out 15).trans A15.out
      have hpl := blk_lt HP.out
      by_cases hnb : m.note.size = 0
      · have e14 : m.note.toList.isEmpty = true := by rw [str_e]; exact decide_eq_true hnb
        have n14 : bN (hasB m 10 = true) = 0 := by rw [has10]; unfold bN; simp [hnb]
        by_cases hhb : m.hint = 0
        · have e15 : ((m.hint : Int) == 0) = true := beq_iff_eq.2 (by omega)
          have e15n : (m.hint == 0) = true := beq_iff_eq.2 hhb
          have n15 : bN (hasB m 11 = true) = 0 := by rw [has11]; unfold bN; simp [hhb]
          have hle := HLE.out
          have z1 : ((lf : Int) == 0) = true := beq_iff_eq.2 (by omega)
          have z2 : (lf == 0) = true := beq_iff_eq.2 (by omega)
          clear hle
          have HNB := Lib.hid hnb; have HHB := Lib.hid hhb; clear hnb hhb n14 n15
          go_wp2_with (first | refine gate_guard (by rfl) (wpList_load_row rfl 29 _ rfl pp rfl 29 arrM (0, 0) _ HP.out Try.underlying29 rfl IM.out ?_) | refine wpList_load_row rfl 29 _ rfl pp rfl 29 arrM (0, 0) _ HP.out Try.underlying29 rfl IM.out ?_ | (refine wpList_store_row rfl 29 _ _ rfl w6.heap.size arrW rfl rfl 29 _ (blk_new w6 _) I6.out S6.out O6.out ?_; refine gate_world (F := fun w' => Hid (w'.heap[w6.heap.size]? = some (.cells arrW 29 (0, 0))) ∧ Hid (Below w6.heap.size w6 w')) ⟨Lib.hid (setRow_heap _ _ _ arrW _ _ (blk_new w6 _)), Lib.hid (below_setRow (below_alloc (Below.refl _ w6) _) (Nat.le_refl _) arrW)⟩ ?_; rintro w7 ⟨HV, hb⟩; have hb := hb.out; have c14 := (hb.cell (p := ⟨pp, 14, none⟩) hpl).trans c14; have c15 := (hb.cell (p := ⟨pp, 15, none⟩) hpl).trans c15; replace HB := Lib.hid (HB.out.trans (hb.mono HB.out.size)); replace HW := Lib.hid (HW.out.below hb); replace HP := Lib.hid (blk_below HP.out hb); replace HW4 := Lib.hid (HW4.out.below hb); replace HX := Lib.hid (blk_below HX.out hb); clear hb) | refine gate_guard (by rfl) (wpList_load_row rfl 29 _ rfl gx rfl 29 arrX (0, 0) _ HX.out Try.underlying29 rfl I4.out ?_) | refine wpList_load_row rfl 29 _ rfl gx rfl 29 arrX (0, 0) _ HX.out Try.underlying29 rfl I4.out ?_ | refine gate_guard (by rfl) (wpList_load_row rfl 29 _ rfl w6.heap.size rfl 29 arrW (0, 0) _ HV.out Try.underlying29 rfl I6.out ?_) | refine wpList_load_row rfl 29 _ rfl w6.heap.size rfl 29 arrW (0, 0) _ HV.out Try.underlying29 rfl I6.out ?_ | fail)
          refine (NG.out _).mono ?_
          rintro e w8 ⟨rfl, rfl⟩
          go_wp2_with (first | refine gate_guard (by rfl) (wpList_load_row rfl 29 _ rfl gx rfl 29 arrX (0, 0) _ HX.out Try.underlying29 rfl I4.out ?_) | refine wpList_load_row rfl 29 _ rfl gx rfl 29 arrX (0, 0) _ HX.out Try.underlying29 rfl I4.out ?_ | refine gate_guard (by rfl) (wpList_load_row rfl 29 _ rfl w6.heap.size rfl 29 arrW (0, 0) _ HV.out Try.underlying29 rfl I6.out ?_) | refine wpList_load_row rfl 29 _ rfl w6.heap.size rfl 29 arrW (0, 0) _ HV.out Try.underlying29 rfl I6.out ?_ | fail)
          refine (SM.out _ HW4.out HW.out).mono ?_
          rintro e w8 ⟨rfl, hb⟩
          replace HB := Lib.hid (HB.out.trans (hb.mono HB.out.size))
          go_wp2
          go_ret
          first | exact ⟨rfl, HB.out⟩ | exact ⟨rfl, HPP.out ▸ HB.out⟩
        · have e15 : ((m.hint : Int) == 0) = false := beq_eq_false_iff_ne.2 (by omega)
          have e15n : (m.hint == 0) = false := beq_eq_false_iff_ne.2 hhb
          have n15 : bN (hasB m 11 = true) = 1 := by rw [has11]; unfold bN; simp [hhb]
          have hle := HLE.out
          have z1 : ((lf : Int) == 0) = true := beq_iff_eq.2 (by omega)
          have z2 : (lf == 0) = true := beq_iff_eq.2 (by omega)
          clear hle
          have HNB := Lib.hid hnb; have HHB := Lib.hid hhb; clear hnb hhb n14 n15
          go_wp2_with (first | refine gate_guard (by rfl) (wpList_load_row rfl 29 _ rfl pp rfl 29 arrM (0, 0) _ HP.out Try.underlying29 rfl IM.out ?_) | refine wpList_load_row rfl 29 _ rfl pp rfl 29 arrM (0, 0) _ HP.out Try.underlying29 rfl IM.out ?_ | (refine wpList_store_row rfl 29 _ _ rfl w6.heap.size arrW rfl rfl 29 _ (blk_new w6 _) I6.out S6.out O6.out ?_; refine gate_world (F := fun w' => Hid (w'.heap[w6.heap.size]? = some (.cells arrW 29 (0, 0))) ∧ Hid (Below w6.heap.size w6 w')) ⟨Lib.hid (setRow_heap _ _ _ arrW _ _ (blk_new w6 _)), Lib.hid (below_setRow (below_alloc (Below.refl _ w6) _) (Nat.le_refl _) arrW)⟩ ?_; rintro w7 ⟨HV, hb⟩; have hb := hb.out; have c14 := (hb.cell (p := ⟨pp, 14, none⟩) hpl).trans c14; have c15 := (hb.cell (p := ⟨pp, 15, none⟩) hpl).trans c15; replace HB := Lib.hid (HB.out.trans (hb.mono HB.out.size)); replace HW := Lib.hid (HW.out.below hb); replace HP := Lib.hid (blk_below HP.out hb); replace HW4 := Lib.hid (HW4.out.below hb); replace HX := Lib.hid (blk_below HX.out hb); clear hb) | refine gate_guard (by rfl) (wpList_load_row rfl 29 _ rfl gx rfl 29 arrX (0, 0) _ HX.out Try.underlying29 rfl I4.out ?_) | refine wpList_load_row rfl 29 _ rfl gx rfl 29 arrX (0, 0) _ HX.out Try.underlying29 rfl I4.out ?_ | refine gate_guard (by rfl) (wpList_load_row rfl 29 _ rfl w6.heap.size rfl 29 arrW (0, 0) _ HV.out Try.underlying29 rfl I6.out ?_) | refine wpList_load_row rfl 29 _ rfl w6.heap.size rfl 29 arrW (0, 0) _ HV.out Try.underlying29 rfl I6.out ?_ | fail)
          refine (NG.out _).mono ?_
          rintro e w8 ⟨rfl, rfl⟩
          go_wp2_with (first | refine gate_guard (by rfl) (wpList_load_row rfl 29 _ rfl gx rfl 29 arrX (0, 0) _ HX.out Try.underlying29 rfl I4.out ?_) | refine wpList_load_row rfl 29 _ rfl gx rfl 29 arrX (0, 0) _ HX.out Try.underlying29 rfl I4.out ?_ | refine gate_guard (by rfl) (wpList_load_row rfl 29 _ rfl w6.heap.size rfl 29 arrW (0, 0) _ HV.out Try.underlying29 rfl I6.out ?_) | refine wpList_load_row rfl 29 _ rfl w6.heap.size rfl 29 arrW (0, 0) _ HV.out Try.underlying29 rfl I6.out ?_ | fail)
          refine (SM.out _ HW4.out HW.out).mono ?_
          rintro e w8 ⟨rfl, hb⟩
          replace HB := Lib.hid (HB.out.trans (hb.mono HB.out.size))
          go_wp2
          go_ret
          first | exact ⟨rfl, HB.out⟩ | exact ⟨rfl, HPP.out ▸ HB.out⟩
      · have e14 : m.note.toList.isEmpty = false := by rw [str_e]; exact decide_eq_false hnb
        have n14 : bN (hasB m 10 = true) = 1 := by rw [has10]; unfold bN; simp [hnb]
        by_cases hhb : m.hint = 0
        · have e15 : ((m.hint : Int) == 0) = true := beq_iff_eq.2 (by omega)
          have e15n : (m.hint == 0) = true := beq_iff_eq.2 hhb
          have n15 : bN (hasB m 11 = true) = 0 := by rw [has11]; unfold bN; simp [hhb]
          have hle := HLE.out
          have z1 : ((lf : Int) == 0) = true := beq_iff_eq.2 (by omega)
          have z2 : (lf == 0) = true := beq_iff_eq.2 (by omega)
          clear hle
          have HNB := Lib.hid hnb; have HHB := Lib.hid hhb; clear hnb hhb n14 n15
          go_wp2_with (first | refine gate_guard (by rfl) (wpList_load_row rfl 29 _ rfl pp rfl 29 arrM (0, 0) _ HP.out Try.underlying29 rfl IM.out ?_) | refine wpList_load_row rfl 29 _ rfl pp rfl 29 arrM (0, 0) _ HP.out Try.underlying29 rfl IM.out ?_ | (refine wpList_store_row rfl 29 _ _ rfl w6.heap.size arrW rfl rfl 29 _ (blk_new w6 _) I6.out S6.out O6.out ?_; refine gate_world (F := fun w' => Hid (w'.heap[w6.heap.size]? = some (.cells arrW 29 (0, 0))) ∧ Hid (Below w6.heap.size w6 w')) ⟨Lib.hid (setRow_heap _ _ _ arrW _ _ (blk_new w6 _)), Lib.hid (below_setRow (below_alloc (Below.refl _ w6) _) (Nat.le_refl _) arrW)⟩ ?_; rintro w7 ⟨HV, hb⟩; have hb := hb.out; have c14 := (hb.cell (p := ⟨pp, 14, none⟩) hpl).trans c14; have c15 := (hb.cell (p := ⟨pp, 15, none⟩) hpl).trans c15; replace HB := Lib.hid (HB.out.trans (hb.mono HB.out.size)); replace HW := Lib.hid (HW.out.below hb); replace HP := Lib.hid (blk_below HP.out hb); replace HW4 := Lib.hid (HW4.out.below hb); replace HX := Lib.hid (blk_below HX.out hb); clear hb) | refine gate_guard (by rfl) (wpList_load_row rfl 29 _ rfl gx rfl 29 arrX (0, 0) _ HX.out Try.underlying29 rfl I4.out ?_) | refine wpList_load_row rfl 29 _ rfl gx rfl 29 arrX (0, 0) _ HX.out Try.underlying29 rfl I4.out ?_ | refine gate_guard (by rfl) (wpList_load_row rfl 29 _ rfl w6.heap.size rfl 29 arrW (0, 0) _ HV.out Try.underlying29 rfl I6.out ?_) | refine wpList_load_row rfl 29 _ rfl w6.heap.size rfl 29 arrW (0, 0) _ HV.out Try.underlying29 rfl I6.out ?_ | fail)
          refine (NG.out _).mono ?_
          rintro e w8 ⟨rfl, rfl⟩
          go_wp2_with (first | refine gate_guard (by rfl) (wpList_load_row rfl 29 _ rfl gx rfl 29 arrX (0, 0) _ HX.out Try.underlying29 rfl I4.out ?_) | refine wpList_load_row rfl 29 _ rfl gx rfl 29 arrX (0, 0) _ HX.out Try.underlying29 rfl I4.out ?_ | refine gate_guard (by rfl) (wpList_load_row rfl 29 _ rfl w6.heap.size rfl 29 arrW (0, 0) _ HV.out Try.underlying29 rfl I6.out ?_) | refine wpList_load_row rfl 29 _ rfl w6.heap.size rfl 29 arrW (0, 0) _ HV.out Try.underlying29 rfl I6.out ?_ | fail)
          refine (SM.out _ HW4.out HW.out).mono ?_
          rintro e w8 ⟨rfl, hb⟩
          replace HB := Lib.hid (HB.out.trans (hb.mono HB.out.size))
          go_wp2
          go_ret
          first | exact ⟨rfl, HB.out⟩ | exact ⟨rfl, HPP.out ▸ HB.out⟩
        · have e15 : ((m.hint : Int) == 0) = false := beq_eq_false_iff_ne.2 (by omega)
          have e15n : (m.hint == 0) = false := beq_eq_false_iff_ne.2 hhb
          have n15 : bN (hasB m 11 = true) = 1 := by rw [has11]; unfold bN; simp [hhb]
          have hle := HLE.out
          have z1 : ((lf : Int) == 0) = true := beq_iff_eq.2 (by omega)
          have z2 : (lf == 0) = true := beq_iff_eq.2 (by omega)
          clear hle
          have HNB := Lib.hid hnb; have HHB := Lib.hid hhb; clear hnb hhb n14 n15
          go_wp2_with (first | refine gate_guard (by rfl) (wpList_load_row rfl 29 _ rfl pp rfl 29 arrM (0, 0) _ HP.out Try.underlying29 rfl IM.out ?_) | refine wpList_load_row rfl 29 _ rfl pp rfl 29 arrM (0, 0) _ HP.out Try.underlying29 rfl IM.out ?_ | (refine wpList_store_row rfl 29 _ _ rfl w6.heap.size arrW rfl rfl 29 _ (blk_new w6 _) I6.out S6.out O6.out ?_; refine gate_world (F := fun w' => Hid (w'.heap[w6.heap.size]? = some (.cells arrW 29 (0, 0))) ∧ Hid (Below w6.heap.size w6 w')) ⟨Lib.hid (setRow_heap _ _ _ arrW _ _ (blk_new w6 _)), Lib.hid (below_setRow (below_alloc (Below.refl _ w6) _) (Nat.le_refl _) arrW)⟩ ?_; rintro w7 ⟨HV, hb⟩; have hb := hb.out; have c14 := (hb.cell (p := ⟨pp, 14, none⟩) hpl).trans c14; have c15 := (hb.cell (p := ⟨pp, 15, none⟩) hpl).trans c15; replace HB := Lib.hid (HB.out.trans (hb.mono HB.out.size)); replace HW := Lib.hid (HW.out.below hb); replace HP := Lib.hid (blk_below HP.out hb); replace HW4 := Lib.hid (HW4.out.below hb); replace HX := Lib.hid (blk_below HX.out hb); clear hb) | refine gate_guard (by rfl) (wpList_load_row rfl 29 _ rfl gx rfl 29 arrX (0, 0) _ HX.out Try.underlying29 rfl I4.out ?_) | refine wpList_load_row rfl 29 _ rfl gx rfl 29 arrX (0, 0) _ HX.out Try.underlying29 rfl I4.out ?_ | refine gate_guard (by rfl) (wpList_load_row rfl 29 _ rfl w6.heap.size rfl 29 arrW (0, 0) _ HV.out Try.underlying29 rfl I6.out ?_) | refine wpList_load_row rfl 29 _ rfl w6.heap.size rfl 29 arrW (0, 0) _ HV.out Try.underlying29 rfl I6.out ?_ | fail)
          refine (NG.out _).mono ?_
          rintro e w8 ⟨rfl, rfl⟩
          go_wp2_with (first | refine gate_guard (by rfl) (wpList_load_row rfl 29 _ rfl gx rfl 29 arrX (0, 0) _ HX.out Try.underlying29 rfl I4.out ?_) | refine wpList_load_row rfl 29 _ rfl gx rfl 29 arrX (0, 0) _ HX.out Try.underlying29 rfl I4.out ?_ | refine gate_guard (by rfl) (wpList_load_row rfl 29 _ rfl w6.heap.size rfl 29 arrW (0, 0) _ HV.out Try.underlying29 rfl I6.out ?_) | refine wpList_load_row rfl 29 _ rfl w6.heap.size rfl 29 arrW (0, 0) _ HV.out Try.underlying29 rfl I6.out ?_ | fail)
          refine (SM.out _ HW4.out HW.out).mono ?_
          rintro e w8 ⟨rfl, hb⟩
          replace HB := Lib.hid (HB.out.trans (hb.mono HB.out.size))
          go_wp2
          go_ret
          first | exact ⟨rfl, HB.out⟩ | exact ⟨rfl, HPP.out ▸ HB.out⟩
    · have y0 : ((mayE 3 m : Int) == 0) = false := beq_eq_false_iff_ne.2 (by omega)
      have y0n : (mayE 3 m == 0) = false := beq_eq_false_iff_ne.2 h0
      go_wp2
      go_ret
      first | exact ⟨rfl, HB.out⟩ | exact ⟨rfl, HPP.out ▸ HB.out⟩
theorem msg_back_walk (p : MsgS × Option Addr × Nat × Nat) (a1 a2 : Int) (W : World) (hi : p.1.In) (hw : Wrs W p.2.1 p.2.2.1 p.1.ws) (hn : p.2.2.1 ≤ 140737488351232) (h1 : (Lit.int .u8 a1).wf = true) (h2 : (Lit.int .u8 a2).wf = true) :
    Calls Try.prog 4 #[.agg (p.1.arr p.2.1 p.2.2.1 p.2.2.2), .int .u8 a1, .int .u8 a2] W fun e w' => e = .returned (.bool true) ∧ Below W.heap.size W w' := by
  obtain ⟨h0, h1⟩ := wf_u8 h1
  obtain ⟨v, rfl⟩ := Int.eq_ofNat_of_zero_le h0
  obtain ⟨h3, h4⟩ := wf_u8 h2
  obtain ⟨u, rfl⟩ := Int.eq_ofNat_of_zero_le h3
  rcases (show v % 3 = 0 ∨ v % 3 = 1 ∨ v % 3 = 2 by omega) with hv | hv | hv <;> rcases (show u % 3 = 0 ∨ u % 3 = 1 ∨ u % 3 = 2 by omega) with hu | hu | hu
  · exact msg_back_11 p.1 p.2.1 p.2.2.1 p.2.2.2 v u W hw hn hi hv hu
  · exact msg_back_12 p.1 p.2.1 p.2.2.1 p.2.2.2 v u W hw hn hi hv hu
  · exact msg_back_13 p.1 p.2.1 p.2.2.1 p.2.2.2 v u W hw hn hi hv hu
  · exact msg_back_21 p.1 p.2.1 p.2.2.1 p.2.2.2 v u W hw hn hi hv hu
  · exact msg_back_22 p.1 p.2.1 p.2.2.1 p.2.2.2 v u W hw hn hi hv hu
  · exact msg_back_23 p.1 p.2.1 p.2.2.1 p.2.2.2 v u W hw hn hi hv hu
  · exact msg_back_31 p.1 p.2.1 p.2.2.1 p.2.2.2 v u W hw hn hi hv hu
  · exact msg_back_32 p.1 p.2.1 p.2.2.1 p.2.2.2 v u W hw hn hi hv hu
  · exact msg_back_33 p.1 p.2.1 p.2.2.1 p.2.2.2 v u W hw hn hi hv hu
end Go.Proofs.Ytemhmgpihkemjaa.My
