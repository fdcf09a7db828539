/- The law MsgExtra, walked. -/
import Derived.Test.YtemhmgpihkemjaaMrdW
import Derived.Test.YtemhmgpihkemjaaOpenMsg
namespace Go.Proofs.Ytemhmgpihkemjaa.My
set_option linter.unusedSimpArgs false
set_option linter.unusedVariables false
open Go.RowKit Go.Proofs.YtemhmgpihkemjaaW.PrintWords Go.Proofs.YtemhmgpihkemjaaW.PrintLast Go.Proofs.Ytemhmgpihkemjaa.Pm

theorem dec_is {v : Int} {b : ByteArray} {mm : MsgS} {lf er : Nat} (hd : decM v b = (mm, lf, er)) (W : World) (hb : b.size ≤ 140737488351232) : Calls Try.prog 16 #[.int .i64 v, .string b] W fun e w' => ∃ A c, e = .returned (.tuple #[.agg (mm.arr A mm.ws.length c), .int .i64 (lf : Int), .int .i64 (er : Int)]) ∧ Wrs w' A mm.ws.length mm.ws ∧ Below W.heap.size W w' := by
  have h := decode_any v b W hb
  rw [hd] at h
  refine h.mono ?_
  rintro e w' ⟨A, c, rfl, ho, hB⟩
  exact ⟨A, c, rfl, row_wrs (ho.row wrC_len), hB⟩
theorem left_in (m : MsgS) (K : Nat) : ∀ k, k ≤ K → leftN m K k = 0
  | 0, _ => rfl
  | k + 1, h => by rw [leftN, left_in m K k (by omega), if_neg (fun e => by omega)]
theorem crit_in (m : MsgS) (K : Nat) : ∀ k, k ≤ K → critN m K k = false
  | 0, _ => rfl
  | k + 1, h => by rw [critN, crit_in m K k (by omega), decide_eq_false (fun e => by omega)]; rfl
theorem dec_extra {v : Int} {m : MsgS} (G : m.Good) (hm : mayE v m = 0) (hv : knownS v ≠ 0) {l : List ExT} (hl : ∀ p ∈ l, p.1 < 65536 ∧ p.2.size ≤ 50) (h6 : l.length ≤ 6) (hs : (bytesN m (knownS v)).size ≤ 3000) :
    decM v (bytesN m (knownS v) ++ extB l 12) = if oddL l = true then (zeroM, 0, 4) else (projS v m, l.length, 0) := by
  have hr := (may_ok hm).1
  have hk := knownS_le v
  have hz := extB_size l 12 hl (by omega)
  have he := ext_run (K := knownS v) l 12 (wasN m (knownS v)) (stM m (knownS v) (knownS v)) hl (by omega) (Nat.le_trans (wasN_le m _) hk) hk rfl
  rw [decM_own (v := v) G hr hk (extB l 12) _ hv (by rw [ByteArray.size_append]; omega) he rfl rfl]
  show (if (critN m (knownS v) (knownS v) || oddL l) = true then _ else (restr m (min (knownS v) (knownS v)), leftN m (knownS v) (knownS v) + l.length, 0)) = _
  rw [crit_in m _ _ (Nat.le_refl _), left_in m _ _ (Nat.le_refl _), Nat.min_self, restr_proj hm, Bool.false_or, Nat.zero_add]
set_option maxRecDepth 100000 in
set_option maxHeartbeats 16000000 in
theorem msg_extra_1 (m : MsgS) (A : Option Addr) (n c : Nat) (B : Option Addr) (len cap : Nat) (l : List ExT) (v : Nat) (w : World) (hw : Wrs w A n m.ws) (hn : n ≤ 140737488351232) (hi : m.In) (hA : RowF w 2 exC B len l) (hlen : len ≤ 140737488351232) (hal : ∀ p ∈ l, p.1 < 65536 ∧ p.2.size ≤ 140737488351232) (hv : v % 3 = 0) :
    Calls Try.prog 6 #[.agg (m.arr A n c), .slice B len cap, .int .u8 (v : Int)] w fun e w' => e = .returned (.bool true) ∧ Below w.heap.size w w' := by
  have x1 : (v : Int) % 3 = 0 := by omega
  have x2 : Int.tmod (v : Int) 3 = 0 := by rw [Int.tmod_eq_emod_of_nonneg (by omega)]; exact x1
  have HA := Lib.hid hA; clear hA
  have HAL := Lib.hid hal; clear hal
  have FW := Lib.hid (fun (w : World) (hw : Wrs w A n m.ws) => fewm_any m A n c w hw hn hi.key hi.note hi.value)
  have AW := Lib.hid (fun w => awake05 w)
  have hb1 := below_alloc (Below.refl _ w) (.cells (m.arr A n c) 29)
  have HW := Lib.hid (hw.below hb1)
  have HB := Lib.hid hb1
  have HP := Lib.hid (blk_new w (.cells (m.arr A n c) 29))
  have IM := Lib.hid (info_msg.trans (congrArg some (arr_size m A n c).1.symm))
  have EN := Lib.hid (fun (z : m.Z) (w : World) (hw : Wrs w A n m.ws) => encode_any 1 m A n c w z hw)
  have PR := Lib.hid (fun (z : m.Z) (w : World) (hw : Wrs w A n m.ws) => rproject_any 1 m A n c w z hw)
  obtain ⟨fb, hfb⟩ : ∃ x, fewB m = x := ⟨_, rfl⟩
  rw [hfb] at FW
  have HZ := Lib.hid (show fb = true → m.Z from fun h => hi.z (fewB_few (hfb.trans h)))
  clear hw hb1 hi hfb hv
  generalize hMM : m.arr A n c = arrM at *
  have HMM := Lib.hid hMM; clear hMM
  go_enter Try.func6, Try.ntmps6
  go_wp2_with fail
  refine (AW.out _).mono ?_
  rintro e w1 ⟨rfl, hb⟩
  replace HB := Lib.hid (HB.out.trans (hb.mono HB.out.size)); replace HW := Lib.hid (HW.out.below hb); replace HP := Lib.hid (blk_below HP.out hb); clear hb
  obtain ⟨pp, hpp⟩ : ∃ pp, w.heap.size = pp := ⟨_, rfl⟩
  rw [hpp] at HP ⊢
  have HPP := Lib.hid hpp; clear hpp
  go_wp2_with (first | refine gate_guard (by rfl) (wpList_load_row rfl 29 _ rfl pp rfl 29 arrM (0, 0) _ HP.out Try.underlying29 rfl IM.out ?_) | refine wpList_load_row rfl 29 _ rfl pp rfl 29 arrM (0, 0) _ HP.out Try.underlying29 rfl IM.out ?_ | fail)
  refine (FW.out _ HW.out).mono ?_
  rintro e w2 ⟨rfl, hb⟩
  replace HB := Lib.hid (HB.out.trans (hb.mono HB.out.size)); replace HW := Lib.hid (HW.out.below hb); replace HP := Lib.hid (blk_below HP.out hb); clear hb
  cases fb with
  | false =>
    go_wp2_with fail
    refine (AW.out _).mono ?_
    rintro e w3 ⟨rfl, hb⟩
    replace HB := Lib.hid (HB.out.trans (hb.mono HB.out.size))
    go_wp2
    go_ret
    first | exact ⟨rfl, HB.out⟩ | exact ⟨rfl, HPP.out ▸ HB.out⟩
  | true =>
    replace HZ := Lib.hid (HZ.out rfl)
    by_cases h20 : 20 < len
    · have y1 : decide (20 < (len : Int)) = true := decide_eq_true (by omega)
      have y1n : decide (20 < len) = true := decide_eq_true h20
      go_wp2_with fail
      refine (AW.out _).mono ?_
      rintro e w3 ⟨rfl, hb⟩
      replace HB := Lib.hid (HB.out.trans (hb.mono HB.out.size))
      go_wp2
      go_ret
      first | exact ⟨rfl, HB.out⟩ | exact ⟨rfl, HPP.out ▸ HB.out⟩
    have y1 : decide (20 < (len : Int)) = false := decide_eq_false (by omega)
    have y1n : decide (20 < len) = false := decide_eq_false h20
    have h20' : len ≤ 20 := by omega
    have HBW := Lib.hid (show w.heap.size ≤ w2.heap.size from HB.out.size)
    obtain ⟨sB, hsB⟩ : ∃ x, encS 1 m = x := ⟨_, rfl⟩
    obtain ⟨er, her⟩ : ∃ x, mayE 1 m = x := ⟨_, rfl⟩
    rw [hsB, her] at EN
    have HSB := Lib.hid hsB; have HER := Lib.hid her; clear hsB her
    go_wp2_with (first | refine gate_guard (by rfl) (wpList_load_row rfl 29 _ rfl pp rfl 29 arrM (0, 0) _ HP.out Try.underlying29 rfl IM.out ?_) | refine wpList_load_row rfl 29 _ rfl pp rfl 29 arrM (0, 0) _ HP.out Try.underlying29 rfl IM.out ?_ | fail)
    refine (EN.out HZ.out _ HW.out).mono ?_
    rintro e w3 ⟨rfl, hb⟩
    replace HB := Lib.hid (HB.out.trans (hb.mono HB.out.size)); replace HW := Lib.hid (HW.out.below hb); replace HP := Lib.hid (blk_below HP.out hb); clear hb h20 y1 y1n
    go_wp2
    go_loopw [10] (fun u wr => ∃ (i : Nat), u = .int .i64 i ∧ i ≤ len ∧ Hid (∀ j (h : j < l.length), j < i → l[j].2.size ≤ 50) ∧ wr = w3) (fun u _ => len - (intOf u).toNat)
    case atStart => exact ⟨0, rfl, Nat.zero_le _, Lib.hid (fun j _ h => absurd h (Nat.not_lt_zero _)), rfl⟩
    case round =>
      obtain ⟨i, rfl, hi, HT, rfl⟩ := hrel
      by_cases hlt : i < len
      · obtain ⟨bb, off, hj, rfl, hbW, hc⟩ := HA.out.get i hlt
        replace hc := range_below hc (show Below w.heap.size w wr from HPP.out ▸ HB.out) hbW
        have HTI := Lib.hid (fun (h50 : l[i].2.size ≤ 50) => (show ∀ j (h : j < l.length), j < i + 1 → l[j].2.size ≤ 50 from fun j h hji => by
          by_cases e : j = i
          · subst e; exact h50
          · exact HT.out j h (by omega)))
        obtain ⟨⟨h, t⟩, hx⟩ : ∃ x, l[i] = x := ⟨_, rfl⟩
        rw [hx] at hc HTI
        simp only at HTI
        have c1 : wr.cell? ⟨bb, off + i * 2 + 1, none⟩ = some (.string t) := hc 1 _ rfl
        clear hc hx hj
        have hw := next_wrap hlt hlen
        by_cases h50 : 50 < t.size
        · have y2 : decide (50 < (t.size : Int)) = true := decide_eq_true (by omega)
          have y2n : decide (50 < t.size) = true := decide_eq_true h50
          go_wp2
          go_ret
          first | exact ⟨rfl, HB.out⟩ | exact ⟨rfl, HPP.out ▸ HB.out⟩
        have y2 : decide (50 < (t.size : Int)) = false := decide_eq_false (by omega)
        have y2n : decide (50 < t.size) = false := decide_eq_false h50
        have HT2 := Lib.hid (HTI.out (by omega))
        have HLT := Lib.hid hlt
        go_wp2
        go_roundw
        case rel => exact ⟨i + 1, by go_num, HLT.out, HT2, by trivial⟩
        case measure => first | exact up_w HLT.out hw | exact up_w2 HLT.out
      · obtain rfl : i = len := by omega
        have HLL := Lib.hid (show ∀ p ∈ l, p.1 < 65536 ∧ p.2.size ≤ 50 from fun p hp => by
          obtain ⟨j, hj, rfl⟩ := List.getElem_of_mem hp
          exact ⟨(HAL.out _ hp).1, HT.out j hj (by have := HA.out.1; omega)⟩)
        clear hlt hi HT
        by_cases h0 : er = 0
        · subst h0
          by_cases h3 : 3000 < sB.size
          · have y3 : decide (3000 < (sB.size : Int)) = true := decide_eq_true (by omega)
            have y3n : decide (3000 < sB.size) = true := decide_eq_true h3
            go_wp2
            go_ret
            first | exact ⟨rfl, HB.out⟩ | exact ⟨rfl, HPP.out ▸ HB.out⟩
          have y3 : decide (3000 < (sB.size : Int)) = false := decide_eq_false (by omega)
          have y3n : decide (3000 < sB.size) = false := decide_eq_false h3
          have hse : sB = bytesN m (knownS 1) := by rw [← HSB.out]; exact if_pos HER.out
          have HGD := Lib.hid (right_good HZ.out (may_ok HER.out).1)
          have hfit := HGD.out.fit
          have hl6 : ∀ p ∈ l.take 6, p.1 < 65536 ∧ p.2.size ≤ 50 := fun p hp => HLL.out p (List.mem_of_mem_take hp)
          have HD := Lib.hid (dec_extra HGD.out HER.out (by decide) hl6 (by rw [List.length_take]; omega) (by rw [← hse]; omega))
          rw [← hse] at HD
          have HWI := Lib.hid (fun W (hA : RowF W 2 exC B i l) => with_any sB B i cap l W hA h20' (by omega) HLL.out)
          simp only [withL_is, Nat.zero_add, Bool.false_or] at HWI
          have HBS := Lib.hid (show (sB ++ extB (l.take 6) 12).size ≤ 140737488351232 by
            rw [ByteArray.size_append]
            have h1 := extB_size (l.take 6) 12 hl6 (by rw [List.length_take]; omega)
            have h2 : (l.take 6).length ≤ 6 := by rw [List.length_take]; omega
            omega)
          generalize sB ++ extB (l.take 6) 12 = bX at *
          generalize (l.take 6).length = nX at *
          obtain ⟨cX, hcX⟩ : ∃ x, oddL (l.take 6) = x := ⟨_, rfl⟩
          rw [hcX] at HD
          simp only [hcX] at HWI
          clear hcX hl6 hse h3 h20'
          go_wp2_with fail
          refine (HWI.out _ (HA.out.below (HPP.out ▸ HB.out))).mono ?_
          rintro e w4 ⟨rfl, hb⟩
          replace HB := Lib.hid (HB.out.trans (hb.mono HB.out.size)); replace HW := Lib.hid (HW.out.below hb); replace HP := Lib.hid (blk_below HP.out hb); clear hb
          cases cX with
          | true =>
            go_wp2_with fail
            refine (dec_is HD.out _ HBS.out).mono ?_
            rintro e w5 ⟨A4, c4, rfl, hw4, hb⟩
            replace HB := Lib.hid (HB.out.trans (hb.mono HB.out.size)); replace HW := Lib.hid (HW.out.below hb); replace HP := Lib.hid (blk_below HP.out hb); clear hb
            have HW4 := Lib.hid hw4; clear hw4
            have I4 := Lib.hid (info_msg.trans (congrArg some (arr_size zeroM A4 zeroM.ws.length c4).1.symm))
            have S4 := Lib.hid (show 17 = (zeroM.arr A4 zeroM.ws.length c4).size from (arr_size zeroM A4 zeroM.ws.length c4).1.symm)
            have O4 := Lib.hid (arr_size zeroM A4 zeroM.ws.length c4).2
            generalize zeroM.arr A4 zeroM.ws.length c4 = arrX at *
            go_wp2_with (first | (refine wpList_store_row rfl 29 _ _ rfl w5.heap.size arrX rfl rfl 29 _ (blk_new w5 _) I4.out S4.out O4.out ?_; refine gate_world (F := fun w' => Hid (w'.heap[w5.heap.size]? = some (.cells arrX 29 (0, 0))) ∧ Hid (Below w5.heap.size w5 w')) ⟨Lib.hid (setRow_heap _ _ _ arrX _ _ (blk_new w5 _)), Lib.hid (below_setRow (below_alloc (Below.refl _ w5) _) (Nat.le_refl _) arrX)⟩ ?_; rintro w6 ⟨HX, hb⟩; have hb := hb.out; replace HB := Lib.hid (HB.out.trans (hb.mono HB.out.size)); replace HW := Lib.hid (HW.out.below hb); replace HP := Lib.hid (blk_below HP.out hb); replace HW4 := Lib.hid (HW4.out.below hb); clear hb) | fail)
            go_ret
            first | exact ⟨rfl, HB.out⟩ | exact ⟨rfl, HPP.out ▸ HB.out⟩
          | false =>
            have HD2 := Lib.hid (show decM 1 bX = (projS 1 m, nX, 0) from HD.out)
            go_wp2_with fail
            refine (dec_is HD2.out _ HBS.out).mono ?_
            rintro e w5 ⟨A4, c4, rfl, hw4, hb⟩
            replace HB := Lib.hid (HB.out.trans (hb.mono HB.out.size)); replace HW := Lib.hid (HW.out.below hb); replace HP := Lib.hid (blk_below HP.out hb); clear hb
            have HW4 := Lib.hid hw4; clear hw4
            have I4 := Lib.hid (info_msg.trans (congrArg some (arr_size (projS 1 m) A4 (projS 1 m).ws.length c4).1.symm))
            have S4 := Lib.hid (show 17 = ((projS 1 m).arr A4 (projS 1 m).ws.length c4).size from (arr_size (projS 1 m) A4 (projS 1 m).ws.length c4).1.symm)
            have O4 := Lib.hid (arr_size (projS 1 m) A4 (projS 1 m).ws.length c4).2
            have SM := Lib.hid (fun W (hw : Wrs W A4 (projS 1 m).ws.length (projS 1 m).ws) (hw2 : Wrs W A n m.ws) => (show Calls Try.prog 15 #[.agg ((projS 1 m).arr A4 (projS 1 m).ws.length c4), .agg ((projS 1 m).arr A n c)] W fun e w' => e = .returned (.bool true) ∧ Below W.heap.size W w' from by
              have h := same_any (projS 1 m) (projS 1 m) A4 A (projS 1 m).ws.length c4 n c W (projS_fit hfit) (projS_fit hfit) hw hw2
              rw [beq_self_eq_true] at h
              exact h))
            generalize (projS 1 m).arr A4 (projS 1 m).ws.length c4 = arrX at *
            have PRJ := Lib.hid (fun (W : World) (hw : Wrs W A n m.ws) => PR.out HZ.out W hw)
            simp only [HER.out, if_pos (show (0 : Nat) = 0 from rfl)] at PRJ
            go_wp2_with (first | refine gate_guard (by rfl) (wpList_load_row rfl 29 _ rfl pp rfl 29 arrM (0, 0) _ HP.out Try.underlying29 rfl IM.out ?_) | refine wpList_load_row rfl 29 _ rfl pp rfl 29 arrM (0, 0) _ HP.out Try.underlying29 rfl IM.out ?_ | (refine wpList_store_row rfl 29 _ _ rfl w5.heap.size arrX rfl rfl 29 _ (blk_new w5 _) I4.out S4.out O4.out ?_; refine gate_world (F := fun w' => Hid (w'.heap[w5.heap.size]? = some (.cells arrX 29 (0, 0))) ∧ Hid (Below w5.heap.size w5 w')) ⟨Lib.hid (setRow_heap _ _ _ arrX _ _ (blk_new w5 _)), Lib.hid (below_setRow (below_alloc (Below.refl _ w5) _) (Nat.le_refl _) arrX)⟩ ?_; rintro w6 ⟨HX, hb⟩; have hb := hb.out; replace HB := Lib.hid (HB.out.trans (hb.mono HB.out.size)); replace HW := Lib.hid (HW.out.below hb); replace HP := Lib.hid (blk_below HP.out hb); replace HW4 := Lib.hid (HW4.out.below hb); clear hb) | fail)
            refine (PRJ.out _ HW.out).mono ?_
            rintro e w7 ⟨rfl, hb⟩
            replace HB := Lib.hid (HB.out.trans (hb.mono HB.out.size)); replace HW := Lib.hid (HW.out.below hb); replace HP := Lib.hid (blk_below HP.out hb); replace HW4 := Lib.hid (HW4.out.below hb); replace HX := Lib.hid (blk_below HX.out hb); clear hb
            obtain ⟨gx, hgx⟩ : ∃ x, w5.heap.size = x := ⟨_, rfl⟩
            rw [hgx] at HX ⊢
            clear hgx
            have I6 := Lib.hid (info_msg.trans (congrArg some (arr_size (projS 1 m) A n c).1.symm))
            have S6 := Lib.hid (show 17 = ((projS 1 m).arr A n c).size from (arr_size (projS 1 m) A n c).1.symm)
            have O6 := Lib.hid (arr_size (projS 1 m) A n c).2
            generalize (projS 1 m).arr A n c = arrW at *
            go_wp2_with (first | (refine wpList_store_row rfl 29 _ _ rfl w7.heap.size arrW rfl rfl 29 _ (blk_new w7 _) I6.out S6.out O6.out ?_; refine gate_world (F := fun w' => Hid (w'.heap[w7.heap.size]? = some (.cells arrW 29 (0, 0))) ∧ Hid (Below w7.heap.size w7 w')) ⟨Lib.hid (setRow_heap _ _ _ arrW _ _ (blk_new w7 _)), Lib.hid (below_setRow (below_alloc (Below.refl _ w7) _) (Nat.le_refl _) arrW)⟩ ?_; rintro w8 ⟨HV, hb⟩; have hb := hb.out; replace HB := Lib.hid (HB.out.trans (hb.mono HB.out.size)); replace HW := Lib.hid (HW.out.below hb); replace HP := Lib.hid (blk_below HP.out hb); replace HW4 := Lib.hid (HW4.out.below hb); replace HX := Lib.hid (blk_below HX.out hb); clear hb) | refine gate_guard (by rfl) (wpList_load_row rfl 29 _ rfl gx rfl 29 arrX (0, 0) _ HX.out Try.underlying29 rfl I4.out ?_) | refine wpList_load_row rfl 29 _ rfl gx rfl 29 arrX (0, 0) _ HX.out Try.underlying29 rfl I4.out ?_ | refine gate_guard (by rfl) (wpList_load_row rfl 29 _ rfl w7.heap.size rfl 29 arrW (0, 0) _ HV.out Try.underlying29 rfl I6.out ?_) | refine wpList_load_row rfl 29 _ rfl w7.heap.size rfl 29 arrW (0, 0) _ HV.out Try.underlying29 rfl I6.out ?_ | fail)
            refine (SM.out _ HW4.out HW.out).mono ?_
            rintro e w9 ⟨rfl, hb⟩
            replace HB := Lib.hid (HB.out.trans (hb.mono HB.out.size))
            go_wp2
            go_ret
            first | exact ⟨rfl, HB.out⟩ | exact ⟨rfl, HPP.out ▸ HB.out⟩
        · have y0 : ((er : Int) == 0) = false := beq_eq_false_iff_ne.2 (by omega)
          have y0n : (er == 0) = false := beq_eq_false_iff_ne.2 h0
          go_wp2
          go_ret
          first | exact ⟨rfl, HB.out⟩ | exact ⟨rfl, HPP.out ▸ HB.out⟩
set_option maxRecDepth 100000 in
set_option maxHeartbeats 16000000 in
theorem msg_extra_2 (m : MsgS) (A : Option Addr) (n c : Nat) (B : Option Addr) (len cap : Nat) (l : List ExT) (v : Nat) (w : World) (hw : Wrs w A n m.ws) (hn : n ≤ 140737488351232) (hi : m.In) (hA : RowF w 2 exC B len l) (hlen : len ≤ 140737488351232) (hal : ∀ p ∈ l, p.1 < 65536 ∧ p.2.size ≤ 140737488351232) (hv : v % 3 = 1) :
    Calls Try.prog 6 #[.agg (m.arr A n c), .slice B len cap, .int .u8 (v : Int)] w fun e w' => e = .returned (.bool true) ∧ Below w.heap.size w w' := by
  have x1 : (v : Int) % 3 = 1 := by omega
  have x2 : Int.tmod (v : Int) 3 = 1 := by rw [Int.tmod_eq_emod_of_nonneg (by omega)]; exact x1
  have HA := Lib.hid hA; clear hA
  have HAL := Lib.hid hal; clear hal
  have FW := Lib.hid (fun (w : World) (hw : Wrs w A n m.ws) => fewm_any m A n c w hw hn hi.key hi.note hi.value)
  have AW := Lib.hid (fun w => awake05 w)
  have hb1 := below_alloc (Below.refl _ w) (.cells (m.arr A n c) 29)
  have HW := Lib.hid (hw.below hb1)
  have HB := Lib.hid hb1
  have HP := Lib.hid (blk_new w (.cells (m.arr A n c) 29))
  have IM := Lib.hid (info_msg.trans (congrArg some (arr_size m A n c).1.symm))
  have EN := Lib.hid (fun (z : m.Z) (w : World) (hw : Wrs w A n m.ws) => encode_any 2 m A n c w z hw)
  have PR := Lib.hid (fun (z : m.Z) (w : World) (hw : Wrs w A n m.ws) => rproject_any 2 m A n c w z hw)
  obtain ⟨fb, hfb⟩ : ∃ x, fewB m = x := ⟨_, rfl⟩
  rw [hfb] at FW
  have HZ := Lib.hid (show fb = true → m.Z from fun h => hi.z (fewB_few (hfb.trans h)))
  clear hw hb1 hi hfb hv
  generalize hMM : m.arr A n c = arrM at *
  have HMM := Lib.hid hMM; clear hMM
  go_enter Try.func6, Try.ntmps6
  go_wp2_with fail
  refine (AW.out _).mono ?_
  rintro e w1 ⟨rfl, hb⟩
  replace HB := Lib.hid (HB.out.trans (hb.mono HB.out.size)); replace HW := Lib.hid (HW.out.below hb); replace HP := Lib.hid (blk_below HP.out hb); clear hb
  obtain ⟨pp, hpp⟩ : ∃ pp, w.heap.size = pp := ⟨_, rfl⟩
  rw [hpp] at HP ⊢
  have HPP := Lib.hid hpp; clear hpp
  go_wp2_with (first | refine gate_guard (by rfl) (wpList_load_row rfl 29 _ rfl pp rfl 29 arrM (0, 0) _ HP.out Try.underlying29 rfl IM.out ?_) | refine wpList_load_row rfl 29 _ rfl pp rfl 29 arrM (0, 0) _ HP.out Try.underlying29 rfl IM.out ?_ | fail)
  refine (FW.out _ HW.out).mono ?_
  rintro e w2 ⟨rfl, hb⟩
  replace HB := Lib.hid (HB.out.trans (hb.mono HB.out.size)); replace HW := Lib.hid (HW.out.below hb); replace HP := Lib.hid (blk_below HP.out hb); clear hb
  cases fb with
  | false =>
    go_wp2_with fail
    refine (AW.out _).mono ?_
    rintro e w3 ⟨rfl, hb⟩
    replace HB := Lib.hid (HB.out.trans (hb.mono HB.out.size))
    go_wp2
    go_ret
    first | exact ⟨rfl, HB.out⟩ | exact ⟨rfl, HPP.out ▸ HB.out⟩
  | true =>
    replace HZ := Lib.hid (HZ.out rfl)
    by_cases h20 : 20 < len
    · have y1 : decide (20 < (len : Int)) = true := decide_eq_true (by omega)
      have y1n : decide (20 < len) = true := decide_eq_true h20
      go_wp2_with fail
      refine (AW.out _).mono ?_
      rintro e w3 ⟨rfl, hb⟩
      replace HB := Lib.hid (HB.out.trans (hb.mono HB.out.size))
      go_wp2
      go_ret
      first | exact ⟨rfl, HB.out⟩ | exact ⟨rfl, HPP.out ▸ HB.out⟩
    have y1 : decide (20 < (len : Int)) = false := decide_eq_false (by omega)
    have y1n : decide (20 < len) = false := decide_eq_false h20
    have h20' : len ≤ 20 := by omega
    have HBW := Lib.hid (show w.heap.size ≤ w2.heap.size from HB.out.size)
    obtain ⟨sB, hsB⟩ : ∃ x, encS 2 m = x := ⟨_, rfl⟩
    obtain ⟨er, her⟩ : ∃ x, mayE 2 m = x := ⟨_, rfl⟩
    rw [hsB, her] at EN
    have HSB := Lib.hid hsB; have HER := Lib.hid her; clear hsB her
    go_wp2_with (first | refine gate_guard (by rfl) (wpList_load_row rfl 29 _ rfl pp rfl 29 arrM (0, 0) _ HP.out Try.underlying29 rfl IM.out ?_) | refine wpList_load_row rfl 29 _ rfl pp rfl 29 arrM (0, 0) _ HP.out Try.underlying29 rfl IM.out ?_ | fail)
    refine (EN.out HZ.out _ HW.out).mono ?_
    rintro e w3 ⟨rfl, hb⟩
    replace HB := Lib.hid (HB.out.trans (hb.mono HB.out.size)); replace HW := Lib.hid (HW.out.below hb); replace HP := Lib.hid (blk_below HP.out hb); clear hb h20 y1 y1n
    go_wp2
    go_loopw [10] (fun u wr => ∃ (i : Nat), u = .int .i64 i ∧ i ≤ len ∧ Hid (∀ j (h : j < l.length), j < i → l[j].2.size ≤ 50) ∧ wr = w3) (fun u _ => len - (intOf u).toNat)
    case atStart => exact ⟨0, rfl, Nat.zero_le _, Lib.hid (fun j _ h => absurd h (Nat.not_lt_zero _)), rfl⟩
    case round =>
      obtain ⟨i, rfl, hi, HT, rfl⟩ := hrel
      by_cases hlt : i < len
      · obtain ⟨bb, off, hj, rfl, hbW, hc⟩ := HA.out.get i hlt
        replace hc := range_below hc (show Below w.heap.size w wr from HPP.out ▸ HB.out) hbW
        have HTI := Lib.hid (fun (h50 : l[i].2.size ≤ 50) => (show ∀ j (h : j < l.length), j < i + 1 → l[j].2.size ≤ 50 from fun j h hji => by
          by_cases e : j = i
          · subst e; exact h50
          · exact HT.out j h (by omega)))
        obtain ⟨⟨h, t⟩, hx⟩ : ∃ x, l[i] = x := ⟨_, rfl⟩
        rw [hx] at hc HTI
        simp only at HTI
        have c1 : wr.cell? ⟨bb, off + i * 2 + 1, none⟩ = some (.string t) := hc 1 _ rfl
        clear hc hx hj
        have hw := next_wrap hlt hlen
        by_cases h50 : 50 < t.size
        · have y2 : decide (50 < (t.size : Int)) = true := decide_eq_true (by omega)
          have y2n : decide (50 < t.size) = true := decide_eq_true h50
          go_wp2
          go_ret
          first | exact ⟨rfl, HB.out⟩ | exact ⟨rfl, HPP.out ▸ HB.out⟩
        have y2 : decide (50 < (t.size : Int)) = false := decide_eq_false (by omega)
        have y2n : decide (50 < t.size) = false := decide_eq_false h50
        have HT2 := Lib.hid (HTI.out (by omega))
        have HLT := Lib.hid hlt
        go_wp2
        go_roundw
        case rel => exact ⟨i + 1, by go_num, HLT.out, HT2, by trivial⟩
        case measure => first | exact up_w HLT.out hw | exact up_w2 HLT.out
      · obtain rfl : i = len := by omega
        have HLL := Lib.hid (show ∀ p ∈ l, p.1 < 65536 ∧ p.2.size ≤ 50 from fun p hp => by
          obtain ⟨j, hj, rfl⟩ := List.getElem_of_mem hp
          exact ⟨(HAL.out _ hp).1, HT.out j hj (by have := HA.out.1; omega)⟩)
        clear hlt hi HT
        by_cases h0 : er = 0
        · subst h0
          by_cases h3 : 3000 < sB.size
          · have y3 : decide (3000 < (sB.size : Int)) = true := decide_eq_true (by omega)
            have y3n : decide (3000 < sB.size) = true := decide_eq_true h3
            go_wp2
            go_ret
            first | exact ⟨rfl, HB.out⟩ | exact ⟨rfl, HPP.out ▸ HB.out⟩
          have y3 : decide (3000 < (sB.size : Int)) = false := decide_eq_false (by omega)
          have y3n : decide (3000 < sB.size) = false := decide_eq_false h3
          have hse : sB = bytesN m (knownS 2) := by rw [← HSB.out]; exact if_pos HER.out
          have HGD := Lib.hid (right_good HZ.out (may_ok HER.out).1)
          have hfit := HGD.out.fit
          have hl6 : ∀ p ∈ l.take 6, p.1 < 65536 ∧ p.2.size ≤ 50 := fun p hp => HLL.out p (List.mem_of_mem_take hp)
          have HD := Lib.hid (dec_extra HGD.out HER.out (by decide) hl6 (by rw [List.length_take]; omega) (by rw [← hse]; omega))
          rw [← hse] at HD
          have HWI := Lib.hid (fun W (hA : RowF W 2 exC B i l) => with_any sB B i cap l W hA h20' (by omega) HLL.out)
          simp only [withL_is, Nat.zero_add, Bool.false_or] at HWI
          have HBS := Lib.hid (show (sB ++ extB (l.take 6) 12).size ≤ 140737488351232 by
            rw [ByteArray.size_append]
            have h1 := extB_size (l.take 6) 12 hl6 (by rw [List.length_take]; omega)
            have h2 : (l.take 6).length ≤ 6 := by rw [List.length_take]; omega
            omega)
          generalize sB ++ extB (l.take 6) 12 = bX at *
          generalize (l.take 6).length = nX at *
          obtain ⟨cX, hcX⟩ : ∃ x, oddL (l.take 6) = x := ⟨_, rfl⟩
          rw [hcX] at HD
          simp only [hcX] at HWI
          clear hcX hl6 hse h3 h20'
          go_wp2_with fail
          refine (HWI.out _ (HA.out.below (HPP.out ▸ HB.out))).mono ?_
          rintro e w4 ⟨rfl, hb⟩
          replace HB := Lib.hid (HB.out.trans (hb.mono HB.out.size)); replace HW := Lib.hid (HW.out.below hb); replace HP := Lib.hid (blk_below HP.out hb); clear hb
          cases cX with
          | true =>
            go_wp2_with fail
            refine (dec_is HD.out _ HBS.out).mono ?_
            rintro e w5 ⟨A4, c4, rfl, hw4, hb⟩
            replace HB := Lib.hid (HB.out.trans (hb.mono HB.out.size)); replace HW := Lib.hid (HW.out.below hb); replace HP := Lib.hid (blk_below HP.out hb); clear hb
            have HW4 := Lib.hid hw4; clear hw4
            have I4 := Lib.hid (info_msg.trans (congrArg some (arr_size zeroM A4 zeroM.ws.length c4).1.symm))
            have S4 := Lib.hid (show 17 = (zeroM.arr A4 zeroM.ws.length c4).size from (arr_size zeroM A4 zeroM.ws.length c4).1.symm)
            have O4 := Lib.hid (arr_size zeroM A4 zeroM.ws.length c4).2
            generalize zeroM.arr A4 zeroM.ws.length c4 = arrX at *
            go_wp2_with (first | (refine wpList_store_row rfl 29 _ _ rfl w5.heap.size arrX rfl rfl 29 _ (blk_new w5 _) I4.out S4.out O4.out ?_; refine gate_world (F := fun w' => Hid (w'.heap[w5.heap.size]? = some (.cells arrX 29 (0, 0))) ∧ Hid (Below w5.heap.size w5 w')) ⟨Lib.hid (setRow_heap _ _ _ arrX _ _ (blk_new w5 _)), Lib.hid (below_setRow (below_alloc (Below.refl _ w5) _) (Nat.le_refl _) arrX)⟩ ?_; rintro w6 ⟨HX, hb⟩; have hb := hb.out; replace HB := Lib.hid (HB.out.trans (hb.mono HB.out.size)); replace HW := Lib.hid (HW.out.below hb); replace HP := Lib.hid (blk_below HP.out hb); replace HW4 := Lib.hid (HW4.out.below hb); clear hb) | fail)
            go_ret
            first | exact ⟨rfl, HB.out⟩ | exact ⟨rfl, HPP.out ▸ HB.out⟩
          | false =>
            have HD2 := Lib.hid (show decM 2 bX = (projS 2 m, nX, 0) from HD.out)
            go_wp2_with fail
            refine (dec_is HD2.out _ HBS.out).mono ?_
            rintro e w5 ⟨A4, c4, rfl, hw4, hb⟩
            replace HB := Lib.hid (HB.out.trans (hb.mono HB.out.size)); replace HW := Lib.hid (HW.out.below hb); replace HP := Lib.hid (blk_below HP.out hb); clear hb
            have HW4 := Lib.hid hw4; clear hw4
            have I4 := Lib.hid (info_msg.trans (congrArg some (arr_size (projS 2 m) A4 (projS 2 m).ws.length c4).1.symm))
            have S4 := Lib.hid (show 17 = ((projS 2 m).arr A4 (projS 2 m).ws.length c4).size from (arr_size (projS 2 m) A4 (projS 2 m).ws.length c4).1.symm)
            have O4 := Lib.hid (arr_size (projS 2 m) A4 (projS 2 m).ws.length c4).2
            have SM := Lib.hid (fun W (hw : Wrs W A4 (projS 2 m).ws.length (projS 2 m).ws) (hw2 : Wrs W A n m.ws) => (show Calls Try.prog 15 #[.agg ((projS 2 m).arr A4 (projS 2 m).ws.length c4), .agg ((projS 2 m).arr A n c)] W fun e w' => e = .returned (.bool true) ∧ Below W.heap.size W w' from by
              have h := same_any (projS 2 m) (projS 2 m) A4 A (projS 2 m).ws.length c4 n c W (projS_fit hfit) (projS_fit hfit) hw hw2
              rw [beq_self_eq_true] at h
              exact h))
            generalize (projS 2 m).arr A4 (projS 2 m).ws.length c4 = arrX at *
            have PRJ := Lib.hid (fun (W : World) (hw : Wrs W A n m.ws) => PR.out HZ.out W hw)
            simp only [HER.out, if_pos (show (0 : Nat) = 0 from rfl)] at PRJ
            go_wp2_with (first | refine gate_guard (by rfl) (wpList_load_row rfl 29 _ rfl pp rfl 29 arrM (0, 0) _ HP.out Try.underlying29 rfl IM.out ?_) | refine wpList_load_row rfl 29 _ rfl pp rfl 29 arrM (0, 0) _ HP.out Try.underlying29 rfl IM.out ?_ | (refine wpList_store_row rfl 29 _ _ rfl w5.heap.size arrX rfl rfl 29 _ (blk_new w5 _) I4.out S4.out O4.out ?_; refine gate_world (F := fun w' => Hid (w'.heap[w5.heap.size]? = some (.cells arrX 29 (0, 0))) ∧ Hid (Below w5.heap.size w5 w')) ⟨Lib.hid (setRow_heap _ _ _ arrX _ _ (blk_new w5 _)), Lib.hid (below_setRow (below_alloc (Below.refl _ w5) _) (Nat.le_refl _) arrX)⟩ ?_; rintro w6 ⟨HX, hb⟩; have hb := hb.out; replace HB := Lib.hid (HB.out.trans (hb.mono HB.out.size)); replace HW := Lib.hid (HW.out.below hb); replace HP := Lib.hid (blk_below HP.out hb); replace HW4 := Lib.hid (HW4.out.below hb); clear hb) | fail)
            refine (PRJ.out _ HW.out).mono ?_
            rintro e w7 ⟨rfl, hb⟩
            replace HB := Lib.hid (HB.out.trans (hb.mono HB.out.size)); replace HW := Lib.hid (HW.out.below hb); replace HP := Lib.hid (blk_below HP.out hb); replace HW4 := Lib.hid (HW4.out.below hb); replace HX := Lib.hid (blk_below HX.out hb); clear hb
            obtain ⟨gx, hgx⟩ : ∃ x, w5.heap.size = x := ⟨_, rfl⟩
            rw [hgx] at HX ⊢
            clear hgx
            have I6 := Lib.hid (info_msg.trans (congrArg some (arr_size (projS 2 m) A n c).1.symm))
            have S6 := Lib.hid (show 17 = ((projS 2 m).arr A n c).size from (arr_size (projS 2 m) A n c).1.symm)
            have O6 := Lib.hid (arr_size (projS 2 m) A n c).2
            generalize (projS 2 m).arr A n c = arrW at *
            go_wp2_with (first | (refine wpList_store_row rfl 29 _ _ rfl w7.heap.size arrW rfl rfl 29 _ (blk_new w7 _) I6.out S6.out O6.out ?_; refine gate_world (F := fun w' => Hid (w'.heap[w7.heap.size]? = some (.cells arrW 29 (0, 0))) ∧ Hid (Below w7.heap.size w7 w')) ⟨Lib.hid (setRow_heap _ _ _ arrW _ _ (blk_new w7 _)), Lib.hid (below_setRow (below_alloc (Below.refl _ w7) _) (Nat.le_refl _) arrW)⟩ ?_; rintro w8 ⟨HV, hb⟩; have hb := hb.out; replace HB := Lib.hid (HB.out.trans (hb.mono HB.out.size)); replace HW := Lib.hid (HW.out.below hb); replace HP := Lib.hid (blk_below HP.out hb); replace HW4 := Lib.hid (HW4.out.below hb); replace HX := Lib.hid (blk_below HX.out hb); clear hb) | refine gate_guard (by rfl) (wpList_load_row rfl 29 _ rfl gx rfl 29 arrX (0, 0) _ HX.out Try.underlying29 rfl I4.out ?_) | refine wpList_load_row rfl 29 _ rfl gx rfl 29 arrX (0, 0) _ HX.out Try.underlying29 rfl I4.out ?_ | refine gate_guard (by rfl) (wpList_load_row rfl 29 _ rfl w7.heap.size rfl 29 arrW (0, 0) _ HV.out Try.underlying29 rfl I6.out ?_) | refine wpList_load_row rfl 29 _ rfl w7.heap.size rfl 29 arrW (0, 0) _ HV.out Try.underlying29 rfl I6.out ?_ | fail)
            refine (SM.out _ HW4.out HW.out).mono ?_
            rintro e w9 ⟨rfl, hb⟩
            replace HB := Lib.hid (HB.out.trans (hb.mono HB.out.size))
            go_wp2
            go_ret
            first | exact ⟨rfl, HB.out⟩ | exact ⟨rfl, HPP.out ▸ HB.out⟩
        · have y0 : ((er : Int) == 0) = false := beq_eq_false_iff_ne.2 (by omega)
          have y0n : (er == 0) = false := beq_eq_false_iff_ne.2 h0
          go_wp2
          go_ret
          first | exact ⟨rfl, HB.out⟩ | exact ⟨rfl, HPP.out ▸ HB.out⟩
set_option maxRecDepth 100000 in
set_option maxHeartbeats 16000000 in
theorem msg_extra_3 (m : MsgS) (A : Option Addr) (n c : Nat) (B : Option Addr) (len cap : Nat) (l : List ExT) (v : Nat) (w : World) (hw : Wrs w A n m.ws) (hn : n ≤ 140737488351232) (hi : m.In) (hA : RowF w 2 exC B len l) (hlen : len ≤ 140737488351232) (hal : ∀ p ∈ l, p.1 < 65536 ∧ p.2.size ≤ 140737488351232) (hv : v % 3 = 2) :
    Calls Try.prog 6 #[.agg (m.arr A n c), .slice B len cap, .int .u8 (v : Int)] w fun e w' => e = .returned (.bool true) ∧ Below w.heap.size w w' := by
  have x1 : (v : Int) % 3 = 2 := by omega
  have x2 : Int.tmod (v : Int) 3 = 2 := by rw [Int.tmod_eq_emod_of_nonneg (by omega)]; exact x1
  have HA := Lib.hid hA; clear hA
  have HAL := Lib.hid hal; clear hal
  have FW := Lib.hid (fun (w : World) (hw : Wrs w A n m.ws) => fewm_any m A n c w hw hn hi.key hi.note hi.value)
  have AW := Lib.hid (fun w => awake05 w)
  have hb1 := below_alloc (Below.refl _ w) (.cells (m.arr A n c) 29)
  have HW := Lib.hid (hw.below hb1)
  have HB := Lib.hid hb1
  have HP := Lib.hid (blk_new w (.cells (m.arr A n c) 29))
  have IM := Lib.hid (info_msg.trans (congrArg some (arr_size m A n c).1.symm))
  have EN := Lib.hid (fun (z : m.Z) (w : World) (hw : Wrs w A n m.ws) => encode_any 3 m A n c w z hw)
  have PR := Lib.hid (fun (z : m.Z) (w : World) (hw : Wrs w A n m.ws) => rproject_any 3 m A n c w z hw)
  obtain ⟨fb, hfb⟩ : ∃ x, fewB m = x := ⟨_, rfl⟩
  rw [hfb] at FW
  have HZ := Lib.hid (show fb = true → m.Z from fun h => hi.z (fewB_few (hfb.trans h)))
  clear hw hb1 hi hfb hv
  generalize hMM : m.arr A n c = arrM at *
  have HMM := Lib.hid hMM; clear hMM
  go_enter Try.func6, Try.ntmps6
  go_wp2_with fail
  refine (AW.out _).mono ?_
  rintro e w1 ⟨rfl, hb⟩
  replace HB := Lib.hid (HB.out.trans (hb.mono HB.out.size)); replace HW := Lib.hid (HW.out.below hb); replace HP := Lib.hid (blk_below HP.out hb); clear hb
  obtain ⟨pp, hpp⟩ : ∃ pp, w.heap.size = pp := ⟨_, rfl⟩
  rw [hpp] at HP ⊢
  have HPP := Lib.hid hpp; clear hpp
  go_wp2_with (first | refine gate_guard (by rfl) (wpList_load_row rfl 29 _ rfl pp rfl 29 arrM (0, 0) _ HP.out Try.underlying29 rfl IM.out ?_) | refine wpList_load_row rfl 29 _ rfl pp rfl 29 arrM (0, 0) _ HP.out Try.underlying29 rfl IM.out ?_ | fail)
  refine (FW.out _ HW.out).mono ?_
  rintro e w2 ⟨rfl, hb⟩
  replace HB := Lib.hid (HB.out.trans (hb.mono HB.out.size)); replace HW := Lib.hid (HW.out.below hb); replace HP := Lib.hid (blk_below HP.out hb); clear hb
  cases fb with
  | false =>
    go_wp2_with fail
    refine (AW.out _).mono ?_
    rintro e w3 ⟨rfl, hb⟩
    replace HB := Lib.hid (HB.out.trans (hb.mono HB.out.size))
    go_wp2
    go_ret
    first | exact ⟨rfl, HB.out⟩ | exact ⟨rfl, HPP.out ▸ HB.out⟩
  | true =>
    replace HZ := Lib.hid (HZ.out rfl)
    by_cases h20 : 20 < len
    · have y1 : decide (20 < (len : Int)) = true := decide_eq_true (by omega)
      have y1n : decide (20 < len) = true := decide_eq_true h20
      go_wp2_with fail
      refine (AW.out _).mono ?_
      rintro e w3 ⟨rfl, hb⟩
      replace HB := Lib.hid (HB.out.trans (hb.mono HB.out.size))
      go_wp2
      go_ret
      first | exact ⟨rfl, HB.out⟩ | exact ⟨rfl, HPP.out ▸ HB.out⟩
    have y1 : decide (20 < (len : Int)) = false := decide_eq_false (by omega)
    have y1n : decide (20 < len) = false := decide_eq_false h20
    have h20' : len ≤ 20 := by omega
    have HBW := Lib.hid (show w.heap.size ≤ w2.heap.size from HB.out.size)
    obtain ⟨sB, hsB⟩ : ∃ x, encS 3 m = x := ⟨_, rfl⟩
    obtain ⟨er, her⟩ : ∃ x, mayE 3 m = x := ⟨_, rfl⟩
    rw [hsB, her] at EN
    have HSB := Lib.hid hsB; have HER := Lib.hid her; clear hsB her
    go_wp2_with (first | refine gate_guard (by rfl) (wpList_load_row rfl 29 _ rfl pp rfl 29 arrM (0, 0) _ HP.out Try.underlying29 rfl IM.out ?_) | refine wpList_load_row rfl 29 _ rfl pp rfl 29 arrM (0, 0) _ HP.out Try.underlying29 rfl IM.out ?_ | fail)
    refine (EN.out HZ.out _ HW.out).mono ?_
    rintro e w3 ⟨rfl, hb⟩
    replace HB := Lib.hid (HB.out.trans (hb.mono HB.out.size)); replace HW := Lib.hid (HW.out.below hb); replace HP := Lib.hid (blk_below HP.out hb); clear hb h20 y1 y1n
    go_wp2
    go_loopw [10] (fun u wr => ∃ (i : Nat), u = .int .i64 i ∧ i ≤ len ∧ Hid (∀ j (h : j < l.length), j < i → l[j].2.size ≤ 50) ∧ wr = w3) (fun u _ => len - (intOf u).toNat)
    case atStart => exact ⟨0, rfl, Nat.zero_le _, Lib.hid (fun j _ h => absurd h (Nat.not_lt_zero _)), rfl⟩
    case round =>
      obtain ⟨i, rfl, hi, HT, rfl⟩ := hrel
      by_cases hlt : i < len
      · obtain ⟨bb, off, hj, rfl, hbW, hc⟩ := HA.out.get i hlt
        replace hc := range_below hc (show Below w.heap.size w wr from HPP.out ▸ HB.out) hbW
        have HTI := Lib.hid (fun (h50 : l[i].2.size ≤ 50) => (show ∀ j (h : j < l.length), j < i + 1 → l[j].2.size ≤ 50 from fun j h hji => by
          by_cases e : j = i
          · subst e; exact h50
          · exact HT.out j h (by omega)))
        obtain ⟨⟨h, t⟩, hx⟩ : ∃ x, l[i] = x := ⟨_, rfl⟩
        rw [hx] at hc HTI
        simp only at HTI
        have c1 : wr.cell? ⟨bb, off + i * 2 + 1, none⟩ = some (.string t) := hc 1 _ rfl
        clear hc hx hj
        have hw := next_wrap hlt hlen
        by_cases h50 : 50 < t.size
        · have y2 : decide (50 < (t.size : Int)) = true := decide_eq_true (by omega)
          have y2n : decide (50 < t.size) = true := decide_eq_true h50
          go_wp2
          go_ret
          first | exact ⟨rfl, HB.out⟩ | exact ⟨rfl, HPP.out ▸ HB.out⟩
        have y2 : decide (50 < (t.size : Int)) = false := decide_eq_false (by omega)
        have y2n : decide (50 < t.size) = false := decide_eq_false h50
        have HT2 := Lib.hid (HTI.out (by omega))
        have HLT := Lib.hid hlt
        go_wp2
        go_roundw
        case rel => exact ⟨i + 1, by go_num, HLT.out, HT2, by trivial⟩
        case measure => first | exact up_w HLT.out hw | exact up_w2 HLT.out
      · obtain rfl : i = len := by omega
        have HLL := Lib.hid (show ∀ p ∈ l, p.1 < 65536 ∧ p.2.size ≤ 50 from fun p hp => by
          obtain ⟨j, hj, rfl⟩ := List.getElem_of_mem hp
          exact ⟨(HAL.out _ hp).1, HT.out j hj (by have := HA.out.1; omega)⟩)
        clear hlt hi HT
        by_cases h0 : er = 0
        · subst h0
          by_cases h3 : 3000 < sB.size
          · have y3 : decide (3000 < (sB.size : Int)) = true := decide_eq_true (by omega)
            have y3n : decide (3000 < sB.size) = true := decide_eq_true h3
            go_wp2
            go_ret
            first | exact ⟨rfl, HB.out⟩ | exact ⟨rfl, HPP.out ▸ HB.out⟩
          have y3 : decide (3000 < (sB.size : Int)) = false := decide_eq_false (by omega)
          have y3n : decide (3000 < sB.size) = false := decide_eq_false h3
          have hse : sB = bytesN m (knownS 3) := by rw [← HSB.out]; exact if_pos HER.out
          have HGD := Lib.hid (right_good HZ.out (may_ok HER.out).1)
          have hfit := HGD.out.fit
          have hl6 : ∀ p ∈ l.take 6, p.1 < 65536 ∧ p.2.size ≤ 50 := fun p hp => HLL.out p (List.mem_of_mem_take hp)
          have HD := Lib.hid (dec_extra HGD.out HER.out (by decide) hl6 (by rw [List.length_take]; omega) (by rw [← hse]; omega))
          rw [← hse] at HD
          have HWI := Lib.hid (fun W (hA : RowF W 2 exC B i l) => with_any sB B i cap l W hA h20' (by omega) HLL.out)
          simp only [withL_is, Nat.zero_add, Bool.false_or] at HWI
          have HBS := Lib.hid (show (sB ++ extB (l.take 6) 12).size ≤ 140737488351232 by
            rw [ByteArray.size_append]
            have h1 := extB_size (l.take 6) 12 hl6 (by rw [List.length_take]; omega)
            have h2 : (l.take 6).length ≤ 6 := by rw [List.length_take]; omega
            omega)
          generalize sB ++ extB (l.take 6) 12 = bX at *
          generalize (l.take 6).length = nX at *
          obtain ⟨cX, hcX⟩ : ∃ x, oddL (l.take 6) = x := ⟨_, rfl⟩
          rw [hcX] at HD
          simp only [hcX] at HWI
          clear hcX hl6 hse h3 h20'
          go_wp2_with fail
          refine (HWI.out _ (HA.out.below (HPP.out ▸ HB.out))).mono ?_
          rintro e w4 ⟨rfl, hb⟩
          replace HB := Lib.hid (HB.out.trans (hb.mono HB.out.size)); replace HW := Lib.hid (HW.out.below hb); replace HP := Lib.hid (blk_below HP.out hb); clear hb
          cases cX with
          | true =>
            go_wp2_with fail
            refine (dec_is HD.out _ HBS.out).mono ?_
            rintro e w5 ⟨A4, c4, rfl, hw4, hb⟩
            replace HB := Lib.hid (HB.out.trans (hb.mono HB.out.size)); replace HW := Lib.hid (HW.out.below hb); replace HP := Lib.hid (blk_below HP.out hb); clear hb
            have HW4 := Lib.hid hw4; clear hw4
            have I4 := Lib.hid (info_msg.trans (congrArg some (arr_size zeroM A4 zeroM.ws.length c4).1.symm))
            have S4 := Lib.hid (show 17 = (zeroM.arr A4 zeroM.ws.length c4).size from (arr_size zeroM A4 zeroM.ws.length c4).1.symm)
            have O4 := Lib.hid (arr_size zeroM A4 zeroM.ws.length c4).2
            generalize zeroM.arr A4 zeroM.ws.length c4 = arrX at *
            go_wp2_with (first | (refine wpList_store_row rfl 29 _ _ rfl w5.heap.size arrX rfl rfl 29 _ (blk_new w5 _) I4.out S4.out O4.out ?_; refine gate_world (F := fun w' => Hid (w'.heap[w5.heap.size]? = some (.cells arrX 29 (0, 0))) ∧ Hid (Below w5.heap.size w5 w')) ⟨Lib.hid (setRow_heap _ _ _ arrX _ _ (blk_new w5 _)), Lib.hid (below_setRow (below_alloc (Below.refl _ w5) _) (Nat.le_refl _) arrX)⟩ ?_; rintro w6 ⟨HX, hb⟩; have hb := hb.out; replace HB := Lib.hid (HB.out.trans (hb.mono HB.out.size)); replace HW := Lib.hid (HW.out.below hb); replace HP := Lib.hid (blk_below HP.out hb); replace HW4 := Lib.hid (HW4.out.below hb); clear hb) | fail)
            go_ret
            first | exact ⟨rfl, HB.out⟩ | exact ⟨rfl, HPP.out ▸ HB.out⟩
          | false =>
            have HD2 := Lib.hid (show decM 3 bX = (projS 3 m, nX, 0) from HD.out)
            go_wp2_with fail
            refine (dec_is HD2.out _ HBS.out).mono ?_
            rintro e w5 ⟨A4, c4, rfl, hw4, hb⟩
            replace HB := Lib.hid (HB.out.trans (hb.mono HB.out.size)); replace HW := Lib.hid (HW.out.below hb); replace HP := Lib.hid (blk_below HP.out hb); clear hb
            have HW4 := Lib.hid hw4; clear hw4
            have I4 := Lib.hid (info_msg.trans (congrArg some (arr_size (projS 3 m) A4 (projS 3 m).ws.length c4).1.symm))
            have S4 := Lib.hid (show 17 = ((projS 3 m).arr A4 (projS 3 m).ws.length c4).size from (arr_size (projS 3 m) A4 (projS 3 m).ws.length c4).1.symm)
            have O4 := Lib.hid (arr_size (projS 3 m) A4 (projS 3 m).ws.length c4).2
            have SM := Lib.hid (fun W (hw : Wrs W A4 (projS 3 m).ws.length (projS 3 m).ws) (hw2 : Wrs W A n m.ws) => (show Calls Try.prog 15 #[.agg ((projS 3 m).arr A4 (projS 3 m).ws.length c4), .agg ((projS 3 m).arr A n c)] W fun e w' => e = .returned (.bool true) ∧ Below W.heap.size W w' from by
              have h := same_any (projS 3 m) (projS 3 m) A4 A (projS 3 m).ws.length c4 n c W (projS_fit hfit) (projS_fit hfit) hw hw2
              rw [beq_self_eq_true] at h
              exact h))
            generalize (projS 3 m).arr A4 (projS 3 m).ws.length c4 = arrX at *
            have PRJ := Lib.hid (fun (W : World) (hw : Wrs W A n m.ws) => PR.out HZ.out W hw)
            simp only [HER.out, if_pos (show (0 : Nat) = 0 from rfl)] at PRJ
            go_wp2_with (first | refine gate_guard (by rfl) (wpList_load_row rfl 29 _ rfl pp rfl 29 arrM (0, 0) _ HP.out Try.underlying29 rfl IM.out ?_) | refine wpList_load_row rfl 29 _ rfl pp rfl 29 arrM (0, 0) _ HP.out Try.underlying29 rfl IM.out ?_ | (refine wpList_store_row rfl 29 _ _ rfl w5.heap.size arrX rfl rfl 29 _ (blk_new w5 _) I4.out S4.out O4.out ?_; refine gate_world (F := fun w' => Hid (w'.heap[w5.heap.size]? = some (.cells arrX 29 (0, 0))) ∧ Hid (Below w5.heap.size w5 w')) ⟨Lib.hid (setRow_heap _ _ _ arrX _ _ (blk_new w5 _)), Lib.hid (below_setRow (below_alloc (Below.refl _ w5) _) (Nat.le_refl _) arrX)⟩ ?_; rintro w6 ⟨HX, hb⟩; have hb := hb.out; replace HB := Lib.hid (HB.out.trans (hb.mono HB.out.size)); replace HW := Lib.hid (HW.out.below hb); replace HP := Lib.hid (blk_below HP.out hb); replace HW4 := Lib.hid (HW4.out.below hb); clear hb) | fail)
            refine (PRJ.out _ HW.out).mono ?_
            rintro e w7 ⟨rfl, hb⟩
            replace HB := Lib.hid (HB.out.trans (hb.mono HB.out.size)); replace HW := Lib.hid (HW.out.below hb); replace HP := Lib.hid (blk_below HP.out hb); replace HW4 := Lib.hid (HW4.out.below hb); replace HX := Lib.hid (blk_below HX.out hb); clear hb
            obtain ⟨gx, hgx⟩ : ∃ x, w5.heap.size = x := ⟨_, rfl⟩
            rw [hgx] at HX ⊢
            clear hgx
            have I6 := Lib.hid (info_msg.trans (congrArg some (arr_size (projS 3 m) A n c).1.symm))
            have S6 := Lib.hid (show 17 = ((projS 3 m).arr A n c).size from (arr_size (projS 3 m) A n c).1.symm)
            have O6 := Lib.hid (arr_size (projS 3 m) A n c).2
            generalize (projS 3 m).arr A n c = arrW at *
            go_wp2_with (first | (refine wpList_store_row rfl 29 _ _ rfl w7.heap.size arrW rfl rfl 29 _ (blk_new w7 _) I6.out S6.out O6.out ?_; refine gate_world (F := fun w' => Hid (w'.heap[w7.heap.size]? = some (.cells arrW 29 (0, 0))) ∧ Hid (Below w7.heap.size w7 w')) ⟨Lib.hid (setRow_heap _ _ _ arrW _ _ (blk_new w7 _)), Lib.hid (below_setRow (below_alloc (Below.refl _ w7) _) (Nat.le_refl _) arrW)⟩ ?_; rintro w8 ⟨HV, hb⟩; have hb := hb.out; replace HB := Lib.hid (HB.out.trans (hb.mono HB.out.size)); replace HW := Lib.hid (HW.out.below hb); replace HP := Lib.hid (blk_below HP.out hb); replace HW4 := Lib.hid (HW4.out.below hb); replace HX := Lib.hid (blk_below HX.out hb); clear hb) | refine gate_guard (by rfl) (wpList_load_row rfl 29 _ rfl gx rfl 29 arrX (0, 0) _ HX.out Try.underlying29 rfl I4.out ?_) | refine wpList_load_row rfl 29 _ rfl gx rfl 29 arrX (0, 0) _ HX.out Try.underlying29 rfl I4.out ?_ | refine gate_guard (by rfl) (wpList_load_row rfl 29 _ rfl w7.heap.size rfl 29 arrW (0, 0) _ HV.out Try.underlying29 rfl I6.out ?_) | refine wpList_load_row rfl 29 _ rfl w7.heap.size rfl 29 arrW (0, 0) _ HV.out Try.underlying29 rfl I6.out ?_ | fail)
            refine (SM.out _ HW4.out HW.out).mono ?_
            rintro e w9 ⟨rfl, hb⟩
            replace HB := Lib.hid (HB.out.trans (hb.mono HB.out.size))
            go_wp2
            go_ret
            first | exact ⟨rfl, HB.out⟩ | exact ⟨rfl, HPP.out ▸ HB.out⟩
        · have y0 : ((er : Int) == 0) = false := beq_eq_false_iff_ne.2 (by omega)
          have y0n : (er == 0) = false := beq_eq_false_iff_ne.2 h0
          go_wp2
          go_ret
          first | exact ⟨rfl, HB.out⟩ | exact ⟨rfl, HPP.out ▸ HB.out⟩
section
variable {H : Type} {enc : TypeId × Value → H} {w : World} {base : Nat} {spare : Nat → Bool} {held : Bool}
set_option maxRecDepth 10000 in
theorem extra_opens : Opens enc Try.prog w base spare held 49 fun (p : ExT) cs => cs = exC p ∧ p.1 < 65536 ∧ p.2.size ≤ 140737488351232 :=
  (opens_struct2 Try.underlying49 (opens_int Try.underlying47) (opens_string Try.underlying9)).imp fun p cs ⟨hl, ⟨h0, hw⟩, ⟨h1, hz⟩⟩ => by
    have e : Try.prog.cellsOf 49 = 2 := by kernel_rfl
    have e0 : Try.prog.cellsOf 9 = 1 := by kernel_rfl
    have e2 : Try.prog.cellsOf 47 = 1 := by kernel_rfl
    obtain ⟨a, z⟩ := p
    have hw := wf_u16 hw
    obtain ⟨a, rfl⟩ := Int.eq_ofNat_of_zero_le hw.1
    rw [e] at hl
    simp only [e0, e2] at h0 h1
    refine ⟨(a, z), ?_, by simp only; omega, hz⟩
    match cs, hl with
    | [c0, c1], _ =>
      simp at h0 h1
      subst h0 h1
      rfl
theorem extras_opens : Opens enc Try.prog w base spare held 46 fun (l : List ExT) cs => ∃ A len cap, cs = [.slice A len cap] ∧ len ≤ cap ∧ cap ≤ maxLen ∧ len * Try.prog.bytesOf 49 ≤ 140737488351232 ∧ RowSays w (Try.prog.cellsOf 49) (fun p cs => cs = exC p ∧ p.1 < 65536 ∧ p.2.size ≤ 140737488351232) A len l :=
  opens_slice Try.underlying46 (by decide +kernel) extra_opens
end
theorem msg_extra_walk (p : MsgS × Option Addr × Nat × Nat) (B : Option Addr) (len cap : Nat) (l : List ExT) (v : Int) (W : World) (hi : p.1.In) (hw : Wrs W p.2.1 p.2.2.1 p.1.ws) (hn : p.2.2.1 ≤ 140737488351232)
    (hc : len ≤ cap) (hs : len * Try.prog.bytesOf 49 ≤ 140737488351232) (hr : RowSays W (Try.prog.cellsOf 49) (fun p cs => cs = exC p ∧ p.1 < 65536 ∧ p.2.size ≤ 140737488351232) B len l) (hv : (Lit.int .u8 v).wf = true) :
    Calls Try.prog 6 #[.agg (p.1.arr p.2.1 p.2.2.1 p.2.2.2), .slice B len cap, .int .u8 v] W fun e w' => e = .returned (.bool true) ∧ Below W.heap.size W w' := by
  have e1 : Try.prog.cellsOf 49 = 2 := by kernel_rfl
  have e2 : Try.prog.bytesOf 49 = 24 := by kernel_rfl
  rw [e1] at hr
  rw [e2] at hs
  obtain ⟨h0, h1⟩ := wf_u8 hv
  obtain ⟨v, rfl⟩ := Int.eq_ofNat_of_zero_le h0
  have hA := RowF.of_says (f := exC) (hr.imp fun _ _ h => h.1)
  have hal := hr.all (q := fun p => p.1 < 65536 ∧ p.2.size ≤ 140737488351232) fun _ _ h => h.2
  rcases (show v % 3 = 0 ∨ v % 3 = 1 ∨ v % 3 = 2 by omega) with h | h | h
  · exact msg_extra_1 p.1 p.2.1 p.2.2.1 p.2.2.2 B len cap l v W hw hn hi hA (by omega) hal h
  · exact msg_extra_2 p.1 p.2.1 p.2.2.1 p.2.2.2 B len cap l v W hw hn hi hA (by omega) hal h
  · exact msg_extra_3 p.1 p.2.1 p.2.2.1 p.2.2.2 B len cap l v W hw hn hi hA (by omega) hal h
end Go.Proofs.Ytemhmgpihkemjaa.My
