/- The law MsgLong, walked. -/
import Derived.Test.YtemhmgpihkemjaaMrdC
import Derived.Test.YtemhmgpihkemjaaOpenMsg
namespace Go.Proofs.Ytemhmgpihkemjaa.My
set_option linter.unusedSimpArgs false
set_option linter.unusedVariables false
open Go.RowKit Go.Proofs.YtemhmgpihkemjaaW.PrintWords Go.Proofs.YtemhmgpihkemjaaW.PrintLast Go.Proofs.Ytemhmgpihkemjaa.Pm

theorem dec_say (v : Int) (b : ByteArray) (W : World) (hb : b.size ≤ 140737488351232) : ∃ mm lf er, decM v b = (mm, lf, er) ∧ Calls Try.prog 16 #[.int .i64 v, .string b] W fun e w' => ∃ A c, e = .returned (.tuple #[.agg (mm.arr A mm.ws.length c), .int .i64 (lf : Int), .int .i64 (er : Int)]) ∧ Wrs w' A mm.ws.length mm.ws ∧ Below W.heap.size W w' := by
  refine ⟨(decM v b).1, (decM v b).2.1, (decM v b).2.2, rfl, (decode_any v b W hb).mono ?_⟩
  rintro e w' ⟨A, c, rfl, ho, hB⟩
  exact ⟨A, c, rfl, row_wrs (ho.row wrC_len), hB⟩
/-- What a decoding tells, but for the message. -/
theorem dec_err (v : Int) (b : ByteArray) (W : World) (hb : b.size ≤ 140737488351232) : Calls Try.prog 16 #[.int .i64 v, .string b] W fun e w' => ∃ (ar : Array Value) (lf : Nat), e = .returned (.tuple #[.agg ar, .int .i64 (lf : Int), .int .i64 ((decM v b).2.2 : Nat)]) ∧ ar.size = 17 ∧ ar.all (·.oneCell') = true ∧ Below W.heap.size W w' := by
  obtain ⟨mm, lf, er, hd, h⟩ := dec_say v b W hb
  rw [hd]
  refine h.mono ?_
  rintro e w' ⟨A, c, rfl, _, hB⟩
  exact ⟨_, lf, rfl, rfl, (arr_size mm A mm.ws.length c).2, hB⟩
theorem enc_dec3 {m : MsgS} (G : m.Good) (hr : rightB m = true) : (decM 3 (bytesN m 12)).2.2 = 0 := by
  have e := decM_own (v := 3) G hr (hi := 12) (Nat.le_refl _) ⟨#[]⟩ (stM m 12 12) (by decide) (by rw [ap_nil]; exact right_size hr) (by rw [decW_nil]; rfl) rfl rfl
  rw [ap_nil] at e
  rw [e]
  have hc : (stM m 12 12).crit = false := by
    show critN m 12 12 = false
    simp [critN]
  rw [if_neg (by rw [hc]; decide)]
theorem drop_last {s : ByteArray} (h : 0 < s.size) : s = s.extract 0 (s.size - 1) ++ s.extract (s.size - 1) s.size ∧ (s.extract (s.size - 1) s.size).size = 1 := by
  refine ⟨(ext_parts s (n := s.size - 1) (by omega)).1, by rw [ByteArray.size_extract]; omega⟩
theorem less_dec3 {m : MsgS} (G : m.Good) (hr : rightB m = true) (h : 0 < (bytesN m 12).size) : (decM 3 ((bytesN m 12).extract 0 ((bytesN m 12).size - 1))).2.2 ≠ 0 := by
  intro h0
  obtain ⟨e1, e2⟩ := drop_last h
  have := decM_one (v := 3) (b := (bytesN m 12).extract 0 ((bytesN m 12).size - 1)) e2 (by rw [ByteArray.size_extract]; have := right_size hr; omega) h0
  rw [← e1] at this
  exact this (enc_dec3 G hr)
theorem long_dec {v : Int} (hv : knownS v ≠ 0) {b : ByteArray} (h : 4000 < b.size) : (decM v b).2.2 = 3 := by
  unfold decM
  rw [if_neg hv, if_pos h]
theorem bytes_pos (m : MsgS) : 0 < (bytesN m 12).size := by
  have h := bytes_mono m (Nat.zero_le 12)
  have : 0 < (bytesN m 0).size := by
    show 0 < (uvS m.kind.toNat).size
    rw [uvS_size]
    unfold uv
    split <;> simp
  omega
theorem byte_str (x : Nat) (hx : x < 256) (W : World) : (convert 53 9 (.slice (some ⟨W.heap.size, 0, none⟩) 1 1)).run Try.prog (W.alloc (.cells #[.int .u8 (x : Int)] 5)) = .ok (.string ⟨#[UInt8.ofNat x]⟩) (W.alloc (.cells #[.int .u8 (x : Int)] 5)) := by
  have hb : ByteRow (W.alloc (.cells #[.int .u8 (x : Int)] 5)) W.heap.size [UInt8.ofNat x] := by
    intro j hj
    obtain rfl : j = 0 := by simpa using hj
    have hn := blk_new W (.cells #[.int .u8 (x : Int)] 5)
    have e : ((UInt8.ofNat x).toNat : Int) = (x : Int) := by rw [toNat_ofNat8 hx]
    exact ⟨by rw [show ([UInt8.ofNat x][0]'hj) = UInt8.ofNat x from rfl, e]; exact (blk_cell hn 0).trans rfl, blk_frozen hn 0⟩
  exact hb.str 1
set_option maxRecDepth 100000 in
set_option maxHeartbeats 16000000 in
theorem msg_long (m : MsgS) (A : Option Addr) (n c : Nat) (k : Nat) (x : Nat) (w : World) (hw : Wrs w A n m.ws) (hn : n ≤ 140737488351232) (hi : m.In) (hk : k < 65536) (hx : x < 256) :
    Calls Try.prog 7 #[.agg (m.arr A n c), .int .u16 (k : Int), .int .u8 (x : Int)] w fun e w' => e = .returned (.bool true) ∧ Below w.heap.size w w' := by
  have FW := Lib.hid (fun (w : World) (hw : Wrs w A n m.ws) => fewm_any m A n c w hw hn hi.key hi.note hi.value)
  have AW := Lib.hid (fun w => awake05 w)
  have hb1 := below_alloc (Below.refl _ w) (.cells (m.arr A n c) 29)
  have HW := Lib.hid (hw.below hb1)
  have HB := Lib.hid hb1
  have HP := Lib.hid (blk_new w (.cells (m.arr A n c) 29))
  have IM := Lib.hid (info_msg.trans (congrArg some (arr_size m A n c).1.symm))
  have EN := Lib.hid (fun (z : m.Z) (w : World) (hw : Wrs w A n m.ws) => encode_any 3 m A n c w z hw)
  obtain ⟨fb, hfb⟩ : ∃ x, fewB m = x := ⟨_, rfl⟩
  rw [hfb] at FW
  have HZ := Lib.hid (show fb = true → m.Z from fun h => hi.z (fewB_few (hfb.trans h)))
  clear hw hb1 hi hfb
  generalize m.arr A n c = arrM at *
  go_enter Try.func7, Try.ntmps7
  go_wp2_with fail
  refine (AW.out _).mono ?_
  rintro e w1 ⟨rfl, hb⟩
  replace HB := Lib.hid (HB.out.trans (hb.mono HB.out.size)); replace HW := Lib.hid (HW.out.below hb); replace HP := Lib.hid (blk_below HP.out hb); clear hb
  obtain ⟨pp, hpp⟩ : ∃ pp, w.heap.size = pp := ⟨_, rfl⟩
  rw [hpp] at HP ⊢
  have HPP := Lib.hid hpp; clear hpp
  go_wp2_with (first | refine gate_guard (by rfl) (wpList_load_row rfl 29 _ rfl pp rfl 29 arrM (0, 0) _ HP.out Try.underlying29 rfl IM.out ?_) | refine wpList_load_row rfl 29 _ rfl pp rfl 29 arrM (0, 0) _ HP.out Try.underlying29 rfl IM.out ?_ | fail)
  refine (FW.out _ HW.out).mono ?_
  rintro e w2 ⟨rfl, hb⟩
  replace HB := Lib.hid (HB.out.trans (hb.mono HB.out.size)); replace HW := Lib.hid (HW.out.below hb); replace HP := Lib.hid (blk_below HP.out hb); clear hb
  cases fb with
  | false =>
    go_wp2_with fail
    refine (AW.out _).mono ?_
    rintro e w3 ⟨rfl, hb⟩
    replace HB := Lib.hid (HB.out.trans (hb.mono HB.out.size))
    go_wp2
    go_ret
    first | exact ⟨rfl, HB.out⟩ | exact ⟨rfl, HPP.out ▸ HB.out⟩
  | true =>
    replace HZ := Lib.hid (HZ.out rfl)
    have x1 : (k : Int) % 100 = ((k % 100 : Nat) : Int) := by omega
    obtain ⟨k1, hk1⟩ : ∃ y, k % 100 = y := ⟨_, rfl⟩
    rw [hk1] at x1
    have hk2 : k1 < 100 := by omega
    have x2 : Int.tmod (k : Int) 100 = (k1 : Int) := by rw [Int.tmod_eq_emod_of_nonneg (by omega)]; exact x1
    have x3 : IntKind.i64.wrap (k1 : Int) = (k1 : Int) := by simp only [IntKind.wrap_i64]; omega
    have x4 : wrap64 (k1 : Int) = (k1 : Int) := wrap64_id (by omega) (by omega)
    clear hk1 hk
    clear x1
    go_wp2_with (first | ((with_reducible refine gate_dst (N := 31) rfl ?_); refine Kd.R_make (Kd.int .u8) _ 5 rfl (N := 31) rfl 53 _ _ rfl ((4001 + k1 : Nat) : Int) rfl rfl Try.underlying53 (.int .u8 0) 1 info_u8 rfl (by decide) (by omega) 0 (ok := fun _ => True) (okp := fun _ => True) rfl (fun _ hk => hk) trivial (by omega) (by rw [Int.toNat_natCast]; omega) (Below.refl w2.heap.size w2) (Nat.le_refl _) ?_; intro v1 wm hR hb hG hN; clear hG hN; have HR := Lib.hid hR; clear hR; obtain ⟨g, cap, HRR, hg⟩ := make_form HR.out (by omega); obtain ⟨rfl, HRM⟩ := HRR; replace HB := Lib.hid (HB.out.trans (hb.mono HB.out.size)); replace HW := Lib.hid (HW.out.below hb); replace HP := Lib.hid (blk_below HP.out hb); clear hb hg HR; have hcv := own_string (P := Try.prog) Try.underlying53 Try.underlying5 Try.underlying9 (Kd.own_of_R HRM.out); obtain ⟨zs, hzs⟩ : ∃ x, strOfNums (List.replicate (4001 + k1) 0) = x := ⟨_, rfl⟩; rw [hzs] at hcv; have HZS := Lib.hid (show zs.size = 4001 + k1 by rw [← hzs, strOfNums_size, List.length_replicate]); clear hzs) | fail)
    have h1 := dec_err 3 zs wm (by rw [HZS.out]; omega)
    rw [long_dec (by decide) (by rw [HZS.out]; omega), show ((3 : Nat) : Int) = 3 from rfl] at h1
    have H1 := Lib.hid h1; clear h1
    refine H1.out.mono ?_
    rintro e w3 ⟨ar1, lf1, rfl, hz1, ho1, hb⟩
    clear hcv
    replace HB := Lib.hid (HB.out.trans (hb.mono HB.out.size)); replace HW := Lib.hid (HW.out.below hb); replace HP := Lib.hid (blk_below HP.out hb); clear hb
    have I1 := Lib.hid (info_msg.trans (congrArg some hz1.symm)); have S1 := Lib.hid hz1.symm; have O1 := Lib.hid ho1; clear hz1 ho1
    go_wp2_with (first | (refine wpList_store_row rfl 29 _ _ rfl w3.heap.size ar1 rfl rfl 29 _ (blk_new w3 _) I1.out S1.out O1.out ?_; refine gate_world (F := fun w' => Hid (w'.heap[w3.heap.size]? = some (.cells ar1 29 (0, 0))) ∧ Hid (Below w3.heap.size w3 w')) ⟨Lib.hid (setRow_heap _ _ _ ar1 _ _ (blk_new w3 _)), Lib.hid (below_setRow (below_alloc (Below.refl _ w3) _) (Nat.le_refl _) ar1)⟩ ?_; rintro w4 ⟨HX1, hb⟩; have hb := hb.out; replace HB := Lib.hid (HB.out.trans (hb.mono HB.out.size)); replace HW := Lib.hid (HW.out.below hb); replace HP := Lib.hid (blk_below HP.out hb); clear hb) | refine gate_guard (by rfl) (wpList_load_row rfl 29 _ rfl pp rfl 29 arrM (0, 0) _ HP.out Try.underlying29 rfl IM.out ?_) | refine wpList_load_row rfl 29 _ rfl pp rfl 29 arrM (0, 0) _ HP.out Try.underlying29 rfl IM.out ?_ | fail)
    refine (EN.out HZ.out _ HW.out).mono ?_
    rintro e w5 ⟨rfl, hb⟩
    replace HB := Lib.hid (HB.out.trans (hb.mono HB.out.size)); replace HW := Lib.hid (HW.out.below hb); replace HP := Lib.hid (blk_below HP.out hb); clear hb
    by_cases h0 : mayE 3 m = 0
    · obtain ⟨o1, -, -⟩ := may_ok h0
      have HG := Lib.hid (right_good HZ.out o1)
      rw [show encS 3 m = bytesN m 12 from if_pos h0, h0]
      have HD0 := Lib.hid (enc_dec3 HG.out o1)
      have HSZ := Lib.hid (right_size o1)
      have HP1 := Lib.hid (show 0 < (bytesN m 12).size from bytes_pos m)
      have HD2 := Lib.hid (less_dec3 HG.out o1 HP1.out)
      have HD1 := Lib.hid (fun z hz => decM_one (v := 3) (b := bytesN m 12) (z := z) hz HSZ.out HD0.out)
      generalize bytesN m 12 = sB at *
      clear o1 h0
      have q1 : sB.size + (⟨#[UInt8.ofNat x]⟩ : ByteArray).size ≤ 140737488351232 := by have := HSZ.out; show sB.size + 1 ≤ _; omega
      have HCV := Lib.hid (fun W : World => byte_str x hx W)
      obtain ⟨l1, hl1⟩ : ∃ y, sB.size - 1 = y := ⟨_, rfl⟩
      have hsz := HSZ.out
      have hp1 := HP1.out
      have q2 : Value.int .i64 (wrap64 ((sB.size : Int) - 1)) = Value.int .i64 (l1 : Int) := congrArg _ ((wrap64_id (by omega) (by omega)).trans (by omega))
      have q3 : (0 : Int) ≤ (l1 : Int) := by omega
      have q4 : (l1 : Int) ≤ (sB.size : Int) := by omega
      have q5 : l1 ≤ sB.size := by omega
      rw [hl1] at HD2
      have h2 := HD1.out (⟨#[UInt8.ofNat x]⟩ : ByteArray) rfl
      obtain ⟨sX, hsX⟩ : ∃ y, sB ++ (⟨#[UInt8.ofNat x]⟩ : ByteArray) = y := ⟨_, rfl⟩
      rw [hsX] at h2
      have HE2 := Lib.hid (fun W => dec_err 3 sX W (by rw [← hsX, ByteArray.size_append]; exact q1))
      have HE3 := Lib.hid (fun W => dec_err 3 (sB.extract 0 l1) W (by rw [ByteArray.size_extract]; omega))
      obtain ⟨e2, he2⟩ : ∃ y, (decM 3 sX).2.2 = y := ⟨_, rfl⟩
      obtain ⟨e3, he3⟩ : ∃ y, (decM 3 (sB.extract 0 l1)).2.2 = y := ⟨_, rfl⟩
      have h3 := HD2.out
      rw [he2] at h2
      rw [he3] at h3
      simp only [he2] at HE2
      simp only [he3] at HE3
      have r2 : ((e2 : Int) == 0) = false := beq_eq_false_iff_ne.2 (by omega)
      have r2n : (e2 == 0) = false := beq_eq_false_iff_ne.2 h2
      have r3 : ((e3 : Int) == 0) = false := beq_eq_false_iff_ne.2 (by omega)
      have r3n : (e3 == 0) = false := beq_eq_false_iff_ne.2 h3
      have Q1 := Lib.hid q1
      have h2i : ¬ (e2 : Int) = 0 := by omega
      have h3i : ¬ (e3 : Int) = 0 := by omega
      have m2 : ((e2 : Int) != 0) = true := bne_iff_ne.2 h2i
      have m3 : ((e3 : Int) != 0) = true := bne_iff_ne.2 h3i
      clear HD0 HD1 HD2 he2 he3 hsz hp1 hl1 x2 x3 x4 hk2 hx hn
      have hcv2 := HCV.out w5
      go_wp2_with fail
      refine (HE2.out _).mono ?_
      rintro e w6 ⟨ar2, lf2, rfl, hz2, ho2, hb⟩
      clear hcv2
      replace HB := Lib.hid (HB.out.trans ((below_alloc (Below.refl w5.heap.size w5) (.cells #[.int .u8 (x : Int)] 5)).mono HB.out.size)); replace HB := Lib.hid (HB.out.trans (hb.mono HB.out.size)); clear hb
      have I2 := Lib.hid (info_msg.trans (congrArg some hz2.symm)); have S2 := Lib.hid hz2.symm; have O2 := Lib.hid ho2; clear hz2 ho2
      clear q1
      go_wp2_with (first | (refine wpList_store_row rfl 29 _ _ rfl w6.heap.size ar2 rfl rfl 29 _ (blk_new w6 _) I2.out S2.out O2.out ?_; refine gate_world (F := fun w' => Hid (w'.heap[w6.heap.size]? = some (.cells ar2 29 (0, 0))) ∧ Hid (Below w6.heap.size w6 w')) ⟨Lib.hid (setRow_heap _ _ _ ar2 _ _ (blk_new w6 _)), Lib.hid (below_setRow (below_alloc (Below.refl _ w6) _) (Nat.le_refl _) ar2)⟩ ?_; rintro w7 ⟨HX2, hb⟩; have hb := hb.out; replace HB := Lib.hid (HB.out.trans (hb.mono HB.out.size)); clear hb) | fail)
      refine (HE3.out _).mono ?_
      rintro e w8 ⟨ar3, lf3, rfl, hz3, ho3, hb⟩
      replace HB := Lib.hid (HB.out.trans (hb.mono HB.out.size)); clear hb
      have I3 := Lib.hid (info_msg.trans (congrArg some hz3.symm)); have S3 := Lib.hid hz3.symm; have O3 := Lib.hid ho3; clear hz3 ho3
      go_wp2_with (first | (refine wpList_store_row rfl 29 _ _ rfl w8.heap.size ar3 rfl rfl 29 _ (blk_new w8 _) I3.out S3.out O3.out ?_; refine gate_world (F := fun w' => Hid (w'.heap[w8.heap.size]? = some (.cells ar3 29 (0, 0))) ∧ Hid (Below w8.heap.size w8 w')) ⟨Lib.hid (setRow_heap _ _ _ ar3 _ _ (blk_new w8 _)), Lib.hid (below_setRow (below_alloc (Below.refl _ w8) _) (Nat.le_refl _) ar3)⟩ ?_; rintro w9 ⟨HX3, hb⟩; have hb := hb.out; replace HB := Lib.hid (HB.out.trans (hb.mono HB.out.size)); clear hb) | fail)
      go_ret
      first | exact ⟨rfl, HB.out⟩ | exact ⟨rfl, HPP.out ▸ HB.out⟩
    · have y0 : ((mayE 3 m : Int) == 0) = false := beq_eq_false_iff_ne.2 (by omega)
      have y0n : (mayE 3 m == 0) = false := beq_eq_false_iff_ne.2 h0
      go_wp2
      go_ret
      first | exact ⟨rfl, HB.out⟩ | exact ⟨rfl, HPP.out ▸ HB.out⟩
theorem msg_long_walk (p : MsgS × Option Addr × Nat × Nat) (a1 a2 : Int) (W : World) (hi : p.1.In) (hw : Wrs W p.2.1 p.2.2.1 p.1.ws) (hn : p.2.2.1 ≤ 140737488351232) (h1 : (Lit.int .u16 a1).wf = true) (h2 : (Lit.int .u8 a2).wf = true) :
    Calls Try.prog 7 #[.agg (p.1.arr p.2.1 p.2.2.1 p.2.2.2), .int .u16 a1, .int .u8 a2] W fun e w' => e = .returned (.bool true) ∧ Below W.heap.size W w' := by
  obtain ⟨h0, h1⟩ := wf_u16 h1
  obtain ⟨k, rfl⟩ := Int.eq_ofNat_of_zero_le h0
  obtain ⟨h3, h4⟩ := wf_u8 h2
  obtain ⟨x, rfl⟩ := Int.eq_ofNat_of_zero_le h3
  exact msg_long p.1 p.2.1 p.2.2.1 p.2.2.2 k x W hw hn hi (by omega) (by omega)
end Go.Proofs.Ytemhmgpihkemjaa.My
