/- msg.Msg.field: the writes; any tag. -/
import Derived.Test.YtemhmgpihkemjaaMsg2
namespace Go.Proofs.Ytemhmgpihkemjaa.My
set_option linter.unusedSimpArgs false
set_option linter.unusedVariables false
open Go.RowKit Go.Proofs.YtemhmgpihkemjaaW.PrintWords Go.Proofs.YtemhmgpihkemjaaW.PrintLast Go.Proofs.Ytemhmgpihkemjaa.Pm

theorem e_app (s : ByteArray) : (⟨#[]⟩ : ByteArray) ++ s = s := bl_ext (by rw [bl_append, bl_empty, List.nil_append])
theorem app_e (s : ByteArray) : s ++ (⟨#[]⟩ : ByteArray) = s := bl_ext (by rw [bl_append, bl_empty, List.append_nil])
theorem writesS_snoc (l : List WrT) (p : WrT) : writesS (l ++ [p]) = writesS l ++ (flagS p.2.1 ++ textS p.1 ++ textS p.2.2) := by
  induction l with
  | nil => simp only [List.nil_append, writesS, e_app, app_e, ByteArray.append_assoc]
  | cons q r ih => simp [writesS, ih, ByteArray.append_assoc]
theorem succ_w {i len : Nat} (hi : i < len) (hl : len ≤ 140737488351232) : wrap64 ((i : Int) + 1) = ((i + 1 : Nat) : Int) := wrap64_id (by omega) (by omega)
theorem up_w {j n : Nat} (h : j < n) (hw : wrap64 ((j : Int) + 1) = ((j + 1 : Nat) : Int)) : n - (intOf (.int .i64 (wrap64 ((j : Int) + 1)))).toNat < n - (intOf (.int .i64 (j : Int))).toNat := by
  rw [hw]
  simp only [intOf]
  omega
theorem up_w2 {j n : Nat} (h : j < n) : n - (intOf (.int .i64 ((j : Int) + 1))).toNat < n - (intOf (.int .i64 (j : Int))).toNat := by
  simp only [intOf]
  omega
theorem textS_size {s : ByteArray} (h : s.size ≤ 20000) : (textS s).size ≤ 20010 := by have := textS_le (s := s) (by omega); omega
set_option maxRecDepth 100000 in
set_option maxHeartbeats 8000000 in
theorem mfield_9 (m : MsgS) (A : Option Addr) (n c : Nat) (w : World) (f : m.Fit) (hw : Wrs w A n m.ws) : FieldOf m A n c w 9 := by
  unfold FieldOf
  have hn20 : n ≤ 20 := by rw [← hw.1]; exact f.ws
  have U := Lib.hid (fun w => uint_any n w (by omega))
  have e : fieldS m 9 = (uvS n ++ writesS m.ws, decide (0 < n)) := by rw [← hw.1]; rfl
  rw [e]
  clear e
  have hd : decide (0 < n) = decide ((0 : Int) < (n : Int)) := by rw [decide_eq_decide]; omega
  have HD := Lib.hid hd; clear hd
  have l1 := uvS_le (n := n) (by omega)
  have hu' : uvS n = uvS n ++ writesS (m.ws.take 0) := by simp only [List.take_zero, writesS, app_e]
  have hu := Lib.hid hu'; clear hu'
  have HT := Lib.hid (show m.ws.take n = m.ws from List.take_of_length_le (by rw [hw.1]; exact Nat.le_refl _))
  generalize uvS n = u at *
  have q0 : IntKind.u64.wrap (n : Int) = (n : Int) := wrap_u64_nat (by omega)
  have HW := Lib.hid hw
  have HF := Lib.hid f.wss
  clear hw f
  unfold MsgS.arr
  have HB := Lib.hid ((Below.refl w.heap.size w).alloc (Nat.le_refl _) (.cells #[.int .i64 m.kind, .int .i64 m.frm, .int .i64 m.tow, .int .i64 m.node, .int .i64 m.life, .int .i64 m.seq, .int .u64 m.a, .int .u64 m.b, .string m.key, .bool m.found, .int .u64 m.time, .bool m.gone, .string m.value, .slice A n c, .string m.note, .int .u64 m.hint, .int .u64 m.must] 29))
  have HP := Lib.hid (blk_new w (.cells #[.int .i64 m.kind, .int .i64 m.frm, .int .i64 m.tow, .int .i64 m.node, .int .i64 m.life, .int .i64 m.seq, .int .u64 m.a, .int .u64 m.b, .string m.key, .bool m.found, .int .u64 m.time, .bool m.gone, .string m.value, .slice A n c, .string m.note, .int .u64 m.hint, .int .u64 m.must] 29))
  replace HW := Lib.hid (HW.out.below (below_alloc (Below.refl _ w) (.cells #[.int .i64 m.kind, .int .i64 m.frm, .int .i64 m.tow, .int .i64 m.node, .int .i64 m.life, .int .i64 m.seq, .int .u64 m.a, .int .u64 m.b, .string m.key, .bool m.found, .int .u64 m.time, .bool m.gone, .string m.value, .slice A n c, .string m.note, .int .u64 m.hint, .int .u64 m.must] 29)))
  go_enter Try.func35, Try.ntmps35
  go_wp2_with fail
  refine (U.out _).mono ?_
  rintro e w2 ⟨rfl, hb⟩
  replace HB := Lib.hid (HB.out.trans (hb.mono HB.out.size))
  replace HP := Lib.hid (blk_below HP.out hb)
  replace HW := Lib.hid (HW.out.below hb)
  clear hb U
  generalize hpp : w.heap.size = pp at HP ⊢
  have p13 := (blk_cell HP.out 13).trans rfl
  go_wp2
  go_loopw [102, 7] (fun v102 v7 wr => ∃ (i : Nat) (S : ByteArray), v102 = .int .i64 i ∧ v7 = .string S ∧ i ≤ n ∧ Hid (S = u ++ writesS (m.ws.take i)) ∧ S.size ≤ 20 + i * 50000 ∧ Hid (wr.heap[pp]? = some (.cells #[.int .i64 m.kind, .int .i64 m.frm, .int .i64 m.tow, .int .i64 m.node, .int .i64 m.life, .int .i64 m.seq, .int .u64 m.a, .int .u64 m.b, .string m.key, .bool m.found, .int .u64 m.time, .bool m.gone, .string m.value, .slice A n c, .string m.note, .int .u64 m.hint, .int .u64 m.must] 29 (0, 0))) ∧ Hid (Wrs wr A n m.ws) ∧ Hid (Below w.heap.size w wr)) (fun v102 _ _ => n - (intOf v102).toNat)
  case atStart => exact ⟨0, u, rfl, rfl, Nat.zero_le _, hu, by omega, HP, HW, HB⟩
  case round =>
    clear HP HW HB p13 hu l1
    obtain ⟨i, S, rfl, rfl, hi, HS, hsz, HP, HW, HB⟩ := hrel
    by_cases hlt : i < n
    · have x1 : decide ((i : Int) < (n : Int)) = true := by simp; omega
      have x1n : decide (i < n) = true := by simp; omega
      obtain ⟨b0, off, ck, cg, cv, rfl, hbl, hget, d0, d1, d2⟩ := HW.out.cells i hlt
      obtain ⟨hil, hgi⟩ := List.getElem?_eq_some_iff.1 hget
      have hws := HF.out _ (List.getElem_mem hil)
      rw [hgi] at hws
      have HTK := Lib.hid (show m.ws.take (i + 1) = m.ws.take i ++ [(ck, cg, cv)] by rw [List.take_succ_eq_append_getElem hil, hgi])
      have hsk := textS_size hws.1
      have hsv := textS_size hws.2
      have TK := Lib.hid (fun w => text_any ck w (by have := hws.1; simp only at this; omega))
      have TV := Lib.hid (fun w => text_any cv w (by have := hws.2; simp only at this; omega))
      have FG := Lib.hid (fun w => flag_any cg w)
      have hsf := flagS_size cg
      have HST := Lib.hid (show S ++ (flagS cg ++ textS ck ++ textS cv) = u ++ writesS (m.ws.take (i + 1)) by rw [HTK.out, writesS_snoc, HS.out]; exact ByteArray.append_assoc)
      clear hget hil hgi hws HTK
      have hw := succ_w hlt (show n ≤ 140737488351232 by omega)
      have HWW := Lib.hid hw; clear hw
      simp only at hsk hsv TK TV
      generalize textS ck = tk at *
      generalize textS cv = tv at *
      generalize flagS cg = tf at *
      have b1 : (9223372036854775807 < tf.size + tk.size) = False := eq_false (by omega)
      have b2 : (9223372036854775807 < (tf ++ tk).size + tv.size) = False := eq_false (by rw [ByteArray.size_append]; omega)
      have b3 : (9223372036854775807 < tf.size + tk.size + tv.size) = False := eq_false (by omega)
      have b4 : (9223372036854775807 < S.size + (tf ++ tk ++ tv).size) = False := eq_false (by rw [ByteArray.size_append, ByteArray.size_append]; omega)
      have b5 : (9223372036854775807 < S.size + (tf.size + tk.size + tv.size)) = False := eq_false (by omega)
      have hsz2 : (S ++ (tf ++ tk ++ tv)).size ≤ 20 + (i + 1) * 50000 := by rw [ByteArray.size_append, ByteArray.size_append, ByteArray.size_append]; omega
      have HSZ := Lib.hid hsz2
      clear hsk hsv hsf hsz hsz2
      go_wp2
      have HC := Lib.hid (blk_new wr (.cells #[.string ck, .bool cg, .string cv] 56))
      have HP := Lib.hid (blk_alloc HP.out (.cells #[.string ck, .bool cg, .string cv] 56))
      have HW := Lib.hid (HW.out.below (below_alloc (Below.refl _ wr) (.cells #[.string ck, .bool cg, .string cv] 56)))
      have HB := Lib.hid (HB.out.alloc HB.out.size (.cells #[.string ck, .bool cg, .string cv] 56))
      clear d0 d1 d2 hbl
      generalize wr.alloc (.cells #[.string ck, .bool cg, .string cv] 56) = w3 at *
      generalize wr.heap.size = bb at *
      refine start_ (n := 14) (S := fun w' => w'.cell? ⟨bb, 1, none⟩ = some (.bool cg) ∧ w'.cell? ⟨bb, 0, none⟩ = some (.string ck) ∧ w'.cell? ⟨bb, 2, none⟩ = some (.string cv)) (ds := []) #[false, false, false, false, false, false, false, false, false, false, false, false, false, false] (by kernel_rfl) rfl rfl ⟨(blk_cell (blk_drew HC.out) 1).trans rfl, (blk_cell (blk_drew HC.out) 0).trans rfl, (blk_cell (blk_drew HC.out) 2).trans rfl⟩ (fun hHeld => ?_)
      have HB := Lib.hid (below_drew HB.out)
      have HC := Lib.hid (blk_drew HC.out)
      have HP := Lib.hid (blk_drew HP.out)
      have HW := Lib.hid (HW.out.below (below_drew (Below.refl _ _)))
      refine pure_ (i := 0) (N := some 106) (v := ?_) (a' := ?_) #[true, false, false, false, false, false, false, false, false, false, false, false, false, false] rfl rfl (by kernel_rfl) (fun _ _ _ h => h) (Or.inl ⟨by rfl, ?_⟩) ?_ ?_
      rotate_left
      · intro w'
        go_simp
        with_reducible rfl
      rotate_left
      · simp only [Act.put, List.setIfInBounds_toArray, List.set_cons_zero, List.set_cons_succ, i64_w, i32_w]
        rfl
      refine pure_ (i := 1) (N := some 107) (v := ?_) (a' := ?_) #[true, true, false, false, false, false, false, false, false, false, false, false, false, false] rfl rfl (by kernel_rfl) (fun _ _ _ h => h) (Or.inl ⟨by rfl, ?_⟩) ?_ ?_
      rotate_left
      · intro w'
        go_simp
        with_reducible rfl
      rotate_left
      · simp only [Act.put, List.setIfInBounds_toArray, List.set_cons_zero, List.set_cons_succ, i64_w, i32_w]
        rfl
      refine pure_ (i := 4) (N := some 110) (v := ?_) (a' := ?_) #[true, true, false, false, true, false, false, false, false, false, false, false, false, false] rfl rfl (by kernel_rfl) (fun _ _ _ h => h) (Or.inl ⟨by rfl, ?_⟩) ?_ ?_
      rotate_left
      · intro w'
        go_simp
        with_reducible rfl
      rotate_left
      · simp only [Act.put, List.setIfInBounds_toArray, List.set_cons_zero, List.set_cons_succ, i64_w, i32_w]
        rfl
      refine pure_ (i := 8) (N := some 114) (v := ?_) (a' := ?_) #[true, true, false, false, true, false, false, false, true, false, false, false, false, false] rfl rfl (by kernel_rfl) (fun _ _ _ h => h) (Or.inl ⟨by rfl, ?_⟩) ?_ ?_
      rotate_left
      · intro w'
        go_simp
        with_reducible rfl
      rotate_left
      · simp only [Act.put, List.setIfInBounds_toArray, List.set_cons_zero, List.set_cons_succ, i64_w, i32_w]
        rfl
      refine take_ (i := 2) (N := some 108) (v := ?_) (a' := ?_) #[true, true, true, false, true, false, false, false, true, false, false, false, false, false] rfl rfl (by kernel_rfl) (fun _ _ _ h => h) (Or.inl ⟨by rfl, ?_⟩) hHeld ?_ ?_
      rotate_left
      · rintro w' ⟨s0, s1, s2⟩
        go_simp
        with_reducible rfl
      rotate_left
      · simp only [Act.put, List.setIfInBounds_toArray, List.set_cons_zero, List.set_cons_succ, i64_w, i32_w]
        rfl
      refine take_ (i := 5) (N := some 111) (v := ?_) (a' := ?_) #[true, true, true, false, true, true, false, false, true, false, false, false, false, false] rfl rfl (by kernel_rfl) (fun _ _ _ h => h) (Or.inl ⟨by rfl, ?_⟩) hHeld ?_ ?_
      rotate_left
      · rintro w' ⟨s0, s1, s2⟩
        go_simp
        with_reducible rfl
      rotate_left
      · simp only [Act.put, List.setIfInBounds_toArray, List.set_cons_zero, List.set_cons_succ, i64_w, i32_w]
        rfl
      refine take_ (i := 9) (N := some 115) (v := ?_) (a' := ?_) #[true, true, true, false, true, true, false, false, true, true, false, false, false, false] rfl rfl (by kernel_rfl) (fun _ _ _ h => h) (Or.inl ⟨by rfl, ?_⟩) hHeld ?_ ?_
      rotate_left
      · rintro w' ⟨s0, s1, s2⟩
        go_simp
        with_reducible rfl
      rotate_left
      · simp only [Act.put, List.setIfInBounds_toArray, List.set_cons_zero, List.set_cons_succ, i64_w, i32_w]
        rfl
      refine one_ (i := 3) (N := some 109) #[true, true, true, true, true, true, false, false, true, true, false, false, false, false] rfl rfl (by kernel_rfl) (by decide) (fun K hK => ?_)
      refine goes_ Try.func43 (by kernel_rfl) rfl #[.bool cg] (by rfl) rfl rfl (by (try simp only [List.map_toArray, List.map_cons, List.map_nil]); first | done | rfl) ?_
      with_reducible refine (FG.out _).mono ?_
      rintro e wq2 ⟨rfl, rfl⟩
      refine ⟨_, rfl, ?_⟩
      refine hK.out _ _ ⟨hHeld.1, hHeld.2.1, hHeld.2.2⟩ (fun hHeld => ?_)
      clear hK K
      refine norm_ (a' := ?_) ?_ ?_
      rotate_left
      · show Act.put _ (some 109) _ = _
        simp only [Act.put, List.setIfInBounds_toArray, List.set_cons_zero, List.set_cons_succ, i64_w, i32_w]
        rfl
      refine one_ (i := 6) (N := some 112) #[true, true, true, true, true, true, true, false, true, true, false, false, false, false] rfl rfl (by kernel_rfl) (by decide) (fun K hK => ?_)
      refine goes_ Try.func37 (by kernel_rfl) rfl #[.string ck] (by rfl) rfl rfl (by (try simp only [List.map_toArray, List.map_cons, List.map_nil]); first | done | rfl) ?_
      with_reducible refine (TK.out _).mono ?_
      rintro e wq1 ⟨rfl, hb⟩
      refine ⟨_, rfl, ?_⟩
      have HB := Lib.hid (HB.out.trans (hb.mono HB.out.size))
      have HC := Lib.hid (blk_below HC.out hb)
      have HP := Lib.hid (blk_below HP.out hb)
      have HW := Lib.hid (HW.out.below hb)
      refine hK.out _ _ ⟨(blk_cell HC.out 1).trans rfl, (blk_cell HC.out 0).trans rfl, (blk_cell HC.out 2).trans rfl⟩ (fun hHeld => ?_)
      clear hK K
      refine norm_ (a' := ?_) ?_ ?_
      rotate_left
      · show Act.put _ (some 112) _ = _
        simp only [Act.put, List.setIfInBounds_toArray, List.set_cons_zero, List.set_cons_succ, i64_w, i32_w]
        rfl
      refine pure_ (i := 7) (N := some 113) (v := ?_) (a' := ?_) #[true, true, true, true, true, true, true, true, true, true, false, false, false, false] rfl rfl (by kernel_rfl) (fun _ _ _ h => h) (Or.inl ⟨by rfl, ?_⟩) ?_ ?_
      rotate_left
      · intro w'
        go_simp
        with_reducible rfl
      rotate_left
      · simp only [Act.put, List.setIfInBounds_toArray, List.set_cons_zero, List.set_cons_succ, i64_w, i32_w]
        rfl
      refine one_ (i := 10) (N := some 116) #[true, true, true, true, true, true, true, true, true, true, true, false, false, false] rfl rfl (by kernel_rfl) (by decide) (fun K hK => ?_)
      refine goes_ Try.func37 (by kernel_rfl) rfl #[.string cv] (by rfl) rfl rfl (by (try simp only [List.map_toArray, List.map_cons, List.map_nil]); first | done | rfl) ?_
      with_reducible refine (TV.out _).mono ?_
      rintro e wq3 ⟨rfl, hb⟩
      refine ⟨_, rfl, ?_⟩
      have HB := Lib.hid (HB.out.trans (hb.mono HB.out.size))
      have HC := Lib.hid (blk_below HC.out hb)
      have HP := Lib.hid (blk_below HP.out hb)
      have HW := Lib.hid (HW.out.below hb)
      refine hK.out _ _ ⟨(blk_cell HC.out 1).trans rfl, (blk_cell HC.out 0).trans rfl, (blk_cell HC.out 2).trans rfl⟩ (fun hHeld => ?_)
      clear hK K
      refine norm_ (a' := ?_) ?_ ?_
      rotate_left
      · show Act.put _ (some 116) _ = _
        simp only [Act.put, List.setIfInBounds_toArray, List.set_cons_zero, List.set_cons_succ, i64_w, i32_w]
        rfl
      refine pure_ (i := 11) (N := some 117) (v := ?_) (a' := ?_) #[true, true, true, true, true, true, true, true, true, true, true, true, false, false] rfl rfl (by kernel_rfl) (fun _ _ _ h => h) (Or.inl ⟨by rfl, ?_⟩) ?_ ?_
      rotate_left
      · intro w'
        go_simp
        with_reducible rfl
      rotate_left
      · simp only [Act.put, List.setIfInBounds_toArray, List.set_cons_zero, List.set_cons_succ, i64_w, i32_w]
        rfl
      refine pure_ (i := 12) (N := some 118) (v := ?_) (a' := ?_) #[true, true, true, true, true, true, true, true, true, true, true, true, true, false] rfl rfl (by kernel_rfl) (fun _ _ _ h => h) (Or.inl ⟨by rfl, ?_⟩) ?_ ?_
      rotate_left
      · intro w'
        go_simp
        with_reducible rfl
      rotate_left
      · simp only [Act.put, List.setIfInBounds_toArray, List.set_cons_zero, List.set_cons_succ, i64_w, i32_w]
        rfl
      refine pure_ (i := 13) (N := some 7) (v := ?_) (a' := ?_) #[true, true, true, true, true, true, true, true, true, true, true, true, true, true] rfl rfl (by kernel_rfl) (fun _ _ _ h => h) (Or.inl ⟨by rfl, ?_⟩) ?_ ?_
      rotate_left
      · intro w'
        go_simp
        with_reducible rfl
      rotate_left
      · simp only [Act.put, List.setIfInBounds_toArray, List.set_cons_zero, List.set_cons_succ, i64_w, i32_w]
        rfl
      refine done_ (by kernel_rfl) ?_

      clear hHeld b1 b2 b3 b4 b5
      have hw := HWW.out
      go_wp2
      go_roundw
      case rel => exact ⟨i + 1, _, by go_num, rfl, hlt, HST, HSZ.out, HP, HW, HB⟩
      case measure => first | exact up_w hlt hw | exact up_w2 hlt
    · have x1 : decide ((i : Int) < (n : Int)) = false := by simp; omega
      have x1n : decide (i < n) = false := by simp; omega
      have hin : i = n := by omega
      have HS2 := Lib.hid (show u ++ writesS m.ws = S by rw [HS.out, hin, HT.out])
      have p13 := (blk_cell HP.out 13).trans rfl
      clear hin
      go_wp2
      go_quiet (fail)
      have HB := Lib.hid (pw_below_drewN HB.out nq)
      go_wp2
      go_ret2
      rw [HS2.out]
      first | exact ⟨rfl, HB.out⟩ | (rw [HD.out]; exact ⟨rfl, HB.out⟩)
theorem mfield_any (m : MsgS) (A : Option Addr) (n c : Nat) (w : World) (f : m.Fit) (hw : Wrs w A n m.ws) (tag : Nat) (h1 : 1 ≤ tag) (h2 : tag ≤ 12) : FieldOf m A n c w tag := by
  rcases (show tag = 1 ∨ tag = 2 ∨ tag = 3 ∨ tag = 4 ∨ tag = 5 ∨ tag = 6 ∨ tag = 7 ∨ tag = 8 ∨ tag = 9 ∨ tag = 10 ∨ tag = 11 ∨ tag = 12 by omega) with rfl | rfl | rfl | rfl | rfl | rfl | rfl | rfl | rfl | rfl | rfl | rfl
  · exact mfield_1 m A n c w f
  · exact mfield_2 m A n c w f
  · exact mfield_3 m A n c w f
  · exact mfield_4 m A n c w f
  · exact mfield_5 m A n c w f
  · exact mfield_6 m A n c w f
  · exact mfield_7 m A n c w f
  · exact mfield_8 m A n c w f
  · exact mfield_9 m A n c w f hw
  · exact mfield_10 m A n c w f
  · exact mfield_11 m A n c w f
  · exact mfield_12 m A n c w f
end Go.Proofs.Ytemhmgpihkemjaa.My
