/- msg.Msg.bytes. -/
import Derived.Test.YtemhmgpihkemjaaMsg3
namespace Go.Proofs.Ytemhmgpihkemjaa.My
set_option linter.unusedSimpArgs false
set_option linter.unusedVariables false
open Go.RowKit Go.Proofs.YtemhmgpihkemjaaW.PrintWords Go.Proofs.YtemhmgpihkemjaaW.PrintLast Go.Proofs.Ytemhmgpihkemjaa.Pm

def fldB (m : MsgS) (tag : Nat) : ByteArray := if (fieldS m tag).2 = true then uvS (headS tag) ++ textS (fieldS m tag).1 else ⟨#[]⟩
def bytesN (m : MsgS) : Nat → ByteArray
  | 0 => uvS m.kind.toNat
  | t + 1 => bytesN m t ++ fldB m (t + 1)
theorem writesS_size : ∀ (l : List WrT), (∀ p ∈ l, p.1.size ≤ 20000 ∧ p.2.2.size ≤ 20000) → (writesS l).size ≤ l.length * 40100
  | [], _ => by simp [writesS, ByteArray.size]
  | p :: r, h => by
    have ih := writesS_size r (fun p hp => h p (List.mem_cons_of_mem _ hp))
    have hp := h p (List.mem_cons_self ..)
    have h1 := textS_size hp.1
    have h2 := textS_size hp.2
    have h3 := flagS_size p.2.1
    simp only [writesS, ByteArray.size_append, List.length_cons]
    omega
theorem ite_fst_size {c : Prop} [Decidable c] {a b : ByteArray × Bool} {N : Nat} (ha : c → a.1.size ≤ N) (hb : ¬ c → b.1.size ≤ N) : (if c then a else b).1.size ≤ N := by
  by_cases h : c
  · rw [if_pos h]; exact ha h
  · rw [if_neg h]; exact hb h
theorem fieldS_size {m : MsgS} (f : m.Fit) (tag : Nat) : (fieldS m tag).1.size ≤ 850000 := by
  have e0 : (⟨#[]⟩ : ByteArray).size = 0 := rfl
  unfold fieldS
  refine ite_fst_size (fun _ => ?_) (fun _ => ite_fst_size (fun _ => ?_) (fun _ => ite_fst_size (fun _ => ?_) (fun _ => ite_fst_size (fun _ => ?_) (fun _ => ite_fst_size (fun _ => ?_) (fun _ => ite_fst_size (fun _ => ?_) (fun _ => ite_fst_size (fun _ => ?_) (fun _ => ite_fst_size (fun _ => ?_) (fun _ => ite_fst_size (fun _ => ?_) (fun _ => ite_fst_size (fun _ => ?_) (fun _ => ite_fst_size (fun _ => ?_) (fun _ => ite_fst_size (fun _ => ?_) (fun _ => ?_))))))))))))
  all_goals simp only
  · have := uvS_le (ok32_lt f.frm); omega
  · have := uvS_le (ok32_lt f.tow); omega
  · have h1 := uvS_le (ok32_lt f.node); have h2 := uvS_le (ok32_lt f.life); have h3 := uvS_le (ok32_lt f.seq); rw [ByteArray.size_append, ByteArray.size_append]; omega
  · have := uvS_le f.a; omega
  · have := uvS_le f.b; omega
  · have := f.key; omega
  · omega
  · have h1 := uvS_le f.time; have h2 := flagS_size m.gone; have h3 := f.value; rw [ByteArray.size_append, ByteArray.size_append]; omega
  · have h0 := f.ws; have h1 := uvS_le (n := m.ws.length) (by omega); have h2 := writesS_size m.ws f.wss; rw [ByteArray.size_append]; omega
  · have := f.note; omega
  · have := uvS_le f.hint; omega
  · have := uvS_le f.must; omega
  · omega
theorem headS_le {tag : Nat} (h : tag ≤ 12) : headS tag < 18446744073709551616 := by unfold headS; split <;> omega
theorem fldB_size {m : MsgS} (f : m.Fit) {tag : Nat} (ht : tag ≤ 12) : (fldB m tag).size ≤ 860000 := by
  unfold fldB
  have e0 : (⟨#[]⟩ : ByteArray).size = 0 := rfl
  split
  · have h1 := uvS_le (headS_le ht); have h2 := fieldS_size f tag; have h3 := textS_le (s := (fieldS m tag).1) (by omega); rw [ByteArray.size_append]; omega
  · omega
theorem bytesN_size {m : MsgS} (f : m.Fit) : ∀ t, t ≤ 12 → (bytesN m t).size ≤ 10 + t * 860000
  | 0, _ => by have := uvS_le (ok32_lt f.kind); simp only [bytesN]; omega
  | t + 1, h => by
    have ih := bytesN_size f t (by omega)
    have := fldB_size f (tag := t + 1) h
    simp only [bytesN, ByteArray.size_append]
    omega
theorem wsucc2 (i : Nat) (h : i ≤ 1000000) : wrap64 (((i + 1 : Nat) : Int) + 1) = ((i + 1 + 1 : Nat) : Int) ∧ wrap64 ((i : Int) + 1 + 1) = ((i + 1 + 1 : Nat) : Int) :=
  ⟨wrap64_id (by omega) (by omega), (wrap64_id (by omega) (by omega)).trans (by omega)⟩
set_option maxRecDepth 100000 in
set_option maxHeartbeats 8000000 in
theorem mbytes_any (m : MsgS) (A : Option Addr) (n c : Nat) (w : World) (f : m.Fit) (hw : Wrs w A n m.ws) (last : Nat) (hl : last ≤ 12) :
    Calls Try.prog 20 #[.agg (m.arr A n c), .int .i64 (last : Int)] w fun e w' => e = .returned (.string (bytesN m last)) ∧ Below w.heap.size w w' := by
  have U := Lib.hid (fun w => uint_any m.kind.toNat w (ok32_lt f.kind))
  have q0 := conv_ok f.kind
  have HF := Lib.hid f
  have HU := Lib.hid (show uvS m.kind.toNat = bytesN m 0 from rfl)
  have HS0 := Lib.hid (show (uvS m.kind.toNat).size ≤ 10 + 0 * 860000 by have := uvS_le (ok32_lt f.kind); omega)
  generalize uvS m.kind.toNat = u at *
  generalize m.kind.toNat = kk at *
  have HW := Lib.hid hw
  have FA := Lib.hid (fun (w : World) (hw : Wrs w A n m.ws) (tag : Nat) (h1 : 1 ≤ tag) (h2 : tag ≤ 12) => mfield_any m A n c w f hw tag h1 h2)
  unfold FieldOf MsgS.arr at FA
  clear hw f
  unfold MsgS.arr
  have HB := Lib.hid ((Below.refl w.heap.size w).alloc (Nat.le_refl _) (.cells #[.int .i64 m.kind, .int .i64 m.frm, .int .i64 m.tow, .int .i64 m.node, .int .i64 m.life, .int .i64 m.seq, .int .u64 m.a, .int .u64 m.b, .string m.key, .bool m.found, .int .u64 m.time, .bool m.gone, .string m.value, .slice A n c, .string m.note, .int .u64 m.hint, .int .u64 m.must] 29))
  have HP := Lib.hid (blk_new w (.cells #[.int .i64 m.kind, .int .i64 m.frm, .int .i64 m.tow, .int .i64 m.node, .int .i64 m.life, .int .i64 m.seq, .int .u64 m.a, .int .u64 m.b, .string m.key, .bool m.found, .int .u64 m.time, .bool m.gone, .string m.value, .slice A n c, .string m.note, .int .u64 m.hint, .int .u64 m.must] 29))
  replace HW := Lib.hid (HW.out.below (below_alloc (Below.refl _ w) (.cells #[.int .i64 m.kind, .int .i64 m.frm, .int .i64 m.tow, .int .i64 m.node, .int .i64 m.life, .int .i64 m.seq, .int .u64 m.a, .int .u64 m.b, .string m.key, .bool m.found, .int .u64 m.time, .bool m.gone, .string m.value, .slice A n c, .string m.note, .int .u64 m.hint, .int .u64 m.must] 29)))
  go_enter Try.func20, Try.ntmps20
  go_wp2_with fail
  refine (U.out _).mono ?_
  rintro e w2 ⟨rfl, hb⟩
  replace HB := Lib.hid (HB.out.trans (hb.mono HB.out.size))
  replace HP := Lib.hid (blk_below HP.out hb)
  replace HW := Lib.hid (HW.out.below hb)
  clear hb U
  generalize hpp : w.heap.size = pp at HP ⊢
  go_wp2
  go_loopw [6, 5] (fun v6 v5 wr => ∃ i : Nat, v6 = .int .i64 ((i + 1 : Nat) : Int) ∧ v5 = .string (bytesN m i) ∧ i ≤ last ∧ Hid (wr.heap[pp]? = some (.cells #[.int .i64 m.kind, .int .i64 m.frm, .int .i64 m.tow, .int .i64 m.node, .int .i64 m.life, .int .i64 m.seq, .int .u64 m.a, .int .u64 m.b, .string m.key, .bool m.found, .int .u64 m.time, .bool m.gone, .string m.value, .slice A n c, .string m.note, .int .u64 m.hint, .int .u64 m.must] 29 (0, 0))) ∧ Hid (Wrs wr A n m.ws) ∧ Hid (Below w.heap.size w wr)) (fun v6 _ _ => last + 1 - (intOf v6).toNat)
  case atStart => exact ⟨0, rfl, by rw [← HU.out], Nat.zero_le _, HP, HW, HB⟩
  case round =>
    clear HP HW HB
    obtain ⟨i, rfl, rfl, hi, HP, HW, HB⟩ := hrel
    by_cases hlt : i < last
    · have x1 : decide (((i + 1 : Nat) : Int) ≤ (last : Int)) = true := by simp; omega
      have x1n : decide (i + 1 ≤ last) = true := by simp; omega
      have x1m : decide ((i : Int) + 1 ≤ (last : Int)) = true := by simp; omega
      have ht12 : i + 1 ≤ 12 := by omega
      have FT := Lib.hid (FA.out wr HW.out (i + 1) (by omega) ht12)
      have hs1 := bytesN_size HF.out i (by omega)
      have hs2 := fieldS_size HF.out (i + 1)
      have hs3 := textS_le (s := (fieldS m (i + 1)).1) (by omega)
      have hs4 := uvS_le (headS_le ht12)
      have HST := Lib.hid (show bytesN m (i + 1) = bytesN m i ++ (if (fieldS m (i + 1)).2 = true then uvS (headS (i + 1)) ++ textS (fieldS m (i + 1)).1 else ⟨#[]⟩) from rfl)
      have TX := Lib.hid (fun w => text_any (fieldS m (i + 1)).1 w (by omega))
      have UX := Lib.hid (fun w => uint_any (headS (i + 1)) w (headS_le ht12))
      have HX := Lib.hid (fun w => head_any (i + 1) w (by omega))
      have HW1 := Lib.hid (wsucc2 i (by omega))
      generalize fieldS m (i + 1) = ff at *
      obtain ⟨fs, fb⟩ := ff
      simp only at hs2 hs3 HST FT TX
      go_wp2_with (first | refine wpList_load_row rfl 29 _ rfl pp rfl 29 #[.int .i64 m.kind, .int .i64 m.frm, .int .i64 m.tow, .int .i64 m.node, .int .i64 m.life, .int .i64 m.seq, .int .u64 m.a, .int .u64 m.b, .string m.key, .bool m.found, .int .u64 m.time, .bool m.gone, .string m.value, .slice A n c, .string m.note, .int .u64 m.hint, .int .u64 m.must] (0, 0) _ HP.out Try.underlying29 rfl (by kernel_rfl) ?_ | fail)
      refine FT.out.mono ?_
      rintro e w3 ⟨rfl, hb⟩
      replace HB := Lib.hid (HB.out.trans (hb.mono HB.out.size))
      replace HP := Lib.hid (blk_below HP.out hb)
      replace HW := Lib.hid (HW.out.below hb)
      clear hb FT x1 x1n x1m
      cases fb with
      | false =>
        rw [if_neg (by decide), app_e] at HST
        clear hs1 hs2 hs3 hs4
        obtain ⟨hw, hw2⟩ := HW1.out
        go_wp2
        go_roundw
        case rel => exact ⟨i + 1, by go_num, by rw [HST.out], hlt, HP, HW, HB⟩
        case measure => first | (rw [hw]; simp only [intOf]; clear hw hw2; omega) | (rw [hw2]; simp only [intOf]; clear hw hw2; omega) | (simp only [intOf]; clear hw hw2; omega)
      | true =>
        rw [if_pos rfl] at HST
        generalize uvS (headS (i + 1)) = uh at *
        generalize textS fs = tf at *
        generalize headS (i + 1) = hh at *
        generalize bytesN m i = S at *
        have b1 : uh.size + tf.size ≤ 140737488355328 := by omega
        have b2 : S.size + (uh ++ tf).size ≤ 140737488355328 := by rw [ByteArray.size_append]; omega
        clear hs1 hs2 hs3 hs4
        go_wp2_with fail
        refine (HX.out _).mono ?_
        rintro e wq1 ⟨rfl, rfl⟩
        go_wp2_with fail
        refine (UX.out _).mono ?_
        rintro e w4 ⟨rfl, hb⟩
        replace HB := Lib.hid (HB.out.trans (hb.mono HB.out.size))
        replace HP := Lib.hid (blk_below HP.out hb)
        replace HW := Lib.hid (HW.out.below hb)
        clear hb
        go_wp2_with fail
        refine (TX.out _).mono ?_
        rintro e w5 ⟨rfl, hb⟩
        replace HB := Lib.hid (HB.out.trans (hb.mono HB.out.size))
        replace HP := Lib.hid (blk_below HP.out hb)
        replace HW := Lib.hid (HW.out.below hb)
        clear hb
        obtain ⟨hw, hw2⟩ := HW1.out
        go_wp2
        go_roundw
        case rel => exact ⟨i + 1, by go_num, by rw [HST.out], hlt, HP, HW, HB⟩
        case measure => first | (rw [hw]; simp only [intOf]; clear hw hw2; omega) | (rw [hw2]; simp only [intOf]; clear hw hw2; omega) | (simp only [intOf]; clear hw hw2; omega)
    · have x1 : decide (((i + 1 : Nat) : Int) ≤ (last : Int)) = false := by simp; omega
      have x1n : decide (i + 1 ≤ last) = false := by simp; omega
      have x1m : decide ((i : Int) + 1 ≤ (last : Int)) = false := by simp; omega
      have hin : i = last := by omega
      have HE := Lib.hid (show bytesN m last = bytesN m i by rw [hin])
      clear hin
      generalize bytesN m i = S at *
      go_wp2
      go_ret
      rw [HE.out]
      exact ⟨rfl, HB.out⟩
end Go.Proofs.Ytemhmgpihkemjaa.My
