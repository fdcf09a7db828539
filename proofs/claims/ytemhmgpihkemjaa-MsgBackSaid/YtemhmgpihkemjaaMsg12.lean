/- isoglossref05.Bytes, Same. -/
import Derived.Test.YtemhmgpihkemjaaMsg11
namespace Go.Proofs.Ytemhmgpihkemjaa.My
set_option linter.unusedSimpArgs false
set_option linter.unusedVariables false
open Go.RowKit Go.Proofs.YtemhmgpihkemjaaW.PrintWords Go.Proofs.YtemhmgpihkemjaaW.PrintLast Go.Proofs.Ytemhmgpihkemjaa.Pm

/-- The number ahead of a field, as it is reckoned. -/
theorem head_calc (t : Nat) (h : t ≤ 12) :
    ((((t : Int) == 12) = false ∧ (t == 12) = false ∧ 2 * (t : Int) = ((headS t : Nat) : Int) ∧ wrap64 ((headS t : Nat) : Int) = ((headS t : Nat) : Int) ∧ IntKind.u64.wrap ((headS t : Nat) : Int) = ((headS t : Nat) : Int)) ∨
     (((t : Int) == 12) = true ∧ (t == 12) = true ∧ wrap64 (2 * (t : Int)) = 2 * (t : Int) ∧ IntKind.u64.wrap (2 * (t : Int)) = 2 * (t : Int) ∧ IntKind.u64.wrap (2 * (t : Int) + 1) = ((headS t : Nat) : Int))) := by
  by_cases e : t = 12
  · subst e; exact .inr ⟨rfl, rfl, wrap64_id (by omega) (by omega), wrap_u64_nat (x := 24) (by decide), wrap_u64_nat (x := 25) (by decide)⟩
  · have hh : headS t = 2 * t := by unfold headS; rw [if_neg e]
    rw [hh]
    exact .inl ⟨by simp; omega, by simpa using e, by omega, wrap64_id (by omega) (by omega), wrap_u64_nat (by omega)⟩
theorem wsucc3 (t : Nat) (h : t ≤ 1000000) : wrap64 ((t : Int) + 1) = ((t + 1 : Nat) : Int) := wrap64_id (by omega) (by omega)
set_option maxRecDepth 100000 in
set_option maxHeartbeats 8000000 in
theorem rbytes_any (m : MsgS) (A : Option Addr) (n c : Nat) (w : World) (f : m.Fit) (hw : Wrs w A n m.ws) (last : Nat) (hl : last ≤ 12) :
    Calls Try.prog 13 #[.agg (m.arr A n c), .int .i64 (last : Int)] w fun e w' => e = .returned (.string (bytesN m last)) ∧ Below w.heap.size w w' := by
  have U := Lib.hid (fun w => ruint_any m.kind.toNat w (ok32_lt f.kind))
  have q0 := conv_ok f.kind
  have HF := Lib.hid f
  have HU := Lib.hid (show uvS m.kind.toNat = bytesN m 0 from rfl)
  have HS0 := Lib.hid (show (uvS m.kind.toNat).size ≤ 10 + 0 * 860000 by have := uvS_le (ok32_lt f.kind); omega)
  generalize uvS m.kind.toNat = u at *
  generalize m.kind.toNat = kk at *
  have HW := Lib.hid hw
  have FA := Lib.hid (fun (w : World) (hw : Wrs w A n m.ws) (tag : Nat) (h1 : 1 ≤ tag) (h2 : tag ≤ 12) => rfield_any m A n c w f hw tag h1 h2)
  unfold RFieldOf MsgS.arr at FA
  clear hw f
  unfold MsgS.arr
  have HB := Lib.hid ((Below.refl w.heap.size w).alloc (Nat.le_refl _) (.cells #[.int .i64 m.kind, .int .i64 m.frm, .int .i64 m.tow, .int .i64 m.node, .int .i64 m.life, .int .i64 m.seq, .int .u64 m.a, .int .u64 m.b, .string m.key, .bool m.found, .int .u64 m.time, .bool m.gone, .string m.value, .slice A n c, .string m.note, .int .u64 m.hint, .int .u64 m.must] 29))
  have HP := Lib.hid (blk_new w (.cells #[.int .i64 m.kind, .int .i64 m.frm, .int .i64 m.tow, .int .i64 m.node, .int .i64 m.life, .int .i64 m.seq, .int .u64 m.a, .int .u64 m.b, .string m.key, .bool m.found, .int .u64 m.time, .bool m.gone, .string m.value, .slice A n c, .string m.note, .int .u64 m.hint, .int .u64 m.must] 29))
  replace HW := Lib.hid (HW.out.below (below_alloc (Below.refl _ w) (.cells #[.int .i64 m.kind, .int .i64 m.frm, .int .i64 m.tow, .int .i64 m.node, .int .i64 m.life, .int .i64 m.seq, .int .u64 m.a, .int .u64 m.b, .string m.key, .bool m.found, .int .u64 m.time, .bool m.gone, .string m.value, .slice A n c, .string m.note, .int .u64 m.hint, .int .u64 m.must] 29)))
  go_enter Try.func13, Try.ntmps13
  go_wp2_with fail
  refine (U.out _).mono ?_
  rintro e w2 ⟨rfl, hb⟩
  replace HB := Lib.hid (HB.out.trans (hb.mono HB.out.size))
  replace HP := Lib.hid (blk_below HP.out hb)
  replace HW := Lib.hid (HW.out.below hb)
  clear hb U
  generalize hpp : w.heap.size = pp at HP ⊢
  go_wp2
  go_loopw [6, 5] (fun v6 v5 wr => ∃ i : Nat, v6 = .int .i64 ((i + 1 : Nat) : Int) ∧ v5 = .string (bytesN m i) ∧ i ≤ last ∧ Hid (wr.heap[pp]? = some (.cells #[.int .i64 m.kind, .int .i64 m.frm, .int .i64 m.tow, .int .i64 m.node, .int .i64 m.life, .int .i64 m.seq, .int .u64 m.a, .int .u64 m.b, .string m.key, .bool m.found, .int .u64 m.time, .bool m.gone, .string m.value, .slice A n c, .string m.note, .int .u64 m.hint, .int .u64 m.must] 29 (0, 0))) ∧ Hid (Wrs wr A n m.ws) ∧ Hid (Below w.heap.size w wr)) (fun v6 _ _ => last + 1 - (intOf v6).toNat)
  case atStart => exact ⟨0, rfl, by rw [← HU.out], Nat.zero_le _, HP, HW, HB⟩
  case round =>
    clear HP HW HB
    obtain ⟨i, rfl, rfl, hi, HP, HW, HB⟩ := hrel
    by_cases hlt : i < last
    · have x1 : decide (((i + 1 : Nat) : Int) ≤ (last : Int)) = true := by simp; omega
      have x1n : decide (i + 1 ≤ last) = true := by simp; omega
      have x1m : decide ((i : Int) + 1 ≤ (last : Int)) = true := by simp; omega
      have ht12 : i + 1 ≤ 12 := by omega
      have FT := Lib.hid (FA.out wr HW.out (i + 1) (by omega) ht12)
      have hs1 := bytesN_size HF.out i (by omega)
      have hs2 := fieldS_size HF.out (i + 1)
      have hs3 := textS_le (s := (fieldS m (i + 1)).1) (by omega)
      have hs4 := uvS_le (headS_le ht12)
      have HST := Lib.hid (show bytesN m (i + 1) = bytesN m i ++ (if (fieldS m (i + 1)).2 = true then uvS (headS (i + 1)) ++ textS (fieldS m (i + 1)).1 else ⟨#[]⟩) from rfl)
      have TX := Lib.hid (fun w => rtext_any (fieldS m (i + 1)).1 w (by omega))
      have UX := Lib.hid (fun w => ruint_any (headS (i + 1)) w (headS_le ht12))
      have HX := Lib.hid (head_calc (i + 1) ht12)
      have HW1 := Lib.hid (wsucc3 (i + 1) (by omega))
      have HTI := Lib.hid (show i + 1 ≤ last from hlt)
      clear x1m
      generalize hti : i + 1 = tg at *
      have HTG := Lib.hid hti; clear hti
      generalize fieldS m tg = ff at *
      obtain ⟨fs, fb⟩ := ff
      simp only at hs2 hs3 HST FT TX
      go_wp2_with (first | refine wpList_load_row rfl 29 _ rfl pp rfl 29 #[.int .i64 m.kind, .int .i64 m.frm, .int .i64 m.tow, .int .i64 m.node, .int .i64 m.life, .int .i64 m.seq, .int .u64 m.a, .int .u64 m.b, .string m.key, .bool m.found, .int .u64 m.time, .bool m.gone, .string m.value, .slice A n c, .string m.note, .int .u64 m.hint, .int .u64 m.must] (0, 0) _ HP.out Try.underlying29 rfl (by kernel_rfl) ?_ | fail)
      refine FT.out.mono ?_
      rintro e w3 ⟨fs', rfl, hfs, hb⟩
      replace HB := Lib.hid (HB.out.trans (hb.mono HB.out.size))
      replace HP := Lib.hid (blk_below HP.out hb)
      replace HW := Lib.hid (HW.out.below hb)
      clear hb FT x1 x1n
      have HKEY := HX
      cases fb with
      | false =>
        rw [if_neg (by decide), app_e] at HST
        clear hs1 hs2 hs3 hs4 hfs
        generalize headS tg = hh at *
        rcases HKEY.out with ⟨y1, y1b, z1, z2, z3⟩ | ⟨y1, y1b, z1, z2, z3⟩
        all_goals
          go_wp2
          have hw := HW1.out
          clear z1 z2 z3 y1 y1b
          go_wp2
          go_roundw
          case rel => exact ⟨tg, by go_num, by rw [HST.out], HTI.out, HP, HW, HB⟩
          case measure => first | (rw [hw]; simp only [intOf]; clear hw; have := HTI.out; omega) | (simp only [intOf]; clear hw; have := HTI.out; omega)
      | true =>
        rw [if_pos rfl] at HST
        generalize uvS (headS tg) = uh at *
        generalize textS fs = tf at *
        generalize headS tg = hh at *
        generalize bytesN m i = S at *
        have b1 : uh.size + tf.size ≤ 140737488355328 := by omega
        have b2 : S.size + (uh ++ tf).size ≤ 140737488355328 := by rw [ByteArray.size_append]; omega
        clear hs1 hs2 hs3 hs4
        obtain rfl : fs' = fs := hfs rfl
        clear hfs
        rcases HKEY.out with ⟨y1, y1b, z1, z2, z3⟩ | ⟨y1, y1b, z1, z2, z3⟩
        all_goals
          go_wp2_with fail
          refine (UX.out _).mono ?_
          rintro e w4 ⟨rfl, hb⟩
          replace HB := Lib.hid (HB.out.trans (hb.mono HB.out.size))
          replace HP := Lib.hid (blk_below HP.out hb)
          replace HW := Lib.hid (HW.out.below hb)
          clear hb z1 z2 z3 y1 y1b
          go_wp2_with fail
          refine (TX.out _).mono ?_
          rintro e w5 ⟨rfl, hb⟩
          replace HB := Lib.hid (HB.out.trans (hb.mono HB.out.size))
          replace HP := Lib.hid (blk_below HP.out hb)
          replace HW := Lib.hid (HW.out.below hb)
          clear hb
          have hw := HW1.out
          go_wp2
          go_roundw
          case rel => exact ⟨tg, by go_num, by rw [HST.out], HTI.out, HP, HW, HB⟩
          case measure => first | (rw [hw]; simp only [intOf]; clear hw; have := HTI.out; omega) | (simp only [intOf]; clear hw; have := HTI.out; omega)
    · have x1 : decide (((i + 1 : Nat) : Int) ≤ (last : Int)) = false := by simp; omega
      have x1n : decide (i + 1 ≤ last) = false := by simp; omega
      have x1m : decide ((i : Int) + 1 ≤ (last : Int)) = false := by simp; omega
      have hin : i = last := by omega
      have HE := Lib.hid (show bytesN m last = bytesN m i by rw [hin])
      clear hin
      generalize bytesN m i = S at *
      go_wp2
      go_ret
      rw [HE.out]
      exact ⟨rfl, HB.out⟩

end Go.Proofs.Ytemhmgpihkemjaa.My
