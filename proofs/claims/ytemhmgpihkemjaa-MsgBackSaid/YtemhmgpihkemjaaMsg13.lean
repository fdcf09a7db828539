/- isoglossref05.Right. -/
import Derived.Test.YtemhmgpihkemjaaMsg12
namespace Go.Proofs.Ytemhmgpihkemjaa.My
set_option linter.unusedSimpArgs false
set_option linter.unusedVariables false
open Go.RowKit Go.Proofs.YtemhmgpihkemjaaW.PrintWords Go.Proofs.YtemhmgpihkemjaaW.PrintLast Go.Proofs.Ytemhmgpihkemjaa.Pm

theorem arr5_cell {w : World} {bb t : Nat} {l : List Int} (h : w.heap[bb]? = some (.cells (l.map fun x => Value.int .i64 x).toArray t (0, 0))) (j : Nat) (hj : j < l.length) : w.cell? ⟨bb, j, none⟩ = some (.int .i64 (l[j]'hj)) := by
  rw [blk_cell h j]
  simp [List.getElem?_eq_getElem hj]
set_option maxRecDepth 100000 in
set_option maxHeartbeats 8000000 in
theorem rright_any (m : MsgS) (A : Option Addr) (n c : Nat) (w : World) (z : m.Z) (hw : Wrs w A n m.ws) :
    Calls Try.prog 22 #[.agg (m.arr A n c)] w fun e w' => e = .returned (.bool (rightB m)) ∧ Below w.heap.size w w' := by
  have HZ := Lib.hid z
  have HN := Lib.hid (show m.ws.take n = m.ws from List.take_of_length_le (by rw [hw.1]; exact Nat.le_refl _))
  have HLN := Lib.hid hw.1
  have hn20 : n ≤ 20 := by rw [← hw.1]; exact z.ws
  have BY := Lib.hid (fun (w : World) (hw : Wrs w A n m.ws) (f : m.Fit) => rbytes_any m A n c w f hw 12 (by decide))
  unfold MsgS.arr at BY
  have HW := Lib.hid hw
  clear hw z
  unfold MsgS.arr
  have hb1 := below_alloc (Below.refl _ w) (.cells #[.int .i64 m.kind, .int .i64 m.frm, .int .i64 m.tow, .int .i64 m.node, .int .i64 m.life, .int .i64 m.seq, .int .u64 m.a, .int .u64 m.b, .string m.key, .bool m.found, .int .u64 m.time, .bool m.gone, .string m.value, .slice A n c, .string m.note, .int .u64 m.hint, .int .u64 m.must] 29)
  have hb2 := below_alloc (Below.refl _ (w.alloc (.cells #[.int .i64 m.kind, .int .i64 m.frm, .int .i64 m.tow, .int .i64 m.node, .int .i64 m.life, .int .i64 m.seq, .int .u64 m.a, .int .u64 m.b, .string m.key, .bool m.found, .int .u64 m.time, .bool m.gone, .string m.value, .slice A n c, .string m.note, .int .u64 m.hint, .int .u64 m.must] 29))) (.cells #[.int .i64 m.frm, .int .i64 m.tow, .int .i64 m.node, .int .i64 m.life, .int .i64 m.seq] 76)
  have HB := Lib.hid (hb1.trans (hb2.mono hb1.size))
  clear hb1 hb2
  have HC0 := blk_new (w.alloc (.cells #[.int .i64 m.kind, .int .i64 m.frm, .int .i64 m.tow, .int .i64 m.node, .int .i64 m.life, .int .i64 m.seq, .int .u64 m.a, .int .u64 m.b, .string m.key, .bool m.found, .int .u64 m.time, .bool m.gone, .string m.value, .slice A n c, .string m.note, .int .u64 m.hint, .int .u64 m.must] 29)) (.cells #[.int .i64 m.frm, .int .i64 m.tow, .int .i64 m.node, .int .i64 m.life, .int .i64 m.seq] 76)
  rw [World.size_alloc] at HC0
  have HC := Lib.hid (show _ = some (Obj.cells ([m.frm, m.tow, m.node, m.life, m.seq].map fun x => Value.int .i64 x).toArray 76 (0, 0)) from HC0)
  clear HC0
  have HP := Lib.hid (blk_alloc (blk_new w (.cells #[.int .i64 m.kind, .int .i64 m.frm, .int .i64 m.tow, .int .i64 m.node, .int .i64 m.life, .int .i64 m.seq, .int .u64 m.a, .int .u64 m.b, .string m.key, .bool m.found, .int .u64 m.time, .bool m.gone, .string m.value, .slice A n c, .string m.note, .int .u64 m.hint, .int .u64 m.must] 29)) (.cells #[.int .i64 m.frm, .int .i64 m.tow, .int .i64 m.node, .int .i64 m.life, .int .i64 m.seq] 76))
  replace HW := Lib.hid ((HW.out.below (below_alloc (Below.refl _ w) (.cells #[.int .i64 m.kind, .int .i64 m.frm, .int .i64 m.tow, .int .i64 m.node, .int .i64 m.life, .int .i64 m.seq, .int .u64 m.a, .int .u64 m.b, .string m.key, .bool m.found, .int .u64 m.time, .bool m.gone, .string m.value, .slice A n c, .string m.note, .int .u64 m.hint, .int .u64 m.must] 29))).below (below_alloc (Below.refl _ (w.alloc (.cells #[.int .i64 m.kind, .int .i64 m.frm, .int .i64 m.tow, .int .i64 m.node, .int .i64 m.life, .int .i64 m.seq, .int .u64 m.a, .int .u64 m.b, .string m.key, .bool m.found, .int .u64 m.time, .bool m.gone, .string m.value, .slice A n c, .string m.note, .int .u64 m.hint, .int .u64 m.must] 29))) (.cells #[.int .i64 m.frm, .int .i64 m.tow, .int .i64 m.node, .int .i64 m.life, .int .i64 m.seq] 76)))
  go_enter Try.func22, Try.ntmps22
  go_wp2
  generalize hpp : w.heap.size = pp at HP HC ⊢
  generalize (w.alloc (.cells #[.int .i64 m.kind, .int .i64 m.frm, .int .i64 m.tow, .int .i64 m.node, .int .i64 m.life, .int .i64 m.seq, .int .u64 m.a, .int .u64 m.b, .string m.key, .bool m.found, .int .u64 m.time, .bool m.gone, .string m.value, .slice A n c, .string m.note, .int .u64 m.hint, .int .u64 m.must] 29)).alloc (.cells #[.int .i64 m.frm, .int .i64 m.tow, .int .i64 m.node, .int .i64 m.life, .int .i64 m.seq] 76) = w0 at *
  have HII := Lib.hid (show m.ints = [m.frm, m.tow, m.node, m.life, m.seq] from rfl)
  obtain ⟨l5, hl5⟩ : ∃ l, [m.frm, m.tow, m.node, m.life, m.seq] = l := ⟨_, rfl⟩
  have HL5 := Lib.hid (show l5.length = 5 by rw [← hl5]; rfl)
  rw [hl5] at HII HC
  have HT5 := Lib.hid (show l5.take 5 = l5 from List.take_of_length_le (by rw [HL5.out]; exact Nat.le_refl _))
  clear hl5
  go_loopw [4] (fun v4 wr => ∃ i : Nat, v4 = .int .i64 i ∧ i ≤ 5 ∧ Hid ((l5.take i).all okB = true) ∧ wr = w0) (fun v4 _ => 5 - (intOf v4).toNat)
  case atStart => exact ⟨0, rfl, Nat.zero_le _, Lib.hid rfl, rfl⟩
  case round =>
    obtain ⟨i, rfl, hi, HA, rfl⟩ := hrel
    by_cases hlt : i < 5
    · have x1 : decide ((i : Int) < 5) = true := by simp; omega
      have x1n : decide (i < 5) = true := by simp; omega
      have hil : i < l5.length := by rw [HL5.out]; exact hlt
      have c0 := arr5_cell HC.out i hil
      have HT := Lib.hid (show l5.take (i + 1) = l5.take i ++ [l5[i]] from List.take_succ_eq_append_getElem hil)
      have HM := Lib.hid (List.getElem_mem hil)
      generalize l5[i] = x at *
      have hw := succ_w hlt (show 5 ≤ 140737488351232 by decide)
      have HWW := Lib.hid hw; clear hw hil
      by_cases hx : okB x = true
      · have hok := okB_iff.1 hx
        have HOK := Lib.hid hx
        have y0 : decide (x < 0) = false := decide_eq_false (by unfold Ok32 at hok; omega)
        have y1 : decide (2147483647 < x) = false := decide_eq_false (by unfold Ok32 at hok; omega)
        clear hx hok
        have hw := HWW.out
        go_wp2
        go_roundw
        case rel => exact ⟨i + 1, by go_num, hlt, by rw [HT.out]; exact Lib.hid (by rw [List.all_append, HA.out, List.all_cons, HOK.out]; rfl), by first | rfl | trivial⟩
        case measure => first | exact up_w hlt hw | exact up_w2 hlt
      · have hr : rightB m = false := by
          have : m.ints.all okB = false := by rw [HII.out, List.all_eq_false]; exact ⟨x, HM.out, hx⟩
          unfold rightB
          rw [this]
          simp
        have HR := Lib.hid hr; clear hr
        by_cases h0 : x < 0
        · have y0 : decide (x < 0) = true := decide_eq_true h0
          clear hx h0
          go_wp2
          go_ret
          rw [HR.out]
          exact ⟨rfl, hpp ▸ HB.out⟩
        · have y0 : decide (x < 0) = false := decide_eq_false h0
          have y1 : decide (2147483647 < x) = true := decide_eq_true (by
            rcases Int.lt_or_le 2147483647 x with h | h
            · exact h
            · exact absurd (okB_iff.2 ⟨by omega, h⟩) hx)
          clear hx h0
          go_wp2
          go_ret
          rw [HR.out]
          exact ⟨rfl, hpp ▸ HB.out⟩
    · have x1 : decide ((i : Int) < 5) = false := by simp; omega
      have x1n : decide (i < 5) = false := by simp; omega
      have hi5 : i = 5 := by omega
      have HIT := Lib.hid (show m.ints.all okB = true by have := HA.out; rw [hi5, HT5.out] at this; rw [HII.out]; exact this)
      clear hi5 hi HC HT5 HL5 HII HA
      have p0 := (blk_cell HP.out 0).trans rfl
      have p1 := (blk_cell HP.out 1).trans rfl
      have p2 := (blk_cell HP.out 2).trans rfl
      have p3 := (blk_cell HP.out 3).trans rfl
      have p4 := (blk_cell HP.out 4).trans rfl
      have p5 := (blk_cell HP.out 5).trans rfl
      have p6 := (blk_cell HP.out 6).trans rfl
      have p7 := (blk_cell HP.out 7).trans rfl
      have p8 := (blk_cell HP.out 8).trans rfl
      have p9 := (blk_cell HP.out 9).trans rfl
      have p10 := (blk_cell HP.out 10).trans rfl
      have p11 := (blk_cell HP.out 11).trans rfl
      have p12 := (blk_cell HP.out 12).trans rfl
      have p13 := (blk_cell HP.out 13).trans rfl
      have p14 := (blk_cell HP.out 14).trans rfl
      have p15 := (blk_cell HP.out 15).trans rfl
      have p16 := (blk_cell HP.out 16).trans rfl
      have e0 := str_e m.value
      by_cases hk : 1 ≤ m.kind ∧ m.kind ≤ 9
      · have y1 : decide (m.kind < 1) = false := decide_eq_false (by omega)
        have y2 : decide (9 < m.kind) = false := decide_eq_false (by omega)
        have HK := Lib.hid hk; clear hk
        by_cases hgv : m.gone = true ∧ m.value.size ≠ 0
        · have HR := Lib.hid (show rightB m = false by unfold rightB; rw [hgv.1, decide_eq_false hgv.2]; simp)
          have e1 : m.value.toList.isEmpty = false := by rw [e0]; simpa using hgv.2
          rw [hgv.1] at p11
          clear hgv e0
          go_wp2
          go_ret
          rw [HR.out]
          exact ⟨rfl, hpp ▸ HB.out⟩
        · have HGV := Lib.hid (show (!m.gone || decide (m.value.size = 0)) = true by cases hg : m.gone <;> simp_all)
          have key : m.gone = false ∨ (m.gone = true ∧ m.value.toList.isEmpty = true) := by
            cases hg : m.gone with
            | false => exact .inl rfl
            | true => exact .inr ⟨rfl, by rw [e0]; simp only [hg, true_and, Decidable.not_not] at hgv; simpa using hgv⟩
          clear e0 hgv
          by_cases h8 : n ≤ 8
          · have x8 : decide (8 < (n : Int)) = false := by simp; omega
            have x8n : decide (8 < n) = false := decide_eq_false (by omega)
            have HFIT := Lib.hid (HZ.out.fit (by have := HK.out; unfold Ok32; omega) HIT.out)
            have H8 := Lib.hid h8; clear h8
            have HRB := Lib.hid (show m.ws.any badW = false → rightB m = decide ((bytesN m 12).size ≤ 4000) from fun ha => by
              unfold rightB
              rw [ha, decide_eq_true HK.out, HIT.out, HGV.out, HLN.out, decide_eq_true H8.out]
              simp only [Bool.not_false, Bool.true_and])
            rcases key with hg | ⟨hg, e1⟩
            · rw [hg] at p11
              clear hg
              go_wp2
              clear p0 p1 p2 p3 p4 p5 p6 p7 p8 p9 p10 p11 p12 p14 p15 p16
              go_loopw [5] (fun v5 wr2 => ∃ j : Nat, v5 = .int .i64 j ∧ j ≤ n ∧ Hid ((m.ws.take j).any badW = false) ∧ wr2 = wr) (fun v5 _ => n - (intOf v5).toNat)
              case atStart => exact ⟨0, rfl, Nat.zero_le _, Lib.hid rfl, rfl⟩
              case round =>
                obtain ⟨j, rfl, hj, HA, rfl⟩ := hrel
                by_cases hjn : j < n
                · have w1 : decide ((j : Int) < (n : Int)) = true := by simp; omega
                  have w1n : decide (j < n) = true := by simp; omega
                  obtain ⟨b0, off, ck, cg, cv, rfl, hbl, hget, d0, d1, d2⟩ := HW.out.cells j hjn
                  obtain ⟨hil, hgi⟩ := List.getElem?_eq_some_iff.1 hget
                  have HTK := Lib.hid (show m.ws.take (j + 1) = m.ws.take j ++ [(ck, cg, cv)] by rw [List.take_succ_eq_append_getElem hil, hgi])
                  have HM := Lib.hid (hgi ▸ List.getElem_mem hil)
                  clear hget hil hgi hbl
                  have hw := succ_w hjn (show n ≤ 140737488351232 by omega)
                  have HWW := Lib.hid hw; clear hw
                  have ev := str_e cv
                  cases cg with
                  | false =>
                    have HBD := Lib.hid (show badW (ck, false, cv) = false from rfl)
                    clear ev
                    have hw := HWW.out
                    go_wp2
                    go_roundw
                    case rel => exact ⟨j + 1, by go_num, hjn, Lib.hid (by rw [HTK.out, List.any_append, HA.out, List.any_cons, HBD.out]; rfl), by first | rfl | trivial⟩
                    case measure => first | exact up_w hjn hw | exact up_w2 hjn
                  | true =>
                    by_cases hv : cv.size = 0
                    · have HBD := Lib.hid (show badW (ck, true, cv) = false by simp [badW, hv])
                      have ev1 : cv.toList.isEmpty = true := by rw [ev]; simpa using hv
                      clear ev
                      have hw := HWW.out
                      go_wp2
                      go_roundw
                      case rel => exact ⟨j + 1, by go_num, hjn, Lib.hid (by rw [HTK.out, List.any_append, HA.out, List.any_cons, HBD.out]; rfl), by first | rfl | trivial⟩
                      case measure => first | exact up_w hjn hw | exact up_w2 hjn
                    · have ev1 : cv.toList.isEmpty = false := by rw [ev]; simpa using hv
                      have hr : rightB m = false := by
                        have : m.ws.any badW = true := List.any_eq_true.2 ⟨_, HM.out, by simp [badW, hv]⟩
                        unfold rightB
                        rw [this]
                        rfl
                      have HR := Lib.hid hr
                      clear hr ev
                      go_wp2
                      go_ret
                      rw [HR.out]
                      exact ⟨rfl, hpp ▸ HB.out⟩
                · have w1 : decide ((j : Int) < (n : Int)) = false := by simp; omega
                  have w1n : decide (j < n) = false := by simp; omega
                  have hjn2 : j = n := by omega
                  have HAN := Lib.hid (show m.ws.any badW = false by have := HA.out; rw [hjn2, HN.out] at this; exact this)
                  have HR4 := Lib.hid (show rightB m = decide (((bytesN m 12).size : Int) ≤ 4000) by rw [HRB.out HAN.out, decide_eq_decide]; omega)
                  have HR5 := Lib.hid (HRB.out HAN.out)
                  clear hjn2 hj HRB
                  have BZ := Lib.hid (BY.out wr HW.out HFIT.out)
                  generalize bytesN m 12 = S at *
                  go_wp2_with (first | refine wpList_load_row rfl 29 _ rfl pp rfl 29 #[.int .i64 m.kind, .int .i64 m.frm, .int .i64 m.tow, .int .i64 m.node, .int .i64 m.life, .int .i64 m.seq, .int .u64 m.a, .int .u64 m.b, .string m.key, .bool m.found, .int .u64 m.time, .bool m.gone, .string m.value, .slice A n c, .string m.note, .int .u64 m.hint, .int .u64 m.must] (0, 0) _ HP.out Try.underlying29 rfl (by kernel_rfl) ?_ | fail)
                  refine BZ.out.mono ?_
                  rintro e w2 ⟨rfl, hb⟩
                  replace HB := Lib.hid (HB.out.trans (hb.mono HB.out.size))
                  clear hb
                  go_wp2
                  go_ret
                  first | (rw [HR4.out]; exact ⟨rfl, hpp ▸ HB.out⟩) | (rw [HR5.out]; exact ⟨rfl, hpp ▸ HB.out⟩)
            · rw [hg] at p11
              clear hg
              go_wp2
              clear p0 p1 p2 p3 p4 p5 p6 p7 p8 p9 p10 p11 p12 p14 p15 p16
              go_loopw [5] (fun v5 wr2 => ∃ j : Nat, v5 = .int .i64 j ∧ j ≤ n ∧ Hid ((m.ws.take j).any badW = false) ∧ wr2 = wr) (fun v5 _ => n - (intOf v5).toNat)
              case atStart => exact ⟨0, rfl, Nat.zero_le _, Lib.hid rfl, rfl⟩
              case round =>
                obtain ⟨j, rfl, hj, HA, rfl⟩ := hrel
                by_cases hjn : j < n
                · have w1 : decide ((j : Int) < (n : Int)) = true := by simp; omega
                  have w1n : decide (j < n) = true := by simp; omega
                  obtain ⟨b0, off, ck, cg, cv, rfl, hbl, hget, d0, d1, d2⟩ := HW.out.cells j hjn
                  obtain ⟨hil, hgi⟩ := List.getElem?_eq_some_iff.1 hget
                  have HTK := Lib.hid (show m.ws.take (j + 1) = m.ws.take j ++ [(ck, cg, cv)] by rw [List.take_succ_eq_append_getElem hil, hgi])
                  have HM := Lib.hid (hgi ▸ List.getElem_mem hil)
                  clear hget hil hgi hbl
                  have hw := succ_w hjn (show n ≤ 140737488351232 by omega)
                  have HWW := Lib.hid hw; clear hw
                  have ev := str_e cv
                  cases cg with
                  | false =>
                    have HBD := Lib.hid (show badW (ck, false, cv) = false from rfl)
                    clear ev
                    have hw := HWW.out
                    go_wp2
                    go_roundw
                    case rel => exact ⟨j + 1, by go_num, hjn, Lib.hid (by rw [HTK.out, List.any_append, HA.out, List.any_cons, HBD.out]; rfl), by first | rfl | trivial⟩
                    case measure => first | exact up_w hjn hw | exact up_w2 hjn
                  | true =>
                    by_cases hv : cv.size = 0
                    · have HBD := Lib.hid (show badW (ck, true, cv) = false by simp [badW, hv])
                      have ev1 : cv.toList.isEmpty = true := by rw [ev]; simpa using hv
                      clear ev
                      have hw := HWW.out
                      go_wp2
                      go_roundw
                      case rel => exact ⟨j + 1, by go_num, hjn, Lib.hid (by rw [HTK.out, List.any_append, HA.out, List.any_cons, HBD.out]; rfl), by first | rfl | trivial⟩
                      case measure => first | exact up_w hjn hw | exact up_w2 hjn
                    · have ev1 : cv.toList.isEmpty = false := by rw [ev]; simpa using hv
                      have hr : rightB m = false := by
                        have : m.ws.any badW = true := List.any_eq_true.2 ⟨_, HM.out, by simp [badW, hv]⟩
                        unfold rightB
                        rw [this]
                        rfl
                      have HR := Lib.hid hr
                      clear hr ev
                      go_wp2
                      go_ret
                      rw [HR.out]
                      exact ⟨rfl, hpp ▸ HB.out⟩
                · have w1 : decide ((j : Int) < (n : Int)) = false := by simp; omega
                  have w1n : decide (j < n) = false := by simp; omega
                  have hjn2 : j = n := by omega
                  have HAN := Lib.hid (show m.ws.any badW = false by have := HA.out; rw [hjn2, HN.out] at this; exact this)
                  have HR4 := Lib.hid (show rightB m = decide (((bytesN m 12).size : Int) ≤ 4000) by rw [HRB.out HAN.out, decide_eq_decide]; omega)
                  have HR5 := Lib.hid (HRB.out HAN.out)
                  clear hjn2 hj HRB
                  have BZ := Lib.hid (BY.out wr HW.out HFIT.out)
                  generalize bytesN m 12 = S at *
                  go_wp2_with (first | refine wpList_load_row rfl 29 _ rfl pp rfl 29 #[.int .i64 m.kind, .int .i64 m.frm, .int .i64 m.tow, .int .i64 m.node, .int .i64 m.life, .int .i64 m.seq, .int .u64 m.a, .int .u64 m.b, .string m.key, .bool m.found, .int .u64 m.time, .bool m.gone, .string m.value, .slice A n c, .string m.note, .int .u64 m.hint, .int .u64 m.must] (0, 0) _ HP.out Try.underlying29 rfl (by kernel_rfl) ?_ | fail)
                  refine BZ.out.mono ?_
                  rintro e w2 ⟨rfl, hb⟩
                  replace HB := Lib.hid (HB.out.trans (hb.mono HB.out.size))
                  clear hb
                  go_wp2
                  go_ret
                  first | (rw [HR4.out]; exact ⟨rfl, hpp ▸ HB.out⟩) | (rw [HR5.out]; exact ⟨rfl, hpp ▸ HB.out⟩)
          · have x8 : decide (8 < (n : Int)) = true := by simp; omega
            have x8n : decide (8 < n) = true := decide_eq_true (by omega)
            have HR := Lib.hid (show rightB m = false by unfold rightB; rw [HLN.out, decide_eq_false h8]; simp)
            rcases key with hg | ⟨hg, e1⟩
            · rw [hg] at p11
              clear hg h8
              go_wp2
              go_ret
              rw [HR.out]
              exact ⟨rfl, hpp ▸ HB.out⟩
            · rw [hg] at p11
              clear hg h8
              go_wp2
              go_ret
              rw [HR.out]
              exact ⟨rfl, hpp ▸ HB.out⟩
      · have HR := Lib.hid (show rightB m = false by unfold rightB; rw [decide_eq_false hk]; simp)
        clear e0
        by_cases h1 : 1 ≤ m.kind
        · have y1 : decide (m.kind < 1) = false := decide_eq_false (by omega)
          have y2 : decide (9 < m.kind) = true := decide_eq_true (by omega)
          clear hk h1
          go_wp2
          go_ret
          rw [HR.out]
          exact ⟨rfl, hpp ▸ HB.out⟩
        · have y1 : decide (m.kind < 1) = true := decide_eq_true (by omega)
          clear hk h1
          go_wp2
          go_ret
          rw [HR.out]
          exact ⟨rfl, hpp ▸ HB.out⟩
end Go.Proofs.Ytemhmgpihkemjaa.My
