/- msg.small, right, may. -/
import Derived.Test.YtemhmgpihkemjaaMsg4
namespace Go.Proofs.Ytemhmgpihkemjaa.My
set_option linter.unusedSimpArgs false
set_option linter.unusedVariables false
open Go.RowKit Go.Proofs.YtemhmgpihkemjaaW.PrintWords Go.Proofs.YtemhmgpihkemjaaW.PrintLast Go.Proofs.Ytemhmgpihkemjaa.Pm

def okB (x : Int) : Bool := decide (0 ≤ x) && decide (x ≤ 2147483647)
theorem okB_iff {x : Int} : okB x = true ↔ Ok32 x := by unfold okB Ok32; simp
def badW (p : WrT) : Bool := p.2.1 && decide (p.2.2.size ≠ 0)
def MsgS.ints (m : MsgS) : List Int := [m.frm, m.tow, m.node, m.life, m.seq]
def rightB (m : MsgS) : Bool := !(m.ws.any badW) && (decide (1 ≤ m.kind ∧ m.kind ≤ 9) && (m.ints.all okB && ((!m.gone || decide (m.value.size = 0)) && (decide (m.ws.length ≤ 8) && decide ((bytesN m 12).size ≤ 4000)))))
/-- Of a size that is looked at. -/
structure MsgS.Z (m : MsgS) : Prop where
  a : m.a < 18446744073709551616
  b : m.b < 18446744073709551616
  key : m.key.size ≤ 20000
  time : m.time < 18446744073709551616
  value : m.value.size ≤ 20000
  ws : m.ws.length ≤ 20
  wss : ∀ p ∈ m.ws, p.1.size ≤ 20000 ∧ p.2.2.size ≤ 20000
  note : m.note.size ≤ 20000
  hint : m.hint < 18446744073709551616
  must : m.must < 18446744073709551616
theorem MsgS.Z.fit {m : MsgS} (z : m.Z) (hk : Ok32 m.kind) (hi : m.ints.all okB = true) : m.Fit := by
  unfold MsgS.ints at hi
  simp only [List.all_cons, List.all_nil, Bool.and_true, Bool.and_eq_true, okB_iff] at hi
  exact ⟨hi.1, hi.2.1, hi.2.2.1, hi.2.2.2.1, hi.2.2.2.2, hk, z.a, z.b, z.key, z.time, z.value, z.ws, z.wss, z.note, z.hint, z.must⟩
theorem rightB_fit {m : MsgS} (z : m.Z) (h : rightB m = true) : m.Fit := by
  unfold rightB at h
  simp only [Bool.and_eq_true, decide_eq_true_eq] at h
  exact z.fit (by have := h.2.1; unfold Ok32; omega) h.2.2.1
set_option maxHeartbeats 4000000 in
theorem small_any (b : Nat) (cap : Nat) (l : List Int) (w : World) (hl : l.length ≤ 1000) (hc : ∀ j (h : j < l.length), w.cell? ⟨b, j, none⟩ = some (.int .i64 (l[j]'h))) :
    Calls Try.prog 41 #[.slice (some ⟨b, 0, none⟩) l.length cap] w fun e w' => e = .returned (.bool (l.all okB)) ∧ w = w' := by
  have HC := Lib.hid hc; clear hc
  have HN := Lib.hid (show l.take l.length = l from List.take_of_length_le (Nat.le_refl _))
  obtain ⟨n, hn⟩ : ∃ n, l.length = n := ⟨_, rfl⟩
  rw [hn] at hl ⊢
  have HNN := Lib.hid hn; clear hn
  go_enter Try.func41, Try.ntmps41
  go_wp2
  go_loopw [7] (fun v7 wr => ∃ i : Nat, v7 = .int .i64 i ∧ i ≤ n ∧ Hid ((l.take i).all okB = true) ∧ wr = w) (fun v7 _ => n - (intOf v7).toNat)
  case atStart => exact ⟨0, rfl, Nat.zero_le _, Lib.hid rfl, rfl⟩
  case round =>
    obtain ⟨i, rfl, hi, HA, rfl⟩ := hrel
    by_cases hlt : i < n
    · have x1 : decide ((i : Int) < (n : Int)) = true := by simp; omega
      have x1n : decide (i < n) = true := by simp; omega
      have hil : i < l.length := by rw [HNN.out]; exact hlt
      have c0 := HC.out i hil
      have HT := Lib.hid (show l.take (i + 1) = l.take i ++ [l[i]] from List.take_succ_eq_append_getElem hil)
      have HM := Lib.hid (List.getElem_mem hil)
      generalize l[i] = x at *
      have hw := succ_w hlt (show n ≤ 140737488351232 by omega)
      have HW := Lib.hid hw; clear hw hil
      by_cases h0 : x < 0
      · have y0 : decide (x < 0) = true := decide_eq_true h0
        have hr : l.all okB = false := by
          rw [List.all_eq_false]
          exact ⟨x, HM.out, by rw [okB_iff]; unfold Ok32; omega⟩
        have HR := Lib.hid hr
        clear hr
        go_wp2
        go_ret
        rw [HR.out]
        exact ⟨rfl, rfl⟩
      · have y0 : decide (x < 0) = false := decide_eq_false h0
        by_cases h1 : 2147483647 < x
        · have y1 : decide (2147483647 < x) = true := decide_eq_true h1
          have hr : l.all okB = false := by
            rw [List.all_eq_false]
            exact ⟨x, HM.out, by rw [okB_iff]; unfold Ok32; omega⟩
          have HR := Lib.hid hr
          clear hr
          go_wp2
          go_ret
          rw [HR.out]
          exact ⟨rfl, rfl⟩
        · have y1 : decide (2147483647 < x) = false := decide_eq_false h1
          have HOK := Lib.hid (show okB x = true by rw [okB_iff]; unfold Ok32; omega)
          have hw := HW.out
          go_wp2
          go_roundw
          case rel => exact ⟨i + 1, by go_num, hlt, by rw [HT.out]; exact Lib.hid (by rw [List.all_append, HA.out, List.all_cons, HOK.out]; rfl), by first | rfl | trivial⟩
          case measure => first | exact up_w hlt hw | exact up_w2 hlt
    · have x1 : decide ((i : Int) < (n : Int)) = false := by simp; omega
      have x1n : decide (i < n) = false := by simp; omega
      have hin : i = n := by omega
      have hr : l.all okB = true := by have := HA.out; rw [hin, ← HNN.out, HN.out] at this; exact this
      have HR := Lib.hid hr
      clear hr hin
      go_wp2
      go_ret
      rw [HR.out]
      exact ⟨rfl, rfl⟩
theorem five_cells (w : World) (a b c d e : Int) (j : Nat) (h : j < [a, b, c, d, e].length) : (w.alloc (.cells #[.int .i64 a, .int .i64 b, .int .i64 c, .int .i64 d, .int .i64 e] 3)).cell? ⟨w.heap.size, j, none⟩ = some (.int .i64 ([a, b, c, d, e][j]'h)) := by
  have hb := blk_new w (.cells #[.int .i64 a, .int .i64 b, .int .i64 c, .int .i64 d, .int .i64 e] 3)
  match j, h with
  | 0, _ => exact (blk_cell hb 0).trans rfl
  | 1, _ => exact (blk_cell hb 1).trans rfl
  | 2, _ => exact (blk_cell hb 2).trans rfl
  | 3, _ => exact (blk_cell hb 3).trans rfl
  | 4, _ => exact (blk_cell hb 4).trans rfl
set_option maxRecDepth 100000 in
set_option maxHeartbeats 8000000 in
theorem right_any (m : MsgS) (A : Option Addr) (n c : Nat) (w : World) (z : m.Z) (hw : Wrs w A n m.ws) :
    Calls Try.prog 33 #[.agg (m.arr A n c)] w fun e w' => e = .returned (.bool (rightB m)) ∧ Below w.heap.size w w' := by
  have HZ := Lib.hid z
  have HN := Lib.hid (show m.ws.take n = m.ws from List.take_of_length_le (by rw [hw.1]; exact Nat.le_refl _))
  have HLN := Lib.hid hw.1
  have hn20 : n ≤ 20 := by rw [← hw.1]; exact z.ws
  have HW := Lib.hid hw
  have BY := Lib.hid (fun (w : World) (hw : Wrs w A n m.ws) (f : m.Fit) => mbytes_any m A n c w f hw 12 (by decide))
  unfold MsgS.arr at BY
  clear hw z
  unfold MsgS.arr
  have HB := Lib.hid ((Below.refl w.heap.size w).alloc (Nat.le_refl _) (.cells #[.int .i64 m.kind, .int .i64 m.frm, .int .i64 m.tow, .int .i64 m.node, .int .i64 m.life, .int .i64 m.seq, .int .u64 m.a, .int .u64 m.b, .string m.key, .bool m.found, .int .u64 m.time, .bool m.gone, .string m.value, .slice A n c, .string m.note, .int .u64 m.hint, .int .u64 m.must] 29))
  have HP := Lib.hid (blk_new w (.cells #[.int .i64 m.kind, .int .i64 m.frm, .int .i64 m.tow, .int .i64 m.node, .int .i64 m.life, .int .i64 m.seq, .int .u64 m.a, .int .u64 m.b, .string m.key, .bool m.found, .int .u64 m.time, .bool m.gone, .string m.value, .slice A n c, .string m.note, .int .u64 m.hint, .int .u64 m.must] 29))
  replace HW := Lib.hid (HW.out.below (below_alloc (Below.refl _ w) (.cells #[.int .i64 m.kind, .int .i64 m.frm, .int .i64 m.tow, .int .i64 m.node, .int .i64 m.life, .int .i64 m.seq, .int .u64 m.a, .int .u64 m.b, .string m.key, .bool m.found, .int .u64 m.time, .bool m.gone, .string m.value, .slice A n c, .string m.note, .int .u64 m.hint, .int .u64 m.must] 29)))
  go_enter Try.func33, Try.ntmps33
  go_wp2
  generalize hpp : w.heap.size = pp at HP ⊢
  generalize w.alloc (.cells #[.int .i64 m.kind, .int .i64 m.frm, .int .i64 m.tow, .int .i64 m.node, .int .i64 m.life, .int .i64 m.seq, .int .u64 m.a, .int .u64 m.b, .string m.key, .bool m.found, .int .u64 m.time, .bool m.gone, .string m.value, .slice A n c, .string m.note, .int .u64 m.hint, .int .u64 m.must] 29) = w0 at *
  go_loopw [8] (fun v8 wr => ∃ i : Nat, v8 = .int .i64 i ∧ i ≤ n ∧ Hid ((m.ws.take i).any badW = false) ∧ Hid (wr.heap[pp]? = some (.cells #[.int .i64 m.kind, .int .i64 m.frm, .int .i64 m.tow, .int .i64 m.node, .int .i64 m.life, .int .i64 m.seq, .int .u64 m.a, .int .u64 m.b, .string m.key, .bool m.found, .int .u64 m.time, .bool m.gone, .string m.value, .slice A n c, .string m.note, .int .u64 m.hint, .int .u64 m.must] 29 (0, 0))) ∧ Hid (Wrs wr A n m.ws) ∧ Hid (Below w.heap.size w wr)) (fun v8 _ => n - (intOf v8).toNat)
  case atStart => exact ⟨0, rfl, Nat.zero_le _, Lib.hid rfl, HP, HW, HB⟩
  case round =>
    clear HP HW HB
    obtain ⟨i, rfl, hi, HA, HP, HW, HB⟩ := hrel
    by_cases hlt : i < n
    · have x1 : decide ((i : Int) < (n : Int)) = true := by simp; omega
      have x1n : decide (i < n) = true := by simp; omega
      obtain ⟨b0, off, ck, cg, cv, rfl, hbl, hget, d0, d1, d2⟩ := HW.out.cells i hlt
      obtain ⟨hil, hgi⟩ := List.getElem?_eq_some_iff.1 hget
      have HTK := Lib.hid (show m.ws.take (i + 1) = m.ws.take i ++ [(ck, cg, cv)] by rw [List.take_succ_eq_append_getElem hil, hgi])
      have HM := Lib.hid (hgi ▸ List.getElem_mem hil)
      clear hget hil hgi hbl
      have hw := succ_w hlt (show n ≤ 140737488351232 by omega)
      have HWW := Lib.hid hw; clear hw
      have HPN := Lib.hid (blk_alloc HP.out (.cells #[.string ck, .bool cg, .string cv] 56))
      have HWN := Lib.hid (HW.out.below (below_alloc (Below.refl _ wr) (.cells #[.string ck, .bool cg, .string cv] 56)))
      have HBN := Lib.hid (HB.out.alloc HB.out.size (.cells #[.string ck, .bool cg, .string cv] 56))
      have e0 := str_e cv
      cases cg with
      | false =>
        have HBD := Lib.hid (show badW (ck, false, cv) = false from rfl)
        clear e0
        go_wp2
        have hw := HWW.out
        go_wp2
        go_roundw
        case rel => exact ⟨i + 1, by go_num, hlt, Lib.hid (by rw [HTK.out, List.any_append, HA.out, List.any_cons, HBD.out]; rfl), HPN, HWN, HBN⟩
        case measure => first | exact up_w hlt hw | exact up_w2 hlt
      | true =>
        by_cases hv : cv.size = 0
        · have HBD := Lib.hid (show badW (ck, true, cv) = false by simp [badW, hv])
          have e1 : cv.toList.isEmpty = true := by rw [e0]; simpa using hv
          clear e0
          go_wp2
          have hw := HWW.out
          go_wp2
          go_roundw
          case rel => exact ⟨i + 1, by go_num, hlt, Lib.hid (by rw [HTK.out, List.any_append, HA.out, List.any_cons, HBD.out]; rfl), HPN, HWN, HBN⟩
          case measure => first | exact up_w hlt hw | exact up_w2 hlt
        · have e1 : cv.toList.isEmpty = false := by rw [e0]; simpa using hv
          have hr : rightB m = false := by
            have : m.ws.any badW = true := List.any_eq_true.2 ⟨_, HM.out, by simp [badW, hv]⟩
            unfold rightB
            rw [this]
            rfl
          have HR := Lib.hid hr
          clear hr e0
          go_wp2
          go_ret
          rw [HR.out]
          exact ⟨rfl, hpp ▸ HBN.out⟩
    · have x1 : decide ((i : Int) < (n : Int)) = false := by simp; omega
      have x1n : decide (i < n) = false := by simp; omega
      have hin : i = n := by omega
      have HAN := Lib.hid (show m.ws.any badW = false by have := HA.out; rw [hin, HN.out] at this; exact this)
      clear hin hi
      have p0 := (blk_cell HP.out 0).trans rfl
      have p1 := (blk_cell HP.out 1).trans rfl
      have p2 := (blk_cell HP.out 2).trans rfl
      have p3 := (blk_cell HP.out 3).trans rfl
      have p4 := (blk_cell HP.out 4).trans rfl
      have p5 := (blk_cell HP.out 5).trans rfl
      by_cases hk : 1 ≤ m.kind ∧ m.kind ≤ 9
      · have y1 : decide (1 ≤ m.kind) = true := decide_eq_true hk.1
        have y2 : decide (m.kind ≤ 9) = true := decide_eq_true hk.2
        have HK := Lib.hid hk; clear hk
        have HCS := Lib.hid (fun (j : Nat) (h : j < [m.frm, m.tow, m.node, m.life, m.seq].length) => show (wr.alloc (.cells #[.int .i64 m.frm, .int .i64 m.tow, .int .i64 m.node, .int .i64 m.life, .int .i64 m.seq] 3)).cell? ⟨wr.heap.size, j, none⟩ = some (.int .i64 ([m.frm, m.tow, m.node, m.life, m.seq][j]'h)) from five_cells wr m.frm m.tow m.node m.life m.seq j h)
        have SM := Lib.hid (small_any wr.heap.size 5 [m.frm, m.tow, m.node, m.life, m.seq] _ (by simp) HCS.out)
        clear HCS
        have HPN := Lib.hid (blk_alloc HP.out (.cells #[.int .i64 m.frm, .int .i64 m.tow, .int .i64 m.node, .int .i64 m.life, .int .i64 m.seq] 3))
        have HWN := Lib.hid (HW.out.below (below_alloc (Below.refl _ wr) (.cells #[.int .i64 m.frm, .int .i64 m.tow, .int .i64 m.node, .int .i64 m.life, .int .i64 m.seq] 3)))
        have HBN := Lib.hid (HB.out.alloc HB.out.size (.cells #[.int .i64 m.frm, .int .i64 m.tow, .int .i64 m.node, .int .i64 m.life, .int .i64 m.seq] 3))
        have HIN := Lib.hid (show m.ints.all okB = [m.frm, m.tow, m.node, m.life, m.seq].all okB from rfl)
        go_wp2_with fail
        refine SM.out.mono ?_
        rintro e wq ⟨rfl, rfl⟩
        clear p0 p1 p2 p3 p4 p5 y1 y2 SM
        rw [← HIN.out]
        clear HP HW HB
        have HP := HPN
        have HW := HWN
        have HB := HBN
        clear HPN HWN HBN
        generalize wr.alloc (.cells #[.int .i64 m.frm, .int .i64 m.tow, .int .i64 m.node, .int .i64 m.life, .int .i64 m.seq] 3) = w1 at *
        cases hin : m.ints.all okB with
        | false =>
          have HR := Lib.hid (show rightB m = false by unfold rightB; rw [hin]; simp)
          clear hin
          go_wp2
          go_ret
          rw [HR.out]
          exact ⟨rfl, hpp ▸ HB.out⟩
        | true =>
          have HIT := Lib.hid hin; clear hin
          have e0 := str_e m.value
          have p0 := (blk_cell HP.out 0).trans rfl
          have p1 := (blk_cell HP.out 1).trans rfl
          have p2 := (blk_cell HP.out 2).trans rfl
          have p3 := (blk_cell HP.out 3).trans rfl
          have p4 := (blk_cell HP.out 4).trans rfl
          have p5 := (blk_cell HP.out 5).trans rfl
          have p6 := (blk_cell HP.out 6).trans rfl
          have p7 := (blk_cell HP.out 7).trans rfl
          have p8 := (blk_cell HP.out 8).trans rfl
          have p9 := (blk_cell HP.out 9).trans rfl
          have p10 := (blk_cell HP.out 10).trans rfl
          have p11 := (blk_cell HP.out 11).trans rfl
          have p12 := (blk_cell HP.out 12).trans rfl
          have p13 := (blk_cell HP.out 13).trans rfl
          have p14 := (blk_cell HP.out 14).trans rfl
          have p15 := (blk_cell HP.out 15).trans rfl
          have p16 := (blk_cell HP.out 16).trans rfl
          by_cases hgv : m.gone = true ∧ m.value.size ≠ 0
          · have HR := Lib.hid (show rightB m = false by unfold rightB; rw [hgv.1, decide_eq_false hgv.2]; simp)
            have e1 : m.value.toList.isEmpty = false := by rw [e0]; simpa using hgv.2
            rw [hgv.1] at p11
            clear hgv e0
            go_wp2
            go_ret
            rw [HR.out]
            exact ⟨rfl, hpp ▸ HB.out⟩
          · have HGV := Lib.hid (show (!m.gone || decide (m.value.size = 0)) = true by cases hg : m.gone <;> simp_all)
            have tail : ∀ gg : Bool, m.gone = gg → (gg = true → m.value.toList.isEmpty = true) → True := fun _ _ _ => trivial
            clear tail
            have key : m.gone = false ∨ (m.gone = true ∧ m.value.toList.isEmpty = true) := by
              cases hg : m.gone with
              | false => exact .inl rfl
              | true => exact .inr ⟨rfl, by rw [e0]; simp only [hg, true_and, Decidable.not_not] at hgv; simpa using hgv⟩
            clear e0 hgv
            rcases key with hg | ⟨hg, e1⟩
            · rw [hg] at p11
              have HG := Lib.hid hg; clear hg
              by_cases h8 : n ≤ 8
              · have x8 : decide ((n : Int) ≤ 8) = true := by simp; omega
                have x8n : decide (n ≤ 8) = true := decide_eq_true h8
                have HFIT := Lib.hid (HZ.out.fit (by have := HK.out; unfold Ok32; omega) HIT.out)
                have BZ := Lib.hid (BY.out w1 HW.out HFIT.out)
                have HR4 := Lib.hid (show rightB m = decide (((bytesN m 12).size : Int) ≤ 4000) by
                  unfold rightB
                  rw [HAN.out, decide_eq_true HK.out, HIT.out, HGV.out, HLN.out, decide_eq_true h8]
                  simp only [Bool.not_false, Bool.true_and]
                  rw [decide_eq_decide]
                  omega)
                have HR5 := Lib.hid (show rightB m = decide ((bytesN m 12).size ≤ 4000) by
                  rw [HR4.out, decide_eq_decide]
                  omega)
                generalize bytesN m 12 = S at *
                rw [HG.out] at BZ
                go_wp2_with fail
                refine BZ.out.mono ?_
                rintro e w2 ⟨rfl, hb⟩
                have HB := Lib.hid (HB.out.trans (hb.mono HB.out.size))
                clear hb
                go_wp2
                go_ret
                first | (rw [HR4.out]; exact ⟨rfl, hpp ▸ HB.out⟩) | (rw [HR5.out]; exact ⟨rfl, HB.out⟩)
              · have x8 : decide ((n : Int) ≤ 8) = false := by simp; omega
                have x8n : decide (n ≤ 8) = false := decide_eq_false h8
                have HR := Lib.hid (show rightB m = false by unfold rightB; rw [HLN.out, decide_eq_false h8]; simp)
                go_wp2
                go_ret
                rw [HR.out]
                exact ⟨rfl, hpp ▸ HB.out⟩
            · rw [hg] at p11
              have HG := Lib.hid hg; clear hg
              by_cases h8 : n ≤ 8
              · have x8 : decide ((n : Int) ≤ 8) = true := by simp; omega
                have x8n : decide (n ≤ 8) = true := decide_eq_true h8
                have HFIT := Lib.hid (HZ.out.fit (by have := HK.out; unfold Ok32; omega) HIT.out)
                have BZ := Lib.hid (BY.out w1 HW.out HFIT.out)
                have HR4 := Lib.hid (show rightB m = decide (((bytesN m 12).size : Int) ≤ 4000) by
                  unfold rightB
                  rw [HAN.out, decide_eq_true HK.out, HIT.out, HGV.out, HLN.out, decide_eq_true h8]
                  simp only [Bool.not_false, Bool.true_and]
                  rw [decide_eq_decide]
                  omega)
                have HR5 := Lib.hid (show rightB m = decide ((bytesN m 12).size ≤ 4000) by
                  rw [HR4.out, decide_eq_decide]
                  omega)
                generalize bytesN m 12 = S at *
                rw [HG.out] at BZ
                go_wp2_with fail
                refine BZ.out.mono ?_
                rintro e w2 ⟨rfl, hb⟩
                have HB := Lib.hid (HB.out.trans (hb.mono HB.out.size))
                clear hb
                go_wp2
                go_ret
                first | (rw [HR4.out]; exact ⟨rfl, hpp ▸ HB.out⟩) | (rw [HR5.out]; exact ⟨rfl, HB.out⟩)
              · have x8 : decide ((n : Int) ≤ 8) = false := by simp; omega
                have x8n : decide (n ≤ 8) = false := decide_eq_false h8
                have HR := Lib.hid (show rightB m = false by unfold rightB; rw [HLN.out, decide_eq_false h8]; simp)
                go_wp2
                go_ret
                rw [HR.out]
                exact ⟨rfl, hpp ▸ HB.out⟩
      · have hr : rightB m = false := by unfold rightB; rw [decide_eq_false hk]; simp
        have HR := Lib.hid hr
        clear hr
        by_cases h1 : 1 ≤ m.kind
        · have y1 : decide (1 ≤ m.kind) = true := decide_eq_true h1
          have y2 : decide (m.kind ≤ 9) = false := decide_eq_false (fun h => hk ⟨h1, h⟩)
          clear hk
          go_wp2
          go_ret
          rw [HR.out]
          exact ⟨rfl, hpp ▸ HB.out⟩
        · have y1 : decide (1 ≤ m.kind) = false := decide_eq_false h1
          clear hk
          go_wp2
          go_ret
          rw [HR.out]
          exact ⟨rfl, hpp ▸ HB.out⟩
end Go.Proofs.Ytemhmgpihkemjaa.My
