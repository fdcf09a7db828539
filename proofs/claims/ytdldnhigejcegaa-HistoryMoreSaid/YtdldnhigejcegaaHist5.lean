/- history.fault, Fault. -/
import Derived.Test.YtdldnhigejcegaaHist4
namespace Go.Proofs.Ytdldnhigejcegaa.My
set_option linter.unusedSimpArgs false
set_option linter.unusedVariables false
open Go.RowKit Go.Proofs.YtdldnhigejcegaaW.PrintWords Go.Proofs.YtdldnhigejcegaaW.PrintLast Go.Proofs.Ytdldnhigejcegaa.Pm

set_option maxRecDepth 100000 in
set_option maxHeartbeats 4000000 in
theorem clash_closure (x y : TxP) (xb : Nat) (w : World) (hx : w.heap[xb]? = some (.cells x.arr 68 (0, 0))) (ox : TxOk w x) (oy : TxOk w y) :
    Calls Try.prog 63 #[.agg y.arr, .pointer (some ⟨xb, 0, none⟩)] w fun e w' => e = .returned (.bool (clash x y)) ∧ Below w.heap.size w w' := by
  have HQ := Lib.hid (fun W => overlap_any x y W)
  have HS := Lib.hid (fun W hb => shared_any x y W (ox.below hb) (oy.below hb))
  clear ox oy
  unfold clash
  have hx1 : (w.alloc (.cells y.arr 68)).heap[xb]? = some (.cells x.arr 68 (0, 0)) := blk_alloc hx _
  have HB := Lib.hid (below_alloc (Below.refl w.heap.size w) (.cells y.arr 68))
  unfold TxP.arr at *
  generalize sharedS x.ws y.ws = s2 at *
  generalize overS x y = s1 at *
  have z0 : (w.alloc (.cells #[.int .u64 (y.start : Int), .int .u64 (y.commit : Int), .slice y.rA y.rn y.rc, .slice y.wA y.wn y.wc] 68)).cell? ⟨xb, 0, none⟩ = some (.int .u64 (x.start : Int)) := (blk_cell hx1 0).trans rfl
  have z1 : (w.alloc (.cells #[.int .u64 (y.start : Int), .int .u64 (y.commit : Int), .slice y.rA y.rn y.rc, .slice y.wA y.wn y.wc] 68)).cell? ⟨xb, 1, none⟩ = some (.int .u64 (x.commit : Int)) := (blk_cell hx1 1).trans rfl
  have z2 : (w.alloc (.cells #[.int .u64 (y.start : Int), .int .u64 (y.commit : Int), .slice y.rA y.rn y.rc, .slice y.wA y.wn y.wc] 68)).cell? ⟨xb, 2, none⟩ = some (.slice x.rA x.rn x.rc) := (blk_cell hx1 2).trans rfl
  have z3 : (w.alloc (.cells #[.int .u64 (y.start : Int), .int .u64 (y.commit : Int), .slice y.rA y.rn y.rc, .slice y.wA y.wn y.wc] 68)).cell? ⟨xb, 3, none⟩ = some (.slice x.wA x.wn x.wc) := (blk_cell hx1 3).trans rfl
  have HX := Lib.hid hx1
  have HY := Lib.hid (blk_new w (.cells #[.int .u64 (y.start : Int), .int .u64 (y.commit : Int), .slice y.rA y.rn y.rc, .slice y.wA y.wn y.wc] 68))
  clear hx hx1
  by_cases hc : 0 < y.commit
  · have c1 : decide (0 < (y.commit : Int)) = true := by simp; omega
    have c1n := decide_eq_true hc
    rw [c1n, Bool.true_and]
    cases s1 with
    | false =>
      rw [Bool.false_and]
      go_enter Try.func63, Try.ntmps63
      go_wp2_with fail
      refine (HQ.out _).mono ?_
      rintro e w1 ⟨rfl, hb⟩
      replace HB := Lib.hid (HB.out.trans (hb.mono HB.out.size)); clear hb
      go_wp2
      go_ret
      exact ⟨rfl, HB.out⟩
    | true =>
      rw [Bool.true_and]
      go_enter Try.func63, Try.ntmps63
      go_wp2_with fail
      refine (HQ.out _).mono ?_
      rintro e w1 ⟨rfl, hb⟩
      have KX := blk_below HX.out hb
      have KY := blk_below HY.out hb
      replace HB := Lib.hid (HB.out.trans (hb.mono HB.out.size)); clear hb z0 z1 z2 z3
      have z0 : w1.cell? ⟨xb, 0, none⟩ = some (.int .u64 (x.start : Int)) := (blk_cell KX 0).trans rfl
      have z1 : w1.cell? ⟨xb, 1, none⟩ = some (.int .u64 (x.commit : Int)) := (blk_cell KX 1).trans rfl
      have z2 : w1.cell? ⟨xb, 2, none⟩ = some (.slice x.rA x.rn x.rc) := (blk_cell KX 2).trans rfl
      have z3 : w1.cell? ⟨xb, 3, none⟩ = some (.slice x.wA x.wn x.wc) := (blk_cell KX 3).trans rfl
      have y0 : w1.cell? ⟨w.heap.size, 0, none⟩ = some (.int .u64 (y.start : Int)) := (blk_cell KY 0).trans rfl
      have y1 : w1.cell? ⟨w.heap.size, 1, none⟩ = some (.int .u64 (y.commit : Int)) := (blk_cell KY 1).trans rfl
      have y2 : w1.cell? ⟨w.heap.size, 2, none⟩ = some (.slice y.rA y.rn y.rc) := (blk_cell KY 2).trans rfl
      have y3 : w1.cell? ⟨w.heap.size, 3, none⟩ = some (.slice y.wA y.wn y.wc) := (blk_cell KY 3).trans rfl
      clear KX KY
      go_wp2_with fail
      refine (HS.out _ HB.out).mono ?_
      rintro e w2 ⟨rfl, hb⟩
      replace HB := Lib.hid (HB.out.trans (hb.mono HB.out.size)); clear hb
      go_wp2
      go_ret
      exact ⟨rfl, HB.out⟩
  · have c1 : decide (0 < (y.commit : Int)) = false := by simp; omega
    have c1n := decide_eq_false hc
    rw [c1n, Bool.false_and]
    go_enter Try.func63, Try.ntmps63
    go_wp2
    go_ret
    exact ⟨rfl, HB.out⟩
set_option maxRecDepth 100000 in
set_option maxHeartbeats 4000000 in
theorem stale_closure (A : Option Addr) (len cap : Nat) (l : List TxP) (x : TxP) (r : RdT) (lb xb : Nat) (w : World) (hl : w.heap[lb]? = some (.cells #[.slice A len cap] 63 (0, 0))) (hx : w.heap[xb]? = some (.cells x.arr 68 (0, 0))) (hA : Txs w A len l) (hlen : len ≤ 140737488351232) :
    Calls Try.prog 65 #[.agg (rdC r).toArray, .pointer (some ⟨lb, 0, none⟩), .pointer (some ⟨xb, 0, none⟩)] w fun e w' => e = .returned (.bool (!readOk l x.start r)) ∧ Below w.heap.size w w' := by
  have HQ := Lib.hid (fun W hb => reads_any A len cap l r x.start W (hA.below hb) hlen)
  clear hA
  generalize readOk l x.start r = b at *
  have hl1 : (w.alloc (.cells (rdC r).toArray 43)).heap[lb]? = some (.cells #[.slice A len cap] 63 (0, 0)) := blk_alloc hl _
  have hx1 : (w.alloc (.cells (rdC r).toArray 43)).heap[xb]? = some (.cells x.arr 68 (0, 0)) := blk_alloc hx _
  have HB := Lib.hid (below_alloc (Below.refl w.heap.size w) (.cells (rdC r).toArray 43))


  obtain ⟨r0, r1, v0, v1, v2⟩ := r
  unfold TxP.arr at *
  simp only [rdC] at *
  have k0 : (w.alloc (.cells #[.string r0, .bool r1, .int .u64 (v0 : Int), .bool v1, .string v2] 43)).cell? ⟨lb, 0, none⟩ = some (.slice A len cap) := (blk_cell hl1 0).trans rfl
  have k1 : (w.alloc (.cells #[.string r0, .bool r1, .int .u64 (v0 : Int), .bool v1, .string v2] 43)).cell? ⟨xb, 0, none⟩ = some (.int .u64 (x.start : Int)) := (blk_cell hx1 0).trans rfl
  clear hl hx hl1 hx1
  go_enter Try.func65, Try.ntmps65
  go_wp2_with fail
  refine (HQ.out _ HB.out).mono ?_
  rintro e w1 ⟨rfl, hb⟩
  replace HB := Lib.hid (HB.out.trans (hb.mono HB.out.size)); clear hb
  go_wp2
  go_ret
  exact ⟨rfl, HB.out⟩
set_option maxRecDepth 100000 in
set_option maxHeartbeats 8000000 in
theorem fault_any (A : Option Addr) (len cap i : Nat) (l : List TxP) (w : World) (hA : Txs w A len l) (hlen : len ≤ 140737488351232) (hcap : len ≤ cap) (hi : i < len) (hj : i < l.length) :
    Calls Try.prog 50 #[.slice A len cap, .int .i64 (i : Int)] w fun e w' => e = .returned (.int .i64 ((faultS l i l[i] : Nat) : Int)) ∧ Below w.heap.size w w' := by
  obtain ⟨bb, off, hj, rfl, hbW, hc⟩ := hA.1.get i hi
  have HX := Lib.hid (hA.2 _ (List.getElem_mem hj))
  obtain ⟨x, hx⟩ : ∃ x, l[i] = x := ⟨_, rfl⟩
  rw [hx] at HX hc ⊢
  have HA := Lib.hid hA
  clear hA hx
  have hrn := HX.out.2.2.1
  have hwn : x.ws.length = x.wn := HX.out.2.1.1
  have HB1 := Lib.hid (below_alloc (Below.refl w.heap.size w) (.cells #[.slice (some ⟨bb, off, none⟩) len cap] 63))
  have hc1 := range_below hc HB1.out hbW
  have c0 : (w.alloc (.cells #[.slice (some ⟨bb, off, none⟩) len cap] 63)).cell? ⟨bb, off + i * 4, none⟩ = some (.int .u64 (x.start : Int)) := hc1 0 _ rfl
  have c1 : (w.alloc (.cells #[.slice (some ⟨bb, off, none⟩) len cap] 63)).cell? ⟨bb, off + i * 4 + 1, none⟩ = some (.int .u64 (x.commit : Int)) := hc1 1 _ rfl
  have c2 : (w.alloc (.cells #[.slice (some ⟨bb, off, none⟩) len cap] 63)).cell? ⟨bb, off + i * 4 + 2, none⟩ = some (.slice x.rA x.rn x.rc) := hc1 2 _ rfl
  have c3 : (w.alloc (.cells #[.slice (some ⟨bb, off, none⟩) len cap] 63)).cell? ⟨bb, off + i * 4 + 3, none⟩ = some (.slice x.wA x.wn x.wc) := hc1 3 _ rfl
  clear hc hc1 hbW
  have HB := Lib.hid (show Below w.heap.size w ((w.alloc (.cells #[.slice (some ⟨bb, off, none⟩) len cap] 63)).alloc (.cells #[.int .u64 (x.start : Int), .int .u64 (x.commit : Int), .slice x.rA x.rn x.rc, .slice x.wA x.wn x.wc] 68)) from below_alloc HB1.out _)
  have HL := Lib.hid (show ((w.alloc (.cells #[.slice (some ⟨bb, off, none⟩) len cap] 63)).alloc (.cells #[.int .u64 (x.start : Int), .int .u64 (x.commit : Int), .slice x.rA x.rn x.rc, .slice x.wA x.wn x.wc] 68)).heap[w.heap.size]? = some (.cells #[.slice (some ⟨bb, off, none⟩) len cap] 63 (0, 0)) from blk_alloc (blk_new w _) _)
  have HT := Lib.hid (show ((w.alloc (.cells #[.slice (some ⟨bb, off, none⟩) len cap] 63)).alloc (.cells #[.int .u64 (x.start : Int), .int .u64 (x.commit : Int), .slice x.rA x.rn x.rc, .slice x.wA x.wn x.wc] 68)).heap[w.heap.size + 1]? = some (.cells x.arr 68 (0, 0)) from row_new (w.alloc (.cells #[.slice (some ⟨bb, off, none⟩) len cap] 63)) _ (by simp))
  have HC := Lib.hid (fun W (hb : Below w.heap.size w W) (hx : W.heap[w.heap.size + 1]? = some (.cells x.arr 68 (0, 0))) => tx_contains (some ⟨bb, off, none⟩) i cap (w.heap.size + 1) (l.take i) (clash x) W ((HA.out.below hb).1.take (Nat.le_of_lt hi)) (by omega) (fun W1 j h hb1 => clash_closure x _ _ W1 (blk_below hx hb1) (HX.out.below (hb.trans (hb1.mono hb.size))) ((HA.out.below (hb.trans (hb1.mono hb.size))).2 _ (List.mem_of_mem_take (List.getElem_mem h)))))
  have HR := Lib.hid (fun W (hb : Below w.heap.size w W) (hl : W.heap[w.heap.size]? = some (.cells #[.slice (some ⟨bb, off, none⟩) len cap] 63 (0, 0))) (hx : W.heap[w.heap.size + 1]? = some (.cells x.arr 68 (0, 0))) => rd_contains x.rA x.rn x.rc w.heap.size (w.heap.size + 1) x.rs (fun r => !readOk l x.start r) W (HX.out.below hb).1 hrn (fun W1 j h hb1 => stale_closure (some ⟨bb, off, none⟩) len cap l x _ _ _ W1 (blk_below hl hb1) (blk_below hx hb1) (HA.out.below (hb.trans (hb1.mono hb.size))) hlen))
  clear HB1
  unfold TxP.arr at *
  unfold faultS
  rw [hwn]
  obtain ⟨q2, hq2⟩ : ∃ q, (l.take i).any (clash x) = q := ⟨_, rfl⟩
  obtain ⟨q3, hq3⟩ : ∃ q, (x.rs.any fun r => !readOk l x.start r) = q := ⟨_, rfl⟩
  simp only [hq2] at HC ⊢
  simp only [hq3] at HR ⊢
  clear hq2 hq3 HA HX hwn
  generalize hZ : (if 0 < x.commit ∧ 0 < x.wn ∧ x.commit ≤ x.start then 1 else if 0 < x.commit ∧ q2 = true then 2 else if q3 = true then 3 else 0) = Z
  by_cases g1 : 0 < x.commit
  · have d1 : decide (0 < (x.commit : Int)) = true := by simp; omega
    have d1n := decide_eq_true g1
    by_cases g2 : 0 < x.wn
    · have d2 : decide (0 < (x.wn : Int)) = true := by simp; omega
      have d2n := decide_eq_true g2
      by_cases g3 : x.commit ≤ x.start
      · have d3 : decide ((x.commit : Int) ≤ (x.start : Int)) = true := by simp; omega
        have d3n := decide_eq_true g3
        have HZ := Lib.hid (show 1 = Z from (if_pos ⟨g1, g2, g3⟩).symm.trans hZ)
        clear hZ
        go_enter Try.func50, Try.ntmps50
        go_wp2
        go_ret
        rw [← HZ.out]
        exact ⟨rfl, HB.out⟩
      · have d3 : decide ((x.commit : Int) ≤ (x.start : Int)) = false := by simp; omega
        have d3n := decide_eq_false g3
        have HZ := Lib.hid (show (if q2 = true then 2 else if q3 = true then 3 else 0) = Z from by rw [← hZ]; simp [g1, g2, g3])
        clear hZ
        go_enter Try.func50, Try.ntmps50
        go_wp2_with fail
        refine (HC.out _ HB.out HT.out).mono ?_
        rintro e w2 ⟨rfl, hb⟩
        replace HT := Lib.hid (blk_below HT.out hb)
        replace HL := Lib.hid (blk_below HL.out hb)
        replace HB := Lib.hid (HB.out.trans (hb.mono HB.out.size)); clear hb
        cases q2 with
        | true =>
          go_wp2
          go_ret
          rw [← HZ.out]
          exact ⟨rfl, HB.out⟩
        | false =>
          have u2 : w2.cell? ⟨w.heap.size + 1, 2, none⟩ = some (.slice x.rA x.rn x.rc) := (blk_cell HT.out 2).trans rfl
          go_wp2_with fail
          refine (HR.out _ HB.out HL.out HT.out).mono ?_
          rintro e w3 ⟨rfl, hb⟩
          replace HB := Lib.hid (HB.out.trans (hb.mono HB.out.size)); clear hb
          cases q3 with
          | true =>
            go_wp2
            go_ret
            rw [← HZ.out]
            exact ⟨rfl, HB.out⟩
          | false =>
            go_wp2
            go_ret
            rw [← HZ.out]
            exact ⟨rfl, HB.out⟩
    · have d2 : decide (0 < (x.wn : Int)) = false := by simp; omega
      have d2n := decide_eq_false g2
      have HZ := Lib.hid (show (if q2 = true then 2 else if q3 = true then 3 else 0) = Z from by rw [← hZ]; simp [g1, g2])
      clear hZ
      go_enter Try.func50, Try.ntmps50
      go_wp2_with fail
      refine (HC.out _ HB.out HT.out).mono ?_
      rintro e w2 ⟨rfl, hb⟩
      replace HT := Lib.hid (blk_below HT.out hb)
      replace HL := Lib.hid (blk_below HL.out hb)
      replace HB := Lib.hid (HB.out.trans (hb.mono HB.out.size)); clear hb
      cases q2 with
      | true =>
        go_wp2
        go_ret
        rw [← HZ.out]
        exact ⟨rfl, HB.out⟩
      | false =>
        have u2 : w2.cell? ⟨w.heap.size + 1, 2, none⟩ = some (.slice x.rA x.rn x.rc) := (blk_cell HT.out 2).trans rfl
        go_wp2_with fail
        refine (HR.out _ HB.out HL.out HT.out).mono ?_
        rintro e w3 ⟨rfl, hb⟩
        replace HB := Lib.hid (HB.out.trans (hb.mono HB.out.size)); clear hb
        cases q3 with
        | true =>
          go_wp2
          go_ret
          rw [← HZ.out]
          exact ⟨rfl, HB.out⟩
        | false =>
          go_wp2
          go_ret
          rw [← HZ.out]
          exact ⟨rfl, HB.out⟩
  · have d1 : decide (0 < (x.commit : Int)) = false := by simp; omega
    have d1n := decide_eq_false g1
    have HZ := Lib.hid (show (if q3 = true then 3 else 0) = Z from by rw [← hZ]; simp [g1])
    clear hZ
    go_enter Try.func50, Try.ntmps50
    have u2 : ((w.alloc (.cells #[.slice (some ⟨bb, off, none⟩) len cap] 63)).alloc (.cells #[.int .u64 (x.start : Int), .int .u64 (x.commit : Int), .slice x.rA x.rn x.rc, .slice x.wA x.wn x.wc] 68)).cell? ⟨w.heap.size + 1, 2, none⟩ = some (.slice x.rA x.rn x.rc) := (blk_cell HT.out 2).trans rfl
    go_wp2_with fail
    refine (HR.out _ HB.out HL.out HT.out).mono ?_
    rintro e w3 ⟨rfl, hb⟩
    replace HB := Lib.hid (HB.out.trans (hb.mono HB.out.size)); clear hb
    cases q3 with
    | true =>
      go_wp2
      go_ret
      rw [← HZ.out]
      exact ⟨rfl, HB.out⟩
    | false =>
      go_wp2
      go_ret
      rw [← HZ.out]
      exact ⟨rfl, HB.out⟩
end Go.Proofs.Ytdldnhigejcegaa.My
