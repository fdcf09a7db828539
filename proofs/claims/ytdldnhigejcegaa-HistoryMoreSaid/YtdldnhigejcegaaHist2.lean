/- history.Overlap, Shared. -/
import Derived.Test.YtdldnhigejcegaaHCont
import Derived.Test.YtdldnhigejcegaaMapIs
import Derived.Test.YtdldnhigejcegaaStrE
namespace Go.Proofs.Ytdldnhigejcegaa.My
set_option linter.unusedSimpArgs false
set_option linter.unusedVariables false
open Go.RowKit Go.Proofs.YtdldnhigejcegaaW.PrintWords Go.Proofs.YtdldnhigejcegaaW.PrintLast Go.Proofs.Ytdldnhigejcegaa.Pm
open Go.Maps (string_keyed)

set_option maxRecDepth 100000 in
theorem overlap_any (a b : TxP) (w : World) : Calls Try.prog 28 #[.agg a.arr, .agg b.arr] w fun e w' => e = .returned (.bool (overS a b)) ∧ Below w.heap.size w w' := by
  unfold TxP.arr overS
  have HB := Lib.hid (below_alloc (below_alloc (Below.refl w.heap.size w) (.cells #[.int .u64 (a.start : Int), .int .u64 (a.commit : Int), .slice a.rA a.rn a.rc, .slice a.wA a.wn a.wc] 68)) (.cells #[.int .u64 (b.start : Int), .int .u64 (b.commit : Int), .slice b.rA b.rn b.rc, .slice b.wA b.wn b.wc] 68))
  by_cases h1 : a.start < b.commit <;> by_cases h2 : b.start < a.commit
  · have x1 : decide ((a.start : Int) < (b.commit : Int)) = true := by simp; omega
    have x2 : decide ((b.start : Int) < (a.commit : Int)) = true := by simp; omega
    rw [decide_eq_true h1, decide_eq_true h2]
    go_enter Try.func28, Try.ntmps28
    go_wp2
    go_ret
    exact ⟨rfl, HB.out⟩
  · have x1 : decide ((a.start : Int) < (b.commit : Int)) = true := by simp; omega
    have x2 : decide ((b.start : Int) < (a.commit : Int)) = false := by simp; omega
    rw [decide_eq_true h1, decide_eq_false h2]
    go_enter Try.func28, Try.ntmps28
    go_wp2
    go_ret
    exact ⟨rfl, HB.out⟩
  · have x1 : decide ((a.start : Int) < (b.commit : Int)) = false := by simp; omega
    have x2 : decide ((b.start : Int) < (a.commit : Int)) = true := by simp; omega
    rw [decide_eq_false h1, decide_eq_true h2]
    go_enter Try.func28, Try.ntmps28
    go_wp2
    go_ret
    exact ⟨rfl, HB.out⟩
  · have x1 : decide ((a.start : Int) < (b.commit : Int)) = false := by simp; omega
    have x2 : decide ((b.start : Int) < (a.commit : Int)) = false := by simp; omega
    rw [decide_eq_false h1, decide_eq_false h2]
    go_enter Try.func28, Try.ntmps28
    go_wp2
    go_ret
    exact ⟨rfl, HB.out⟩
theorem zero_i (w : World) : (zeroValue 3).run Try.prog w = .ok (.int .i64 0) w := by kernel_rfl
theorem key_str {k : ByteArray} (h : k.size ≤ 140737488351232) : keyOf Try.prog 9 (.string k) = some (.string k.data.toList) := by
  rw [keyOf_string Try.underlying9]
  simp [mapKey, Try.underlying9]
  exact Nat.le_trans h (by decide)
theorem looked {w : World} {mb : Nat} {g : Value → Option Value} (hm : MapIs Try.prog 9 w mb g) {k : ByteArray} (hk : k.size ≤ 140737488351232) (b : Bool) (hg : g (.string k) = if b then some (.int .i64 1) else none) :
    (Instr.lookup 96 (.map (some mb)) (.string k) false).run Try.prog w = .ok (.int .i64 (if b then 1 else 0)) w := by
  rcases hm.look (string_keyed Try.underlying9) Try.underlying96 (zero_i w) (key_str hk) false with ⟨h1, h2⟩ | ⟨v, h1, h2⟩
  · cases b with
    | true => rw [hg] at h1; cases h1
    | false => exact h2
  · cases b with
    | true => rw [hg] at h1; cases h1; exact h2
    | false => rw [hg] at h1; cases h1
set_option maxRecDepth 100000 in
theorem shared_closure (p : WrT) (kb mb : Nat) (g : Value → Option Value) (w : World) (b : Bool) (hs : p.1.size ≤ 140737488351232) (hk : w.cell? ⟨kb, 0, none⟩ = some (.map (some mb))) (hm : MapIs Try.prog 9 w mb g) (hg : g (.string p.1) = if b then some (.int .i64 1) else none) :
    Calls Try.prog 52 #[.agg #[.string p.1, .bool p.2.1, .string p.2.2], .pointer (some ⟨kb, 0, none⟩)] w fun e w' => e = .returned (.bool b) ∧ Below w.heap.size w w' := by
  have hl := looked (hm.alloc (.cells #[.string p.1, .bool p.2.1, .string p.2.2] 75)) hs b hg
  have hk1 := (Below.cell (below_alloc (Below.refl w.heap.size w) (.cells #[.string p.1, .bool p.2.1, .string p.2.2] 75)) (p := ⟨kb, 0, none⟩) (cell_block_lt hk)).trans hk
  have HB := Lib.hid (below_alloc (Below.refl w.heap.size w) (.cells #[.string p.1, .bool p.2.1, .string p.2.2] 75))
  clear hm hk
  cases b
  all_goals
    simp only [if_true, if_false, Bool.false_eq_true] at hl
    go_enter Try.func52, Try.ntmps52
    go_wp2
    go_ret
    exact ⟨rfl, HB.out⟩
theorem any_take {l : List WrT} {q : WrT → Bool} {i : Nat} (h : i < l.length) : (l.take (i + 1)).any q = ((l.take i).any q || q l[i]) := by
  rw [List.take_add_one, List.getElem?_eq_getElem h]
  simp only [Option.toList_some, List.any_append, List.any_cons, List.any_nil, Bool.or_false]
set_option maxRecDepth 100000 in
set_option maxHeartbeats 8000000 in
theorem shared_any (a b : TxP) (w : World) (ha : TxOk w a) (hb : TxOk w b) : Calls Try.prog 29 #[.agg a.arr, .agg b.arr] w fun e w' => e = .returned (.bool (sharedS a.ws b.ws)) ∧ Below w.heap.size w w' := by
  have HA := Lib.hid ha; clear ha
  have HO := Lib.hid hb; clear hb
  have hwn := HA.out.2.2.2.1
  have hmm := @run_makeMap Try.prog
  have HA0 := Lib.hid (below_alloc (below_alloc (below_alloc (below_alloc (Below.refl w.heap.size w) (.cells a.arr 68)) (.cells b.arr 68)) (.map #[] 0)) (.cells #[.map (some (w.heap.size + 1 + 1))] 96))
  have HG1 := Lib.hid (blk_alloc (blk_alloc (row_new (w.alloc (.cells a.arr 68)) (.cells b.arr 68) (n := w.heap.size + 1) (by simp)) (.map #[] 0)) (.cells #[.map (some (w.heap.size + 1 + 1))] 96))
  have HM := Lib.hid (MapIs.alloc (MapIs.made Try.prog 9 ((w.alloc (.cells a.arr 68)).alloc (.cells b.arr 68))) (.cells #[.map (some (w.heap.size + 1 + 1))] 96))
  have HK := Lib.hid (row_new (((w.alloc (.cells a.arr 68)).alloc (.cells b.arr 68)).alloc (.map #[] 0)) (.cells #[.map (some (w.heap.size + 1 + 1))] 96) (n := w.heap.size + 1 + 1 + 1) (by simp))
  have hsz : ((w.alloc (.cells a.arr 68)).alloc (.cells b.arr 68)).heap.size = w.heap.size + 1 + 1 := by simp
  rw [hsz] at HM
  unfold TxP.arr at *
  go_enter Try.func29, Try.ntmps29
  go_wp2
  clear hmm hsz
  generalize World.alloc _ _ = W0 at *
  generalize hg1 : w.heap.size + 1 = g1 at *
  generalize hmb : g1 + 1 = mb at *
  generalize hkb : mb + 1 = kb at *
  have HN := Lib.hid (show w.heap.size ≤ g1 ∧ g1 ≠ mb ∧ kb ≠ mb ∧ w.heap.size ≤ mb by omega)
  clear hg1 hmb hkb
  go_loopw [12] (fun v wr => ∃ i : Nat, v = .int .i64 i ∧ i ≤ a.wn ∧ (∃ g, MapIs Try.prog 9 wr mb g ∧ ∀ k : ByteArray, g (.string k) = if (a.ws.take i).any (fun v => decide (v.1 = k)) then some (.int .i64 1) else none) ∧ Keeps (Only mb) W0 wr) (fun v _ => a.wn - (intOf v).toNat)
  case atStart => exact ⟨0, rfl, Nat.zero_le _, ⟨_, HM.out, fun k => rfl⟩, Keeps.refl _ _⟩
  case round =>
    obtain ⟨i, rfl, hi, ⟨g, hm, hg⟩, hk⟩ := hrel
    have HM := Lib.hid hm; clear hm
    have HG := Lib.hid hg; clear hg
    have HKe := Lib.hid hk; clear hk
    have HB := Lib.hid ((HA0.out).trans (HKe.out.to_below HA0.out.size (fun j hj => by cases hj; exact HN.out.2.2.2)))
    have HG1 := Lib.hid (HKe.out.blk HG1.out (fun e => HN.out.2.1 e))
    have HK := Lib.hid (HKe.out.blk HK.out (fun e => HN.out.2.2.1 e))
    have k0 : wr.cell? ⟨kb, 0, none⟩ = some (.map (some mb)) := (blk_cell HK.out 0).trans rfl
    have b3 : wr.cell? ⟨g1, 3, none⟩ = some (.slice b.wA b.wn b.wc) := (blk_cell HG1.out 3).trans rfl
    by_cases hlt : i < a.wn
    · obtain ⟨bb, off, hj, ha0, hbW, hc⟩ := HA.out.2.1.get i hlt
      rw [ha0]
      have hc1 := range_below hc HB.out hbW
      have hs := HA.out.2.2.2.2.2.2 _ (List.getElem_mem hj)
      have HT := Lib.hid (fun k : ByteArray => any_take (q := fun v => decide (v.1 = k)) hj)
      obtain ⟨⟨p0, p1, p2⟩, hp⟩ : ∃ p, a.ws[i] = p := ⟨_, rfl⟩
      rw [hp] at hc1 hs
      simp only [hp] at HT
      clear hc hbW ha0 hp
      have c0 : wr.cell? ⟨bb, off + i * 3, none⟩ = some (.string p0) := hc1 0 _ rfl
      have c1 : wr.cell? ⟨bb, off + i * 3 + 1, none⟩ = some (.bool p1) := hc1 1 _ rfl
      have c2 : wr.cell? ⟨bb, off + i * 3 + 2, none⟩ = some (.string p2) := hc1 2 _ rfl
      clear hc1
      have k0' : (wr.alloc (.cells #[.string p0, .bool p1, .string p2] 75)).cell? ⟨kb, 0, none⟩ = some (.map (some mb)) := (blk_cell (blk_alloc HK.out _) 0).trans rfl
      obtain ⟨w', hrun, hm', hk'⟩ := (HM.out.alloc (.cells #[.string p0, .bool p1, .string p2] 75)).update (string_keyed Try.underlying9) Try.underlying96 (key_str hs) (.int .i64 1)
      have HM' := Lib.hid hm'; clear hm'
      have HKe := Lib.hid ((HKe.out.alloc (.cells #[.string p0, .bool p1, .string p2] 75)).trans hk'); clear hk'
      have hw := next_wrap hlt hwn
      go_wp2
      go_roundw
      case rel => exact ⟨i + 1, by go_num, hlt, ⟨_, HM'.out, fun k => by
        rw [HT.out k]
        by_cases e : p0 = k
        · subst e
          rw [upd_same]
          simp
        · rw [upd_other _ (fun h => e (by injection h with h; exact h.symm)), HG.out, decide_eq_false e, Bool.or_false]⟩, HKe.out⟩
      case measure => simp [intOf]; omega
    · obtain rfl : i = a.wn := by omega
      have HL := Lib.hid HA.out.2.1.1
      have hq := fun (W1 : World) (j : Nat) (h : j < b.ws.length) (hb : Below wr.heap.size wr W1) => shared_closure b.ws[j] kb mb g W1 (a.ws.any fun v => decide (v.1 = b.ws[j].1)) (HO.out.2.2.2.2.2.2 _ (List.getElem_mem h)) ((blk_cell (blk_below HK.out hb) 0).trans rfl) (HM.out.below hb) (by rw [HG.out, ← HL.out, List.take_length])
      have HQ := Lib.hid (wr_contains b.wA b.wn b.wc kb b.ws (fun x => a.ws.any fun v => decide (v.1 = x.1)) wr (HO.out.2.1.below HB.out) HO.out.2.2.2.1 hq)
      clear hq
      go_wp2_with fail
      refine HQ.out.mono ?_
      rintro e w1 ⟨rfl, hb⟩
      have HB := Lib.hid (HB.out.trans (hb.mono HB.out.size)); clear hb
      go_wp2
      go_ret
      exact ⟨rfl, HB.out⟩
end Go.Proofs.Ytdldnhigejcegaa.My
