/- isoglossref11.Store: At. -/
import Derived.Test.YtcnehponkgofiaaRMv
import Derived.Deep.QuietTactic
import Derived.BigQuiet
namespace Go.Proofs.Ytcnehponkgofiaa.My
set_option linter.unusedSimpArgs false
set_option linter.unusedVariables false
open Go.RowKit Go.Proofs.YtcnehponkgofiaaW.PrintWords Go.Proofs.YtcnehponkgofiaaW.PrintLast Go.Proofs.Ytcnehponkgofiaa.Pm

/-- The reference's: a key's last version up to a time. -/
def rAt (L : List ItT) (key : ByteArray) (t : Nat) : VerT × Bool := L.foldl (fun s p => if p.1 = key ∧ p.2.1 ≤ t ∧ s.1.1 < p.2.1 then (p.2, true) else s) ((0, false, ⟨#[]⟩), false)
theorem rAt_take {L : List ItT} {key : ByteArray} {t i : Nat} (h : i < L.length) : rAt (L.take (i + 1)) key t = if L[i].1 = key ∧ L[i].2.1 ≤ t ∧ (rAt (L.take i) key t).1.1 < L[i].2.1 then (L[i].2, true) else rAt (L.take i) key t := by
  unfold rAt
  rw [List.take_add_one, List.getElem?_eq_getElem h]
  simp only [Option.toList_some, List.foldl_append, List.foldl_cons, List.foldl_nil]
set_option maxRecDepth 100000 in
set_option maxHeartbeats 4000000 in
theorem rat_any (A : Option Addr) (n c t : Nat) (L : List ItT) (key : ByteArray) (w : World) (hA : RowF w 4 itC A n L) (hn : n ≤ 1000) :
    Calls Try.prog 15 #[.agg #[.slice A n c], .string key, .int .u64 (t : Int)] w fun e w' => e = .returned (.tuple #[.agg #[.int .u64 ((rAt L key t).1.1 : Int), .bool (rAt L key t).1.2.1, .string (rAt L key t).1.2.2], .bool (rAt L key t).2]) ∧ Below w.heap.size w w' := by
  have HA := Lib.hid hA; clear hA
  have HL := Lib.hid HA.out.1
  have KB := below_alloc (below_alloc (below_alloc (Below.refl w.heap.size w) (.cells #[.slice A n c] 44)) (.cells #[.int .u64 0, .bool false, .string ⟨#[]⟩] 25)) (.cells #[.int .u64 0, .bool false, .string ⟨#[]⟩] 25)
  have K0 := blk_alloc (blk_alloc (blk_new w (.cells #[.slice A n c] 44)) (.cells #[.int .u64 0, .bool false, .string ⟨#[]⟩] 25)) (.cells #[.int .u64 0, .bool false, .string ⟨#[]⟩] 25)
  go_enter Try.func15, Try.ntmps15
  go_wp2
  obtain ⟨g, hg⟩ : ∃ g, w.heap.size = g := ⟨_, rfl⟩
  have K1 : (((w.alloc (.cells #[.slice A n c] 44)).alloc (.cells #[.int .u64 0, .bool false, .string ⟨#[]⟩] 25)).alloc (.cells #[.int .u64 0, .bool false, .string ⟨#[]⟩] 25)).heap[w.heap.size + 1]? = some (.cells #[.int .u64 0, .bool false, .string ⟨#[]⟩] 25) := by
    have := blk_alloc (blk_new (w.alloc (.cells #[.slice A n c] 44)) (.cells #[.int .u64 0, .bool false, .string ⟨#[]⟩] 25)) (.cells #[.int .u64 0, .bool false, .string ⟨#[]⟩] 25)
    simpa using this
  have K2 : (((w.alloc (.cells #[.slice A n c] 44)).alloc (.cells #[.int .u64 0, .bool false, .string ⟨#[]⟩] 25)).alloc (.cells #[.int .u64 0, .bool false, .string ⟨#[]⟩] 25)).heap[w.heap.size + 1 + 1]? = some (.cells #[.int .u64 0, .bool false, .string ⟨#[]⟩] 25) := by
    have := blk_new ((w.alloc (.cells #[.slice A n c] 44)).alloc (.cells #[.int .u64 0, .bool false, .string ⟨#[]⟩] 25)) (.cells #[.int .u64 0, .bool false, .string ⟨#[]⟩] 25)
    simpa using this
  generalize World.alloc _ _ = W0 at *
  rw [hg] at K0 K1 K2 KB ⊢
  have HK0 := Lib.hid K0; clear K0
  have HK1 := Lib.hid K1; clear K1
  have HK2 := Lib.hid K2; clear K2
  have HKB := Lib.hid KB; clear KB
  have HGE := Lib.hid hg
  have HBW := Lib.hid (show ∀ q, q < w.heap.size → q < g by intro q h; omega)
  clear hg
  go_loopw [9, 10] (fun o u wr => ∃ i : Nat, o = .bool (rAt (L.take i) key t).2 ∧ u = .int .i64 i ∧ i ≤ n ∧ Hid (wr.heap[g]? = some (.cells #[.slice A n c] 44)) ∧ Hid (wr.heap[g + 1]? = some (.cells #[.int .u64 0, .bool false, .string ⟨#[]⟩] 25)) ∧ Hid (wr.heap[g + 1 + 1]? = some (.cells #[.int .u64 ((rAt (L.take i) key t).1.1 : Int), .bool (rAt (L.take i) key t).1.2.1, .string (rAt (L.take i) key t).1.2.2] 25)) ∧ Hid (Below g w wr)) (fun _ u _ => n - (intOf u).toNat)
  case atStart => exact ⟨0, rfl, rfl, Nat.zero_le _, HK0, HK1, HK2, HKB⟩
  case round =>
    clear HK0 HK1 HK2 HKB
    obtain ⟨i, rfl, rfl, hi, HG0, HG1, HG2, HB⟩ := hrel
    obtain ⟨⟨⟨y0, y1, y2⟩, ok⟩, hy⟩ : ∃ x, rAt (L.take i) key t = x := ⟨_, rfl⟩
    rw [hy] at HG2 ⊢
    simp only at HG2 ⊢
    have g0 : wr.cell? ⟨g, 0, none⟩ = some (.slice A n c) := (blk_cell HG0.out 0).trans rfl
    have q0 : wr.cell? ⟨g + 1 + 1, 0, none⟩ = some (.int .u64 (y0 : Int)) := (blk_cell HG2.out 0).trans rfl
    have q1 : wr.cell? ⟨g + 1 + 1, 1, none⟩ = some (.bool y1) := (blk_cell HG2.out 1).trans rfl
    have q2 : wr.cell? ⟨g + 1 + 1, 2, none⟩ = some (.string y2) := (blk_cell HG2.out 2).trans rfl
    by_cases hlt : i < n
    · obtain ⟨bb, off, hj, rfl, hbW, hc⟩ := HA.out.get i hlt
      have HT := Lib.hid (rAt_take (key := key) (t := t) hj)
      rw [hy] at HT
      obtain ⟨⟨k, x0, x1, x2⟩, hx⟩ : ∃ x, L[i] = x := ⟨_, rfl⟩
      rw [hx] at hc HT
      have c0 : wr.cell? ⟨bb, off + i * 4, none⟩ = some (.string k) := (HB.out.cell (p := ⟨bb, _, none⟩) (HBW.out _ hbW)).trans (hc 0 _ rfl)
      have c1 : wr.cell? ⟨bb, off + i * 4 + 1, none⟩ = some (.int .u64 (x0 : Int)) := (HB.out.cell (p := ⟨bb, _, none⟩) (HBW.out _ hbW)).trans (hc 1 _ rfl)
      have c2 : wr.cell? ⟨bb, off + i * 4 + 2, none⟩ = some (.bool x1) := (HB.out.cell (p := ⟨bb, _, none⟩) (HBW.out _ hbW)).trans (hc 2 _ rfl)
      have c3 : wr.cell? ⟨bb, off + i * 4 + 3, none⟩ = some (.string x2) := (HB.out.cell (p := ⟨bb, _, none⟩) (HBW.out _ hbW)).trans (hc 3 _ rfl)
      have HLT := Lib.hid hlt
      have hii : (i : Int) < (n : Int) := by omega
      have hw := next_wrap hlt (by omega)
      have he := str_eqb k key
      have HY := Lib.hid hy
      clear hc hbW hj hx hn hy
      have f0 := blk_frozen HG2.out 0
      have f1 := blk_frozen HG2.out 1
      have f2 := blk_frozen HG2.out 2
      by_cases hk : k = key
      · rw [decide_eq_true hk] at he
        by_cases ht : x0 ≤ t
        · have d1 : decide (x0 ≤ t) = true := decide_eq_true ht
          by_cases hb : y0 < x0
          · have d2 : decide (y0 < x0) = true := decide_eq_true hb
            replace HT := Lib.hid (HT.out.trans (if_pos ⟨hk, ht, hb⟩))
            clear hk ht hb
            go_wp2
            go_quiet (fail)
            replace HG0 := Lib.hid (show (wr.drewN nq).heap[g]? = _ from HG0.out)
            replace HG1 := Lib.hid (show (wr.drewN nq).heap[g + 1]? = _ from HG1.out)
            replace HG2 := Lib.hid (show (wr.drewN nq).heap[g + 1 + 1]? = _ from HG2.out)
            replace HB := Lib.hid (pw_below_drewN HB.out nq)
            replace c0 : (wr.drewN nq).cell? _ = _ := c0
            replace c1 : (wr.drewN nq).cell? _ = _ := c1
            replace c2 : (wr.drewN nq).cell? _ = _ := c2
            replace c3 : (wr.drewN nq).cell? _ = _ := c3
            replace q0 : (wr.drewN nq).cell? _ = _ := q0
            replace q1 : (wr.drewN nq).cell? _ = _ := q1
            replace q2 : (wr.drewN nq).cell? _ = _ := q2
            replace g0 : (wr.drewN nq).cell? _ = _ := g0
            replace f0 : (wr.drewN nq).frozen? _ = _ := f0
            replace f1 : (wr.drewN nq).frozen? _ = _ := f1
            replace f2 : (wr.drewN nq).frozen? _ = _ := f2
            generalize wr.drewN nq = w1 at *
            go_wp2
            go_roundw
            case rel => exact ⟨i + 1, by rw [HT.out], by go_num, HLT.out, Lib.hid (blk_far (blk_far (blk_far HG0.out (by simp; omega) _) (by simp; omega) _) (by simp; omega) _), Lib.hid (blk_far (blk_far (blk_far HG1.out (by simp) _) (by simp) _) (by simp) _), by rw [HT.out]; exact Lib.hid (blk_set (blk_set (blk_set HG2.out 0 _) 1 _) 2 _), Lib.hid (below_setc' (below_setc' (below_setc' HB.out (by simp; omega) _) (by simp; omega) _) (by simp; omega) _)⟩
            case measure => first | exact up_w HLT.out hw | exact up_n HLT.out
          · have d2 : decide (y0 < x0) = false := decide_eq_false hb
            replace HT := Lib.hid (HT.out.trans (if_neg (fun h => hb h.2.2)))
            clear hk ht hb c2 c3 q1 q2 f0 f1 f2
            go_wp2
            go_quiet (fail)
            replace HG0 := Lib.hid (show (wr.drewN nq).heap[g]? = _ from HG0.out)
            replace HG1 := Lib.hid (show (wr.drewN nq).heap[g + 1]? = _ from HG1.out)
            replace HG2 := Lib.hid (show (wr.drewN nq).heap[g + 1 + 1]? = _ from HG2.out)
            replace HB := Lib.hid (pw_below_drewN HB.out nq)
            generalize wr.drewN nq = w1 at *
            go_wp2
            go_roundw
            case rel => exact ⟨i + 1, by rw [HT.out], by go_num, HLT.out, HG0, HG1, by rw [HT.out]; exact HG2, HB⟩
            case measure => first | exact up_w HLT.out hw | exact up_n HLT.out
        · have d1 : decide (x0 ≤ t) = false := decide_eq_false ht
          replace HT := Lib.hid (HT.out.trans (if_neg (fun h => ht h.2.1)))
          clear hk ht c2 c3 q1 q2 f0 f1 f2
          go_wp2
          go_quiet (fail)
          replace HG0 := Lib.hid (show (wr.drewN nq).heap[g]? = _ from HG0.out)
          replace HG1 := Lib.hid (show (wr.drewN nq).heap[g + 1]? = _ from HG1.out)
          replace HG2 := Lib.hid (show (wr.drewN nq).heap[g + 1 + 1]? = _ from HG2.out)
          replace HB := Lib.hid (pw_below_drewN HB.out nq)
          generalize wr.drewN nq = w1 at *
          go_wp2
          go_roundw
          case rel => exact ⟨i + 1, by rw [HT.out], by go_num, HLT.out, HG0, HG1, by rw [HT.out]; exact HG2, HB⟩
          case measure => first | exact up_w HLT.out hw | exact up_n HLT.out
      · rw [decide_eq_false hk] at he
        replace HT := Lib.hid (HT.out.trans (if_neg (fun h => hk h.1)))
        clear hk c2 c3 q1 q2 f0 f1 f2
        go_wp2
        go_quiet (fail)
        replace HG0 := Lib.hid (show (wr.drewN nq).heap[g]? = _ from HG0.out)
        replace HG1 := Lib.hid (show (wr.drewN nq).heap[g + 1]? = _ from HG1.out)
        replace HG2 := Lib.hid (show (wr.drewN nq).heap[g + 1 + 1]? = _ from HG2.out)
        replace HB := Lib.hid (pw_below_drewN HB.out nq)
        generalize wr.drewN nq = w1 at *
        go_wp2
        go_roundw
        case rel => exact ⟨i + 1, by rw [HT.out], by go_num, HLT.out, HG0, HG1, by rw [HT.out]; exact HG2, HB⟩
        case measure => first | exact up_w HLT.out hw | exact up_n HLT.out
    · obtain rfl : i = n := by omega
      have f0 := blk_frozen HG1.out 0
      have f1 := blk_frozen HG1.out 1
      have f2 := blk_frozen HG1.out 2
      have z0 : wr.cell? ⟨g + 1, 0, none⟩ = some (.int .u64 0) := (blk_cell HG1.out 0).trans rfl
      have z1 : wr.cell? ⟨g + 1, 1, none⟩ = some (.bool false) := (blk_cell HG1.out 1).trans rfl
      have z2 : wr.cell? ⟨g + 1, 2, none⟩ = some (.string ⟨#[]⟩) := (blk_cell HG1.out 2).trans rfl
      have HT := Lib.hid (show rAt L key t = ((y0, y1, y2), ok) by rw [← hy, List.take_of_length_le (by rw [HL.out]; exact Nat.le_refl _)])
      go_wp2
      refine bodyPost_ret (res_ct (a := ⟨?g1, 0, none⟩) (v := .agg ?cs1) rfl ?hp1 (load_row (g := ?g1) (cs := ?cs1) (t := ?t1) (fr := ?fr1) ?hrow1 _ _ Try.underlying25 rfl ?hi1)) rfl ?_
      case hp1 => rfl
      case hrow1 => (refine blk_set (blk_set (blk_set HG1.out 0 _) 1 _) 2 _ <;> simp only [Go.Deep.nblk_alloc])
      case hi1 => exact (by kernel_rfl)
      rw [HT.out, HGE.out]
      exact ⟨rfl, below_setc' (below_setc' (below_setc' HB.out (by simp) _) (by simp) _) (by simp) _⟩
end Go.Proofs.Ytcnehponkgofiaa.My
