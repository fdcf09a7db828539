/- mvcc.Store.Scan; isoglossref11.Few, Same. -/
import Derived.Test.YtcnehponkgofiaaInst3
import Derived.Laws.Cover1
import Derived.Test.YtcnehponkgofiaaStrE
namespace Go.Proofs.Ytcnehponkgofiaa.My
set_option linter.unusedSimpArgs false
set_option linter.unusedVariables false
open Go.RowKit Go.Proofs.YtcnehponkgofiaaW.PrintWords Go.Proofs.YtcnehponkgofiaaW.PrintLast Go.Proofs.Ytcnehponkgofiaa.Pm

def kless (a b : ByteArray) : Bool := Op.bytesLess a.toList b.toList
/-- What a scan tells: over the entries from the first on that isn't ahead of it. -/
noncomputable def scanL (hi : ByteArray) (t : Nat) (most : Int) : List EntT → List WrT → List WrT
  | [], out => out
  | e :: r, out => if (hi.size ≠ 0 ∧ kless e.1 hi = false) ∨ most ≤ out.length then out else
    scanL hi t most r (if (atF e.2 t).2 = true ∧ (atF e.2 t).1.2.1 = false then out ++ [(e.1, false, (atF e.2 t).1.2.2)] else out)
theorem scan_stop {hi : ByteArray} {t : Nat} {most : Int} {e : EntT} {r : List EntT} {out : List WrT} (h : (hi.size ≠ 0 ∧ kless e.1 hi = false) ∨ most ≤ out.length) : scanL hi t most (e :: r) out = out := by
  rw [scanL, if_pos h]
theorem scan_skip {hi : ByteArray} {t : Nat} {most : Int} {e : EntT} {r : List EntT} {out : List WrT} (h : ¬ ((hi.size ≠ 0 ∧ kless e.1 hi = false) ∨ most ≤ out.length)) (hv : ¬ ((atF e.2 t).2 = true ∧ (atF e.2 t).1.2.1 = false)) : scanL hi t most (e :: r) out = scanL hi t most r out := by
  rw [scanL, if_neg h, if_neg hv]
theorem scan_put {hi : ByteArray} {t : Nat} {most : Int} {e : EntT} {r : List EntT} {out : List WrT} {y : Nat} {s : ByteArray} (h : ¬ ((hi.size ≠ 0 ∧ kless e.1 hi = false) ∨ most ≤ out.length)) (hv : atF e.2 t = ((y, false, s), true)) : scanL hi t most (e :: r) out = scanL hi t most r (out ++ [(e.1, false, s)]) := by
  rw [scanL, if_neg h, hv, if_pos ⟨rfl, rfl⟩]
def fromS (ps : List EntT) (lo : ByteArray) : List EntT := ps.filter fun e => !kless e.1 lo
theorem from_drop {ps : List EntT} {lo : ByteArray} {c : Nat} (hc : c ≤ ps.length) (hl : ∀ t (h : t < ps.length), t < c → keyLess ps[t].1 lo) (hg : ∀ t (h : t < ps.length), c ≤ t → ¬ keyLess ps[t].1 lo) : fromS ps lo = ps.drop c := by
  unfold fromS
  conv => lhs; rw [← List.take_append_drop c ps, List.filter_append]
  rw [List.filter_eq_nil_iff.2 (fun e he => by
    obtain ⟨j, hj, rfl⟩ := List.getElem_of_mem he
    rw [List.length_take] at hj
    rw [List.getElem_take]
    have := hl j (by omega) (by omega)
    unfold keyLess at this
    unfold kless
    rw [this]
    decide), List.nil_append, List.filter_eq_self.2 (fun e he => by
    obtain ⟨j, hj, rfl⟩ := List.getElem_of_mem he
    rw [List.length_drop] at hj
    rw [List.getElem_drop]
    have := hg (c + j) (by omega) (by omega)
    unfold keyLess at this
    unfold kless
    simpa using this)]
theorem ge_form (a b : ByteArray) : (Op.bytesLess b.toList a.toList || b.toList == a.toList) = !(Op.bytesLess a.toList b.toList) ∧ (Op.bytesLess b.toList a.toList || a.toList == b.toList) = !(Op.bytesLess a.toList b.toList) := by
  have e : ∀ x y : List UInt8, (Op.bytesLess y x || y == x) = !(Op.bytesLess x y) := fun x y => by
    cases h1 : Op.bytesLess x y with
    | true =>
      cases h2 : Op.bytesLess y x with
      | true => exact absurd (bless_trans x y x h1 h2) (by
          have : ∀ l : List UInt8, Op.bytesLess l l = false := by
            intro l
            induction l with
            | nil => rfl
            | cons x r ih => simp [Op.bytesLess, ih]
          rw [this]; decide)
      | false =>
        have : (y == x) = false := beq_eq_false_iff_ne.2 (fun e => by
          subst e
          have : ∀ l : List UInt8, Op.bytesLess l l = false := by
            intro l
            induction l with
            | nil => rfl
            | cons x r ih => simp [Op.bytesLess, ih]
          rw [this] at h1; cases h1)
        rw [this]; rfl
    | false =>
      cases h2 : Op.bytesLess y x with
      | true => rfl
      | false =>
        rw [bless_total x y h1 h2]
        simp
  refine ⟨e _ _, ?_⟩
  rw [← e, Bool.beq_comm]
set_option maxRecDepth 100000 in
set_option maxHeartbeats 16000000 in
theorem scan_any (base g t : Nat) (most : Int) (v : Value) (es : List EntP) (lo hi : ByteArray) (w : World) (hM : MSt w base g v es) (hlo : lo.size ≤ 140737488351232) (hhi : hi.size ≤ 140737488351232) :
    Calls Try.prog 12 #[.pointer (some ⟨g, 0, none⟩), .string lo, .string hi, .int .u64 (t : Int), .int .i64 most] w fun e w' => ∃ v', e = .returned v' ∧ OwnF w' w.heap.size 88 3 wrC v' (scanL hi t most (fromS (es.map pr) lo) []) ∧ Below w.heap.size w w' := by
  obtain ⟨A, c, rfl, hc, hr, ha⟩ := hM.args
  have HM := Lib.hid hM
  have g0 : w.cell? ⟨g, 0, none⟩ = some (.slice A es.length c) := (blk_cell hM.blk 0).trans rfl
  have hgl := blk_lt hM.blk
  have hlen := hM.len
  have HF := Lib.hid (find_any A es.length c lo (es.map pr) w ha (by omega) (ris_mono hM.ris lo))
  have HR := Lib.hid hr
  clear hM ha hr hlo hhi
  go_enter Try.func12, Try.ntmps12
  go_wp2_with fail
  refine HF.out.mono ?_
  rintro e w1 ⟨k, ok, rfl, hk, hl, hgt, -, hb⟩
  have HFR := Lib.hid (from_drop (by rw [List.length_map]; exact hk) hl hgt)
  have g1 := (hb.cell (p := ⟨g, 0, none⟩) hgl).trans g0
  have HB := Lib.hid hb; clear hb g0 hl hgt
  have hki : (k : Int) ≤ (es.length : Int) := by omega
  by_cases hkn : k = es.length
  · have HD := Lib.hid (show fromS (es.map pr) lo = [] by rw [HFR.out]; exact List.drop_of_length_le (by rw [List.length_map]; omega))
    have hz : es.length - k = 0 := by omega
    have HO := Lib.hid (OwnF.nil w1 w.heap.size 88 3 wrC)
    go_wp2
    all_goals
      go_loopw [11, 34] (fun o u wr => o = .slice none 0 0 ∧ u = .int .i64 0 ∧ wr = w1) (fun _ _ _ => 0)
      case atStart => exact ⟨rfl, rfl, rfl⟩
      case round =>
        obtain ⟨rfl, rfl, rfl⟩ := hrel
        go_wp2
        go_ret
        rw [HD.out]
        exact ⟨_, rfl, HO.out, HB.out⟩
  · have hkl : k < es.length := by omega
    have hst : ∃ vb, A = some ⟨vb, 0, none⟩ ∧ vb < w.heap.size := by
      rcases HM.out.own.2 with ⟨e, e0⟩ | ⟨g', cap, cur, e, _, hg, _⟩
      · omega
      · injection e with e
        exact ⟨g', e, blk_lt hg⟩
    obtain ⟨vb, rfl, hvl⟩ := hst
    have hck : ¬ c = k := by omega
    obtain ⟨m, hm⟩ : ∃ m, es.length - k = m := ⟨_, rfl⟩
    have HMM := Lib.hid hm
    have HO := Lib.hid (OwnF.nil w1 w.heap.size 88 3 wrC)
    obtain ⟨L, hL⟩ : ∃ L, (es.map pr).drop k = L := ⟨_, rfl⟩
    rw [hL] at HFR
    have HLL := Lib.hid hL; clear hL
    have HLN := Lib.hid (show L.length = m by rw [← HLL.out, List.length_drop, List.length_map]; exact hm)
    have hml : m ≤ 1000 := by omega
    have HKN := Lib.hid (show k + m = es.length by omega)
    clear hkl hkn hki
    go_wp2
    go_loopw [11, 34] (fun o u wr => ∃ (i : Nat) (out : List WrT), u = .int .i64 i ∧ i ≤ m ∧ OwnF wr w.heap.size 88 3 wrC o out ∧ out.length ≤ i ∧ Hid (scanL hi t most L [] = scanL hi t most (L.drop i) out) ∧ Below w.heap.size w wr) (fun _ u _ => m - (intOf u).toNat)
    case atStart => exact ⟨0, [], rfl, Nat.zero_le _, HO.out, Nat.le_refl _, Lib.hid rfl, HB.out⟩
    case round =>
      clear HB HO
      obtain ⟨i, out, rfl, hi', ho, hol, HS, hb⟩ := hrel
      have HB := Lib.hid hb; clear hb
      have HO := Lib.hid ho
      obtain ⟨oA, oc, rfl, hoc⟩ := ho.slice_
      obtain ⟨on, hon⟩ : ∃ n, out.length = n := ⟨_, rfl⟩
      rw [hon] at HO hoc hol ⊢
      have HON := Lib.hid hon
      clear ho hon
      by_cases hlt : i < m
      · have hki : k + i < es.length := by have := HKN.out; omega
        have hiL : i < L.length := by rw [HLN.out]; exact hlt
        obtain ⟨b', off', hj, e', hbW, hcs⟩ := HR.out.get (k + i) hki
        cases e'
        replace hcs := range_below hcs HB.out hbW
        have HEO := Lib.hid ((HM.out.ok _ (List.getElem_mem hj)).below HB.out)
        have HLD := Lib.hid (show L.drop i = pr es[k + i] :: L.drop (i + 1) by
          rw [List.drop_eq_getElem_cons hiL]
          congr 1
          simp only [← HLL.out]
          rw [List.getElem_drop, List.getElem_map])
        obtain ⟨x, hx⟩ : ∃ x, es[k + i] = x := ⟨_, rfl⟩
        rw [hx] at HLD HEO hcs
        rw [HLD.out] at HS
        have e0 : wr.cell? ⟨vb, k * 2 + i * 2, none⟩ = some (.string x.key) := by have := hcs 0 _ rfl; rw [show 0 + (k + i) * 2 + 0 = k * 2 + i * 2 by omega] at this; exact this
        have e1 : wr.cell? ⟨vb, k * 2 + i * 2 + 1, none⟩ = some (.slice x.A x.ch.length x.c) := by have := hcs 1 _ rfl; rw [show 0 + (k + i) * 2 + 1 = k * 2 + i * 2 + 1 by omega] at this; exact this
        have hw := next_wrap hlt (Nat.le_trans hml (by decide))
        obtain ⟨z1, z2⟩ := ge_form x.key hi
        have z3 := str_ne hi
        have z4 := str_e hi
        have hxr : x.ch.length ≤ 200 := HEO.out.right.2
        have hwl : w.heap.size ≤ wr.heap.size := HB.out.size
        have KB1 := below_alloc (Below.refl wr.heap.size wr) (.cells #[.string x.key, .slice x.A x.ch.length x.c] 65)
        have KE := blk_new wr (.cells #[.string x.key, .slice x.A x.ch.length x.c] 65)
        have HAT := Lib.hid (at_any x.A x.ch.length x.c t x.ch (wr.alloc (.cells #[.string x.key, .slice x.A x.ch.length x.c] 65)) (HEO.out.arg.below KB1) (by clear hw; omega) (right_rising HEO.out.right))
        have HKB1 := Lib.hid KB1
        have HKE := Lib.hid KE
        have HWL := Lib.hid hwl
        have HOL := Lib.hid hol
        clear hcs hbW hx KB1 KE hwl hol hxr hoc hck hlen hc hgl hk hvl hki hiL hj
        by_cases h1 : hi.size = 0
        · rw [decide_eq_false (show ¬ hi.size ≠ 0 from fun h => h h1)] at z3
          rw [decide_eq_true h1] at z4
          by_cases h3 : most ≤ (on : Int)
          · have y3 : decide (most ≤ (on : Int)) = true := decide_eq_true h3
            have HZ := Lib.hid (HS.out.trans (scan_stop (e := pr x) (by rw [HON.out]; exact (.inr h3))))
            clear HS
            go_wp2
            go_ret
            rw [HFR.out, HZ.out]
            exact ⟨_, rfl, HO.out.below HKB1.out, HB.out.trans (HKB1.out.mono HWL.out)⟩
          · have y3 : decide (most ≤ (on : Int)) = false := decide_eq_false h3
            have HNO := Lib.hid (show ¬ ((hi.size ≠ 0 ∧ kless (pr x).1 hi = false) ∨ most ≤ out.length) from by rw [HON.out]; (rintro (h | h); exact h.1 h1; exact h3 h))
            go_wp2_with fail
            refine HAT.out.mono ?_
            rintro e w5 ⟨y, gn, sv, ok5, rfl, hat, hb⟩
            have HX := Lib.hid hat.eq; clear hat
            have HX := Lib.hid (show atF (pr x).2 t = ((y, gn, sv), ok5) from HX.out.symm)
            have KE5 := blk_below HKE.out hb
            have HO5 := Lib.hid ((HO.out.below HKB1.out).below hb)
            replace HB := Lib.hid ((HB.out.trans (HKB1.out.mono HWL.out)).trans (hb.mono (Nat.le_trans HWL.out HKB1.out.size)))
            have HWL5 := Lib.hid (show w.heap.size ≤ w5.heap.size from HB.out.size)
            have q0 : (w5.alloc (.cells #[.int .u64 (y : Int), .bool gn, .string sv] 25)).cell? ⟨wr.heap.size, 0, none⟩ = some (.string x.key) := (blk_cell (blk_alloc KE5 _) 0).trans rfl
            clear KE5 hb HKE HKB1 HAT e0 e1
            cases ok5 with
            | false =>
              have HST := Lib.hid (HS.out.trans (scan_skip HNO.out (by rw [HX.out]; simp)))
              go_wp2
              go_roundw
              case rel => exact ⟨i + 1, out, by go_num, hlt, by have := HO5.out.below (below_alloc (Below.refl _ w5) (.cells #[.int .u64 (y : Int), .bool gn, .string sv] 25)); exact this, by rw [HON.out]; exact Nat.le_succ_of_le HOL.out, HST, below_alloc HB.out _⟩
              case measure => simp [intOf]; clear hw; omega
            | true =>
              cases gn with
              | true =>
                have HST := Lib.hid (HS.out.trans (scan_skip HNO.out (by rw [HX.out]; simp)))
                go_wp2
                go_roundw
                case rel => exact ⟨i + 1, out, by go_num, hlt, by have := HO5.out.below (below_alloc (Below.refl _ w5) (.cells #[.int .u64 (y : Int), .bool true, .string sv] 25)); exact this, by rw [HON.out]; exact Nat.le_succ_of_le HOL.out, HST, below_alloc HB.out _⟩
                case measure => simp [intOf]; clear hw; omega
              | false =>
                have HST := Lib.hid (HS.out.trans (scan_put HNO.out HX.out))
                obtain ⟨v7, w7, hr7, ho7, hg7, _⟩ := run_app_rows (P := Try.prog) (base := w.heap.size) (W := (w5.alloc (.cells #[.int .u64 (y : Int), .bool false, .string sv] 25)).alloc (.cells #[.string x.key, .bool false, .string sv] 88)) (xs := out) 38 38 Try.underlying38 info_wr rfl (by decide) (by decide) wrC_len wrC_one ((HO5.out.below (below_alloc (Below.refl _ w5) (.cells #[.int .u64 (y : Int), .bool false, .string sv] 25))).below (below_alloc (Below.refl _ _) _)) (c := 1) ((OwnF.one (base := 0) (f := wrC) (x := (x.key, false, sv)) (row_new (w5.alloc (.cells #[.int .u64 (y : Int), .bool false, .string sv] 25)) (.cells #[.string x.key, .bool false, .string sv] 88) (n := w5.heap.size + 1) (by simp)) (Nat.zero_le _) rfl rfl).row wrC_len) (by have := HWL5.out; clear hw; simp; omega) (by have := HOL.out; rw [HON.out]; clear hw; omega)
                obtain ⟨A7, n7, c7, rfl⟩ : ∃ A m c, v7 = .slice A m c := by obtain ⟨A, c, e, _⟩ := ho7.slice_; exact ⟨_, _, _, e⟩
                have HO7 := Lib.hid ho7; clear ho7
                have HB7 := Lib.hid ((below_alloc (below_alloc HB.out (.cells #[.int .u64 (y : Int), .bool false, .string sv] 25)) (.cells #[.string x.key, .bool false, .string sv] 88)).grown hg7 (by have := HWL5.out; clear hw; simp; omega) (fun q hq => (HO5.out.block_ge q hq).1)); clear hg7
                go_wp2_with (at_builtin; refine wpl_app rfl (.tmp 65) (.tmp 71) 38 rfl rfl rfl hr7 ?_)
                go_roundw
                case rel => exact ⟨i + 1, _, by go_num, hlt, HO7.out, by rw [List.length_append, List.length_singleton, HON.out]; exact Nat.succ_le_succ HOL.out, HST, HB7.out⟩
                case measure => simp [intOf]; clear hw; omega
        · rw [decide_eq_true (show hi.size ≠ 0 from h1)] at z3
          rw [decide_eq_false h1] at z4
          cases h2 : kless x.key hi with
          | false =>
            have h2' : Op.bytesLess x.key.toList hi.toList = false := h2
            rw [h2'] at z1 z2
            have HZ := Lib.hid (HS.out.trans (scan_stop (e := pr x) (by rw [HON.out]; exact (.inl ⟨h1, h2⟩))))
            clear HS
            go_wp2
            go_ret
            rw [HFR.out, HZ.out]
            exact ⟨_, rfl, HO.out.below HKB1.out, HB.out.trans (HKB1.out.mono HWL.out)⟩
          | true =>
            have h2' : Op.bytesLess x.key.toList hi.toList = true := h2
            rw [h2'] at z1 z2
            by_cases h3 : most ≤ (on : Int)
            · have y3 : decide (most ≤ (on : Int)) = true := decide_eq_true h3
              have HZ := Lib.hid (HS.out.trans (scan_stop (e := pr x) (by rw [HON.out]; exact (.inr h3))))
              clear HS
              go_wp2
              go_ret
              rw [HFR.out, HZ.out]
              exact ⟨_, rfl, HO.out.below HKB1.out, HB.out.trans (HKB1.out.mono HWL.out)⟩
            · have y3 : decide (most ≤ (on : Int)) = false := decide_eq_false h3
              have HNO := Lib.hid (show ¬ ((hi.size ≠ 0 ∧ kless (pr x).1 hi = false) ∨ most ≤ out.length) from by rw [HON.out]; (rintro (h | h); have h := h.2; rw [show kless (pr x).1 hi = true from h2] at h; cases h; exact h3 h))
              go_wp2_with fail
              refine HAT.out.mono ?_
              rintro e w5 ⟨y, gn, sv, ok5, rfl, hat, hb⟩
              have HX := Lib.hid hat.eq; clear hat
              have HX := Lib.hid (show atF (pr x).2 t = ((y, gn, sv), ok5) from HX.out.symm)
              have KE5 := blk_below HKE.out hb
              have HO5 := Lib.hid ((HO.out.below HKB1.out).below hb)
              replace HB := Lib.hid ((HB.out.trans (HKB1.out.mono HWL.out)).trans (hb.mono (Nat.le_trans HWL.out HKB1.out.size)))
              have HWL5 := Lib.hid (show w.heap.size ≤ w5.heap.size from HB.out.size)
              have q0 : (w5.alloc (.cells #[.int .u64 (y : Int), .bool gn, .string sv] 25)).cell? ⟨wr.heap.size, 0, none⟩ = some (.string x.key) := (blk_cell (blk_alloc KE5 _) 0).trans rfl
              clear KE5 hb HKE HKB1 HAT e0 e1
              cases ok5 with
              | false =>
                have HST := Lib.hid (HS.out.trans (scan_skip HNO.out (by rw [HX.out]; simp)))
                go_wp2
                go_roundw
                case rel => exact ⟨i + 1, out, by go_num, hlt, by have := HO5.out.below (below_alloc (Below.refl _ w5) (.cells #[.int .u64 (y : Int), .bool gn, .string sv] 25)); exact this, by rw [HON.out]; exact Nat.le_succ_of_le HOL.out, HST, below_alloc HB.out _⟩
                case measure => simp [intOf]; clear hw; omega
              | true =>
                cases gn with
                | true =>
                  have HST := Lib.hid (HS.out.trans (scan_skip HNO.out (by rw [HX.out]; simp)))
                  go_wp2
                  go_roundw
                  case rel => exact ⟨i + 1, out, by go_num, hlt, by have := HO5.out.below (below_alloc (Below.refl _ w5) (.cells #[.int .u64 (y : Int), .bool true, .string sv] 25)); exact this, by rw [HON.out]; exact Nat.le_succ_of_le HOL.out, HST, below_alloc HB.out _⟩
                  case measure => simp [intOf]; clear hw; omega
                | false =>
                  have HST := Lib.hid (HS.out.trans (scan_put HNO.out HX.out))
                  obtain ⟨v7, w7, hr7, ho7, hg7, _⟩ := run_app_rows (P := Try.prog) (base := w.heap.size) (W := (w5.alloc (.cells #[.int .u64 (y : Int), .bool false, .string sv] 25)).alloc (.cells #[.string x.key, .bool false, .string sv] 88)) (xs := out) 38 38 Try.underlying38 info_wr rfl (by decide) (by decide) wrC_len wrC_one ((HO5.out.below (below_alloc (Below.refl _ w5) (.cells #[.int .u64 (y : Int), .bool false, .string sv] 25))).below (below_alloc (Below.refl _ _) _)) (c := 1) ((OwnF.one (base := 0) (f := wrC) (x := (x.key, false, sv)) (row_new (w5.alloc (.cells #[.int .u64 (y : Int), .bool false, .string sv] 25)) (.cells #[.string x.key, .bool false, .string sv] 88) (n := w5.heap.size + 1) (by simp)) (Nat.zero_le _) rfl rfl).row wrC_len) (by have := HWL5.out; clear hw; simp; omega) (by have := HOL.out; rw [HON.out]; clear hw; omega)
                  obtain ⟨A7, n7, c7, rfl⟩ : ∃ A m c, v7 = .slice A m c := by obtain ⟨A, c, e, _⟩ := ho7.slice_; exact ⟨_, _, _, e⟩
                  have HO7 := Lib.hid ho7; clear ho7
                  have HB7 := Lib.hid ((below_alloc (below_alloc HB.out (.cells #[.int .u64 (y : Int), .bool false, .string sv] 25)) (.cells #[.string x.key, .bool false, .string sv] 88)).grown hg7 (by have := HWL5.out; clear hw; simp; omega) (fun q hq => (HO5.out.block_ge q hq).1)); clear hg7
                  go_wp2_with (at_builtin; refine wpl_app rfl (.tmp 65) (.tmp 71) 38 rfl rfl rfl hr7 ?_)
                  go_roundw
                  case rel => exact ⟨i + 1, _, by go_num, hlt, HO7.out, by rw [List.length_append, List.length_singleton, HON.out]; exact Nat.succ_le_succ HOL.out, HST, HB7.out⟩
                  case measure => simp [intOf]; clear hw; omega
      · obtain rfl : i = m := by omega
        go_wp2
        go_ret
        rw [HFR.out, HS.out, List.drop_of_length_le (by rw [HLN.out]; exact Nat.le_refl _)]
        exact ⟨_, rfl, HO.out, HB.out⟩
end Go.Proofs.Ytcnehponkgofiaa.My
