/- isoglossref11.Store: Keys. -/
import Derived.Test.YtcnehponkgofiaaRMv2
import Derived.Test.YtcnehponkgofiaaAppR
import Derived.Test.YtcnehponkgofiaaScan
namespace Go.Proofs.Ytcnehponkgofiaa.My
set_option linter.unusedSimpArgs false
set_option linter.unusedVariables false
open Go.RowKit Go.Proofs.YtcnehponkgofiaaW.PrintWords Go.Proofs.YtcnehponkgofiaaW.PrintLast Go.Proofs.Ytcnehponkgofiaa.Pm

/-- How many of the keys are ahead of a key, from the first on. -/
def cK (out : List ByteArray) (key : ByteArray) : Nat := (out.takeWhile (fun x => kless x key)).length
theorem cK_le (out : List ByteArray) (key : ByteArray) : cK out key ≤ out.length := by
  unfold cK
  exact (List.takeWhile_prefix _).length_le
theorem cK_lt : ∀ (out : List ByteArray) (key : ByteArray) (k : Nat) (hk : k < out.length), k < cK out key → kless out[k] key = true
  | x :: r, key, k, hk, h => by
    unfold cK at h
    rw [List.takeWhile_cons] at h
    cases hx : kless x key with
    | false => rw [hx] at h; simp at h
    | true =>
      rw [hx, if_pos rfl] at h
      cases k with
      | zero => exact hx
      | succ k => exact cK_lt r key k (by simpa using hk) (by unfold cK; simpa using h)
theorem cK_at : ∀ (out : List ByteArray) (key : ByteArray) (hk : cK out key < out.length), kless out[cK out key] key = false
  | [], key, hk => by simp at hk
  | x :: r, key, hk => by
    cases hx : kless x key with
    | false =>
      have e : cK (x :: r) key = 0 := by unfold cK; rw [List.takeWhile_cons, hx]; rfl
      simp only [e]
      exact hx
    | true =>
      have e : cK (x :: r) key = cK r key + 1 := by unfold cK; rw [List.takeWhile_cons, hx]; rfl
      simp only [e]
      exact cK_at r key (by rw [e] at hk; simpa using hk)
/-- One key more in its place. -/
def insK (out : List ByteArray) (key : ByteArray) : List ByteArray := if out[cK out key]? = some key then out else out.take (cK out key) ++ [key] ++ out.drop (cK out key)
/-- The reference's keys, rising. -/
def rKeys (L : List ItT) : List ByteArray := L.foldl (fun s p => insK s p.1) []
theorem rKeys_take {L : List ItT} {i : Nat} (h : i < L.length) : rKeys (L.take (i + 1)) = insK (rKeys (L.take i)) L[i].1 := by
  unfold rKeys
  rw [List.take_add_one, List.getElem?_eq_getElem h]
  simp only [Option.toList_some, List.foldl_append, List.foldl_cons, List.foldl_nil]
theorem insK_len (out : List ByteArray) (key : ByteArray) : (insK out key).length ≤ out.length + 1 := by
  unfold insK
  have := cK_le out key
  split
  · omega
  · rw [List.length_append, List.length_append, List.length_take, List.length_drop, List.length_singleton]; omega
theorem rKeys_len : ∀ (L : List ItT) (i : Nat), i ≤ L.length → (rKeys (L.take i)).length ≤ i
  | L, 0, _ => by simp [rKeys]
  | L, i + 1, h => by
    rw [rKeys_take (by omega)]
    have := rKeys_len L i (by omega)
    have := insK_len (rKeys (L.take i)) (L[i]'(by omega)).1
    omega
def strC (s : ByteArray) : List Value := [.string s]
theorem strC_len (s : ByteArray) : (strC s).length = 1 := rfl
theorem strC_one (s : ByteArray) : ∀ u ∈ strC s, u.oneCell' = true := by intro u hu; simp [strC] at hu; subst hu; rfl
theorem info_str : (Try.prog.info? 9).map (fun i => (i.zero, i.size, i.bytes)) = some (some (.string ⟨#[]⟩), 1, 16) := by kernel_rfl
theorem RowF.drop1 {α : Type} {w : World} {f : α → List Value} {b off len : Nat} {l : List α} (h : RowF w 1 f (some ⟨b, off, none⟩) len l) {k : Nat} (hk : k < len) : RowF w 1 f (some ⟨b, off + k, none⟩) (len - k) (l.drop k) := by
  obtain ⟨b', off', e, hl, hc⟩ := h.2 (by omega)
  cases e
  refine ⟨by rw [List.length_drop, h.1], fun _ => ⟨b, off + k, rfl, hl, fun j hj => ?_⟩⟩
  rw [List.length_drop] at hj
  have := hc (k + j) (by omega)
  rw [List.getElem_drop, show off + k + j * 1 = off + (k + j) * 1 by omega]
  exact this
set_option maxRecDepth 100000 in
set_option maxHeartbeats 4000000 in
theorem rkeys_any (A : Option Addr) (n c : Nat) (L : List ItT) (w : World) (hA : RowF w 4 itC A n L) (hn : n ≤ 1000) :
    Calls Try.prog 21 #[.agg #[.slice A n c]] w fun e w' => ∃ v', e = .returned v' ∧ OwnF w' w.heap.size 9 1 strC v' (rKeys L) ∧ Below w.heap.size w w' := by
  have HA := Lib.hid hA; clear hA
  have HL := Lib.hid HA.out.1
  have KB := below_alloc (Below.refl w.heap.size w) (.cells #[.slice A n c] 44)
  have K0 := blk_new w (.cells #[.slice A n c] 44)
  go_enter Try.func21, Try.ntmps21
  go_wp2
  generalize World.alloc _ _ = W0 at *
  have HKB := Lib.hid KB; clear KB
  have HK0 := Lib.hid K0; clear K0
  go_loopw [3, 4] (fun o u wr => ∃ i : Nat, u = .int .i64 i ∧ i ≤ n ∧ Hid (wr.heap[w.heap.size]? = some (.cells #[.slice A n c] 44)) ∧ Hid (OwnF wr w.heap.size 9 1 strC o (rKeys (L.take i))) ∧ Hid (Below w.heap.size w wr)) (fun _ u _ => n - (intOf u).toNat)
  case atStart => exact ⟨0, rfl, Nat.zero_le _, HK0, Lib.hid (OwnF.nil ..), HKB⟩
  case round =>
    clear HKB HK0
    obtain ⟨i, rfl, hi, HG, HO, HB⟩ := hrel
    have g0 : wr.cell? ⟨w.heap.size, 0, none⟩ = some (.slice A n c) := (blk_cell HG.out 0).trans rfl
    by_cases hlt : i < n
    · obtain ⟨bb, off, hj, rfl, hbW, hc⟩ := HA.out.get i hlt
      have HT := Lib.hid (rKeys_take hj)
      have hlen := rKeys_len L i (by omega)
      obtain ⟨out, hout⟩ : ∃ out, rKeys (L.take i) = out := ⟨_, rfl⟩
      rw [hout] at HT HO hlen
      obtain ⟨⟨key, x0, x1, x2⟩, hx⟩ : ∃ x, L[i] = x := ⟨_, rfl⟩
      rw [hx] at hc HT
      replace HT := Lib.hid (show rKeys (L.take (i + 1)) = insK out key from HT.out)
      have c0 : wr.cell? ⟨bb, off + i * 4, none⟩ = some (.string key) := (HB.out.cell (p := ⟨bb, _, none⟩) hbW).trans (hc 0 _ rfl)
      have HLT := Lib.hid hlt
      have hii : (i : Int) < (n : Int) := by omega
      have hw := next_wrap hlt (by omega)
      have hnn : out.length < 1000 := by clear hw; omega
      obtain ⟨oA, oc, rfl, hoc⟩ := HO.out.slice_
      have HR := Lib.hid (HO.out.row strC_len)
      have HBB := Lib.hid (show bb < wr.heap.size from Nat.lt_of_lt_of_le hbW HB.out.size)
      clear hc hbW hj hx hn hout hlen
      have HC := Lib.hid (cK_le out key)
      obtain ⟨m, hm⟩ : ∃ m, out.length = m := ⟨_, rfl⟩
      rw [hm] at hnn hoc HC HR HO ⊢
      have HM := Lib.hid hm; clear hm
      have hmm : m ≤ 1000 := Nat.le_of_lt hnn
      clear hnn
      go_wp2
      generalize wr = W1 at *
      have HGL := Lib.hid (blk_lt HG.out)
      have HC0 := Lib.hid g0
      have HC1 := Lib.hid c0
      have HGW := Lib.hid HG.out
      go_loopw [5] (fun u w1 => ∃ k : Nat, u = .int .i64 k ∧ k ≤ m ∧ Hid (k ≤ cK out key) ∧ Hid (Below W1.heap.size W1 w1)) (fun u _ => m - (intOf u).toNat)
      case atStart => exact ⟨0, rfl, Nat.zero_le _, Lib.hid (Nat.zero_le _), Lib.hid (Below.refl _ _)⟩
      case round =>
        obtain ⟨k, rfl, hkm, HK, HB1⟩ := hrel
        replace HG := Lib.hid (blk_below HG.out HB1.out)
        have g1 : wr.cell? ⟨w.heap.size, 0, none⟩ = some (.slice (some ⟨bb, off, none⟩) n c) := (blk_cell HG.out 0).trans rfl
        have c1 : wr.cell? ⟨bb, off + i * 4, none⟩ = some (.string key) := (HB1.out.cell (p := ⟨bb, _, none⟩) HBB.out).trans c0
        clear g0 c0
        have hw2 := fun h : k < m => next_wrap h (by omega)
        by_cases hlt : k < cK out key
        · have hkl : k < m := Nat.lt_of_lt_of_le hlt HC.out
          obtain ⟨ob, oo, hj, rfl, hob, hcs⟩ := HR.out.get k hkl
          have hl := cK_lt out key k hj hlt
          obtain ⟨x, hx⟩ : ∃ x, out[k] = x := ⟨_, rfl⟩
          rw [hx] at hl hcs
          have d0 : wr.cell? ⟨ob, oo + k * 1, none⟩ = some (.string x) := (HB1.out.cell (p := ⟨ob, _, none⟩) hob).trans (hcs 0 _ rfl)
          have d1 : wr.cell? ⟨ob, oo + k, none⟩ = some (.string x) := by rw [Nat.mul_one] at d0; exact d0
          have hl : Op.bytesLess x.toList key.toList = true := hl
          have hkk : (k : Int) < (m : Int) := by omega
          have HLK := Lib.hid hlt
          have HKL := Lib.hid hkl
          replace hw2 := hw2 hkl
          clear hcs hx hob hj hlt hkm
          go_wp2
          go_quiet (fail)
          go_wp2
          go_roundw
          case rel => exact ⟨k + 1, by go_num, HKL.out, Lib.hid HLK.out, Lib.hid (pw_below_drewN HB1.out _)⟩
          case measure => first | exact up_w HKL.out hw2 | exact up_n HKL.out
        · obtain rfl : k = cK out key := by have := HK.out; omega
          have HKM := Lib.hid hkm
          have HGB := Lib.hid HB.out.size
          clear hw2 hlt HK
          generalize hk : cK out key = k at *
          rcases HO.out.2 with ⟨e, e0⟩ | ⟨ob, cap, cur, e, hob1, hob2, -⟩
          · injection e with e1 e2 e3
            subst e1
            subst e3
            subst e2
            obtain rfl : k = 0 := by have := HKM.out; omega
            have HO0 := Lib.hid (show out = [] from List.eq_nil_of_length_eq_zero e0)
            have HINS := Lib.hid (show insK out key = out.take 0 ++ [key] ++ out.drop 0 by rw [HO0.out]; simp [insK])
            clear HM e0 hoc
            go_wp2
            go_quiet (fail)
            replace HB1 := Lib.hid (pw_below_drewN HB1.out nq)
            replace g1 : (wr.drewN nq).cell? _ = _ := g1
            replace c1 : (wr.drewN nq).cell? _ = _ := c1
            generalize wr.drewN nq = w2 at *
            generalize w2 = wr at *
            go_wp2
            go_quiet (fail)
            replace HB1 := Lib.hid (pw_below_drewN HB1.out nq)
            replace g1 : (wr.drewN nq).cell? _ = _ := g1
            replace c1 : (wr.drewN nq).cell? _ = _ := c1
            generalize wr.drewN nq = w2 at *
            generalize w2 = wr at *
            obtain ⟨v3, w3, hr3, ho3, hg3, -⟩ := run_app_rows (P := Try.prog) (base := W1.heap.size) (W := wr.alloc (.cells #[] 9)) (xs := ([] : List ByteArray)) 51 51 Try.underlying51 info_str rfl (by decide) (by decide) strC_len strC_one (OwnF.empty (blk_new wr (.cells #[] 9)) HB1.out.size 1 strC) (c := 0) (((HR.out.below HB1.out).below (below_alloc (Below.refl _ wr) (.cells #[] 9))).take HKM.out) (Nat.le_trans HB1.out.size (below_alloc (Below.refl _ wr) (.cells #[] 9)).size) (by simp only [List.length_nil]; clear hw; omega)
            have HB3 := Lib.hid ((below_alloc HB1.out (.cells #[] 9)).grown hg3 (Nat.le_trans HB1.out.size (below_alloc (Below.refl _ wr) (.cells #[] 9)).size) (fun q hq => ((OwnF.empty (base := W1.heap.size) (blk_new wr (.cells #[] 9)) HB1.out.size 1 strC).block_ge q hq).1)); clear hg3
            rw [List.nil_append] at ho3
            obtain ⟨A3, n3, c3, rfl⟩ : ∃ A m c, v3 = .slice A m c := by obtain ⟨A, c, e, _⟩ := ho3.slice_; exact ⟨_, _, _, e⟩
            obtain ⟨v4, w4, hr4, ho4, hg4, -⟩ := run_app_rows (P := Try.prog) (base := W1.heap.size) (W := w3.alloc (.cells #[.string key] 9)) 51 51 Try.underlying51 info_str rfl (by decide) (by decide) strC_len strC_one (ho3.below (below_alloc (Below.refl _ w3) (.cells #[.string key] 9))) (c := 1) ((OwnF.one (base := 0) (f := strC) (x := key) (blk_new w3 (.cells #[.string key] 9)) (Nat.zero_le _) rfl rfl).row strC_len) (Nat.le_trans HB3.out.size (below_alloc (Below.refl _ w3) (.cells #[.string key] 9)).size) (by rw [List.length_take]; clear hw; omega)
            have HB4 := Lib.hid ((below_alloc HB3.out (.cells #[.string key] 9)).grown hg4 (Nat.le_trans HB3.out.size (below_alloc (Below.refl _ w3) (.cells #[.string key] 9)).size) (fun q hq => (ho3.block_ge q hq).1)); clear hg4
            obtain ⟨A4, n4, c4, rfl⟩ : ∃ A m c, v4 = .slice A m c := by obtain ⟨A, c, e, _⟩ := ho4.slice_; exact ⟨_, _, _, e⟩
            have HR5 := Lib.hid (show RowF w4 1 strC (none) (0) (out.drop (0)) from by rw [HO0.out]; exact RowF.nil _ _ _)
            obtain ⟨v5, w5, hr5, ho5, hg5, -⟩ := run_app_rows (P := Try.prog) (base := W1.heap.size) (W := w4) 51 51 Try.underlying51 info_str rfl (by decide) (by decide) strC_len strC_one ho4 (c := 0) HR5.out HB4.out.size (by rw [List.length_append, List.length_take, List.length_singleton]; clear hw; omega)
            have HB5 := Lib.hid (HB4.out.grown hg5 HB4.out.size (fun q hq => (ho4.block_ge q hq).1)); clear hg5
            have HO5 := Lib.hid ho5; clear ho5 ho4 ho3 HR5
            obtain ⟨A5, n5, c5, rfl⟩ : ∃ A m c, v5 = .slice A m c := by obtain ⟨A, c, e, _⟩ := HO5.out.slice_; exact ⟨_, _, _, e⟩
            have q3 : w3.cell? ⟨w.heap.size, 0, none⟩ = some (.slice (some ⟨bb, off, none⟩) n c) := (HB3.out.cell (p := ⟨w.heap.size, 0, none⟩) HGL.out).trans HC0.out
            have q4 : w3.cell? ⟨bb, off + i * 4, none⟩ = some (.string key) := (HB3.out.cell (p := ⟨bb, _, none⟩) HBB.out).trans HC1.out
            go_wp2_with (first | (at_builtin; refine wpl_app rfl (.tmp 50) (.tmp 53) 51 rfl rfl rfl hr3 ?_) | (at_builtin; refine wpl_app rfl (.tmp 55) (.tmp 62) 51 rfl rfl rfl hr4 ?_) | (at_builtin; refine wpl_app rfl (.tmp 64) (.tmp 67) 51 rfl rfl rfl hr5 ?_))
            go_roundw
            case rel => exact ⟨i + 1, by go_num, HLT.out, Lib.hid (blk_below HGW.out HB5.out), by rw [HT.out, HINS.out]; exact Lib.hid (HO5.out.lower HGB.out), Lib.hid (HB.out.trans (HB5.out.mono HGB.out))⟩
            case measure => first | exact up_w HLT.out hw | exact up_n HLT.out
          · injection e with e1 e2 e3
            subst e1
            clear e2 e3 hob1 hob2 cur
            rcases Nat.lt_or_ge k m with hkl | hkl
            · obtain ⟨ob, oo, hj, e4, hob, hcs⟩ := HR.out.get k hkl
              cases e4
              subst hk
              have hl : Op.bytesLess (out[cK out key]).toList key.toList = false := cK_at out key hj
              have HKK := Lib.hid (List.getElem?_eq_getElem hj)
              have HIN0 := Lib.hid (show insK out key = if out[cK out key]? = some key then out else out.take (cK out key) ++ [key] ++ out.drop (cK out key) from rfl)
              generalize cK out key = k at *
              obtain ⟨x, hx⟩ : ∃ x, out[k] = x := ⟨_, rfl⟩
              rw [hx] at hl hcs HKK
              have d0 : wr.cell? ⟨ob, 0 + k * 1, none⟩ = some (.string x) := (HB1.out.cell (p := ⟨ob, _, none⟩) hob).trans (hcs 0 _ rfl)
              have d1 : wr.cell? ⟨ob, k, none⟩ = some (.string x) := by rw [Nat.mul_one, Nat.zero_add] at d0; exact d0
              have hkk : (k : Int) < (m : Int) := by clear hw; omega
              have hck : ¬ oc = k := by clear hw; omega
              have he := str_eqb x key
              have HKL := Lib.hid hkl
              clear hcs hx hob hj d0 hkm
              by_cases hx : x = key
              · rw [decide_eq_true hx] at he
                have HINS := Lib.hid (show insK out key = out by rw [HIN0.out, HKK.out, hx, if_pos rfl])
                clear hx
                go_wp2
                go_quiet (fail)
                replace HB1 := Lib.hid (pw_below_drewN HB1.out nq)
                replace g1 : (wr.drewN nq).cell? _ = _ := g1
                replace c1 : (wr.drewN nq).cell? _ = _ := c1
                replace d1 : (wr.drewN nq).cell? _ = _ := d1
                generalize wr.drewN nq = w2 at *
                generalize w2 = wr at *
                go_wp2
                go_quiet (fail)
                replace HB1 := Lib.hid (pw_below_drewN HB1.out nq)
                replace g1 : (wr.drewN nq).cell? _ = _ := g1
                replace c1 : (wr.drewN nq).cell? _ = _ := c1
                replace d1 : (wr.drewN nq).cell? _ = _ := d1
                generalize wr.drewN nq = w2 at *
                generalize w2 = wr at *
                go_wp2
                go_roundw
                case rel => exact ⟨i + 1, by go_num, HLT.out, Lib.hid (blk_below HGW.out HB1.out), by rw [HT.out, HINS.out]; exact Lib.hid (HO.out.below HB1.out), Lib.hid (HB.out.trans (HB1.out.mono HGB.out))⟩
                case measure => first | exact up_w HLT.out hw | exact up_n HLT.out
              · rw [decide_eq_false hx] at he
                have HINS := Lib.hid (show insK out key = out.take k ++ [key] ++ out.drop k by rw [HIN0.out, HKK.out, if_neg (by intro h; injection h with h; exact hx h)])
                clear hx
                go_wp2
                go_quiet (fail)
                replace HB1 := Lib.hid (pw_below_drewN HB1.out nq)
                replace g1 : (wr.drewN nq).cell? _ = _ := g1
                replace c1 : (wr.drewN nq).cell? _ = _ := c1
                replace d1 : (wr.drewN nq).cell? _ = _ := d1
                generalize wr.drewN nq = w2 at *
                generalize w2 = wr at *
                go_wp2
                go_quiet (fail)
                replace HB1 := Lib.hid (pw_below_drewN HB1.out nq)
                replace g1 : (wr.drewN nq).cell? _ = _ := g1
                replace c1 : (wr.drewN nq).cell? _ = _ := c1
                replace d1 : (wr.drewN nq).cell? _ = _ := d1
                generalize wr.drewN nq = w2 at *
                generalize w2 = wr at *
                obtain ⟨v3, w3, hr3, ho3, hg3, -⟩ := run_app_rows (P := Try.prog) (base := W1.heap.size) (W := wr.alloc (.cells #[] 9)) (xs := ([] : List ByteArray)) 51 51 Try.underlying51 info_str rfl (by decide) (by decide) strC_len strC_one (OwnF.empty (blk_new wr (.cells #[] 9)) HB1.out.size 1 strC) (c := oc) (((HR.out.below HB1.out).below (below_alloc (Below.refl _ wr) (.cells #[] 9))).take HKM.out) (Nat.le_trans HB1.out.size (below_alloc (Below.refl _ wr) (.cells #[] 9)).size) (by simp only [List.length_nil]; clear hw; omega)
                have HB3 := Lib.hid ((below_alloc HB1.out (.cells #[] 9)).grown hg3 (Nat.le_trans HB1.out.size (below_alloc (Below.refl _ wr) (.cells #[] 9)).size) (fun q hq => ((OwnF.empty (base := W1.heap.size) (blk_new wr (.cells #[] 9)) HB1.out.size 1 strC).block_ge q hq).1)); clear hg3
                rw [List.nil_append] at ho3
                obtain ⟨A3, n3, c3, rfl⟩ : ∃ A m c, v3 = .slice A m c := by obtain ⟨A, c, e, _⟩ := ho3.slice_; exact ⟨_, _, _, e⟩
                obtain ⟨v4, w4, hr4, ho4, hg4, -⟩ := run_app_rows (P := Try.prog) (base := W1.heap.size) (W := w3.alloc (.cells #[.string key] 9)) 51 51 Try.underlying51 info_str rfl (by decide) (by decide) strC_len strC_one (ho3.below (below_alloc (Below.refl _ w3) (.cells #[.string key] 9))) (c := 1) ((OwnF.one (base := 0) (f := strC) (x := key) (blk_new w3 (.cells #[.string key] 9)) (Nat.zero_le _) rfl rfl).row strC_len) (Nat.le_trans HB3.out.size (below_alloc (Below.refl _ w3) (.cells #[.string key] 9)).size) (by rw [List.length_take]; clear hw; omega)
                have HB4 := Lib.hid ((below_alloc HB3.out (.cells #[.string key] 9)).grown hg4 (Nat.le_trans HB3.out.size (below_alloc (Below.refl _ w3) (.cells #[.string key] 9)).size) (fun q hq => (ho3.block_ge q hq).1)); clear hg4
                obtain ⟨A4, n4, c4, rfl⟩ : ∃ A m c, v4 = .slice A m c := by obtain ⟨A, c, e, _⟩ := ho4.slice_; exact ⟨_, _, _, e⟩
                have HR5 := Lib.hid (show RowF w4 1 strC (some ⟨ob, k, none⟩) (m - k) (out.drop (k)) from by have := (HR.out.below HB4.out).drop1 HKL.out; rw [Nat.zero_add] at this; exact this)
                obtain ⟨v5, w5, hr5, ho5, hg5, -⟩ := run_app_rows (P := Try.prog) (base := W1.heap.size) (W := w4) 51 51 Try.underlying51 info_str rfl (by decide) (by decide) strC_len strC_one ho4 (c := oc - k) HR5.out HB4.out.size (by rw [List.length_append, List.length_take, List.length_singleton]; clear hw; omega)
                have HB5 := Lib.hid (HB4.out.grown hg5 HB4.out.size (fun q hq => (ho4.block_ge q hq).1)); clear hg5
                have HO5 := Lib.hid ho5; clear ho5 ho4 ho3 HR5
                obtain ⟨A5, n5, c5, rfl⟩ : ∃ A m c, v5 = .slice A m c := by obtain ⟨A, c, e, _⟩ := HO5.out.slice_; exact ⟨_, _, _, e⟩
                have q3 : w3.cell? ⟨w.heap.size, 0, none⟩ = some (.slice (some ⟨bb, off, none⟩) n c) := (HB3.out.cell (p := ⟨w.heap.size, 0, none⟩) HGL.out).trans HC0.out
                have q4 : w3.cell? ⟨bb, off + i * 4, none⟩ = some (.string key) := (HB3.out.cell (p := ⟨bb, _, none⟩) HBB.out).trans HC1.out
                go_wp2_with (first | (at_builtin; refine wpl_app rfl (.tmp 50) (.tmp 53) 51 rfl rfl rfl hr3 ?_) | (at_builtin; refine wpl_app rfl (.tmp 55) (.tmp 62) 51 rfl rfl rfl hr4 ?_) | (at_builtin; refine wpl_app rfl (.tmp 64) (.tmp 67) 51 rfl rfl rfl hr5 ?_))
                go_roundw
                case rel => exact ⟨i + 1, by go_num, HLT.out, Lib.hid (blk_below HGW.out HB5.out), by rw [HT.out, HINS.out]; exact Lib.hid (HO5.out.lower HGB.out), Lib.hid (HB.out.trans (HB5.out.mono HGB.out))⟩
                case measure => first | exact up_w HLT.out hw | exact up_n HLT.out
            · obtain rfl : k = m := Nat.le_antisymm hkm hkl
              have HINS := Lib.hid (show insK out key = out.take k ++ [key] ++ out.drop k by unfold insK; rw [hk, List.getElem?_eq_none (by rw [HM.out]; exact Nat.le_refl _), if_neg (by simp)])
              have HDR := Lib.hid (show out.drop k = [] from List.drop_of_length_le (by rw [HM.out]; exact Nat.le_refl _))
              by_cases hck : oc = k
              · subst hck
                clear hkl hkm
                go_wp2
                go_quiet (fail)
                replace HB1 := Lib.hid (pw_below_drewN HB1.out nq)
                replace g1 : (wr.drewN nq).cell? _ = _ := g1
                replace c1 : (wr.drewN nq).cell? _ = _ := c1
                generalize wr.drewN nq = w2 at *
                generalize w2 = wr at *
                go_wp2
                go_quiet (fail)
                replace HB1 := Lib.hid (pw_below_drewN HB1.out nq)
                replace g1 : (wr.drewN nq).cell? _ = _ := g1
                replace c1 : (wr.drewN nq).cell? _ = _ := c1
                generalize wr.drewN nq = w2 at *
                generalize w2 = wr at *
                obtain ⟨v3, w3, hr3, ho3, hg3, -⟩ := run_app_rows (P := Try.prog) (base := W1.heap.size) (W := wr.alloc (.cells #[] 9)) (xs := ([] : List ByteArray)) 51 51 Try.underlying51 info_str rfl (by decide) (by decide) strC_len strC_one (OwnF.empty (blk_new wr (.cells #[] 9)) HB1.out.size 1 strC) (c := oc) (((HR.out.below HB1.out).below (below_alloc (Below.refl _ wr) (.cells #[] 9))).take HKM.out) (Nat.le_trans HB1.out.size (below_alloc (Below.refl _ wr) (.cells #[] 9)).size) (by simp only [List.length_nil]; clear hw; omega)
                have HB3 := Lib.hid ((below_alloc HB1.out (.cells #[] 9)).grown hg3 (Nat.le_trans HB1.out.size (below_alloc (Below.refl _ wr) (.cells #[] 9)).size) (fun q hq => ((OwnF.empty (base := W1.heap.size) (blk_new wr (.cells #[] 9)) HB1.out.size 1 strC).block_ge q hq).1)); clear hg3
                rw [List.nil_append] at ho3
                obtain ⟨A3, n3, c3, rfl⟩ : ∃ A m c, v3 = .slice A m c := by obtain ⟨A, c, e, _⟩ := ho3.slice_; exact ⟨_, _, _, e⟩
                obtain ⟨v4, w4, hr4, ho4, hg4, -⟩ := run_app_rows (P := Try.prog) (base := W1.heap.size) (W := w3.alloc (.cells #[.string key] 9)) 51 51 Try.underlying51 info_str rfl (by decide) (by decide) strC_len strC_one (ho3.below (below_alloc (Below.refl _ w3) (.cells #[.string key] 9))) (c := 1) ((OwnF.one (base := 0) (f := strC) (x := key) (blk_new w3 (.cells #[.string key] 9)) (Nat.zero_le _) rfl rfl).row strC_len) (Nat.le_trans HB3.out.size (below_alloc (Below.refl _ w3) (.cells #[.string key] 9)).size) (by rw [List.length_take]; clear hw; omega)
                have HB4 := Lib.hid ((below_alloc HB3.out (.cells #[.string key] 9)).grown hg4 (Nat.le_trans HB3.out.size (below_alloc (Below.refl _ w3) (.cells #[.string key] 9)).size) (fun q hq => (ho3.block_ge q hq).1)); clear hg4
                obtain ⟨A4, n4, c4, rfl⟩ : ∃ A m c, v4 = .slice A m c := by obtain ⟨A, c, e, _⟩ := ho4.slice_; exact ⟨_, _, _, e⟩
                have HR5 := Lib.hid (show RowF w4 1 strC (some ⟨ob, 0, none⟩) (0) (out.drop (oc)) from by rw [HDR.out]; exact ⟨rfl, fun h => absurd h (by decide)⟩)
                obtain ⟨v5, w5, hr5, ho5, hg5, -⟩ := run_app_rows (P := Try.prog) (base := W1.heap.size) (W := w4) 51 51 Try.underlying51 info_str rfl (by decide) (by decide) strC_len strC_one ho4 (c := 0) HR5.out HB4.out.size (by rw [List.length_append, List.length_take, List.length_singleton]; clear hw; omega)
                have HB5 := Lib.hid (HB4.out.grown hg5 HB4.out.size (fun q hq => (ho4.block_ge q hq).1)); clear hg5
                have HO5 := Lib.hid ho5; clear ho5 ho4 ho3 HR5
                obtain ⟨A5, n5, c5, rfl⟩ : ∃ A m c, v5 = .slice A m c := by obtain ⟨A, c, e, _⟩ := HO5.out.slice_; exact ⟨_, _, _, e⟩
                have q3 : w3.cell? ⟨w.heap.size, 0, none⟩ = some (.slice (some ⟨bb, off, none⟩) n c) := (HB3.out.cell (p := ⟨w.heap.size, 0, none⟩) HGL.out).trans HC0.out
                have q4 : w3.cell? ⟨bb, off + i * 4, none⟩ = some (.string key) := (HB3.out.cell (p := ⟨bb, _, none⟩) HBB.out).trans HC1.out
                go_wp2_with (first | (at_builtin; refine wpl_app rfl (.tmp 50) (.tmp 53) 51 rfl rfl rfl hr3 ?_) | (at_builtin; refine wpl_app rfl (.tmp 55) (.tmp 62) 51 rfl rfl rfl hr4 ?_) | (at_builtin; refine wpl_app rfl (.tmp 64) (.tmp 67) 51 rfl rfl rfl hr5 ?_))
                go_roundw
                case rel => exact ⟨i + 1, by go_num, HLT.out, Lib.hid (blk_below HGW.out HB5.out), by rw [HT.out, HINS.out]; exact Lib.hid (HO5.out.lower HGB.out), Lib.hid (HB.out.trans (HB5.out.mono HGB.out))⟩
                case measure => first | exact up_w HLT.out hw | exact up_n HLT.out
              · clear hkl hkm
                go_wp2
                go_quiet (fail)
                replace HB1 := Lib.hid (pw_below_drewN HB1.out nq)
                replace g1 : (wr.drewN nq).cell? _ = _ := g1
                replace c1 : (wr.drewN nq).cell? _ = _ := c1
                generalize wr.drewN nq = w2 at *
                generalize w2 = wr at *
                go_wp2
                go_quiet (fail)
                replace HB1 := Lib.hid (pw_below_drewN HB1.out nq)
                replace g1 : (wr.drewN nq).cell? _ = _ := g1
                replace c1 : (wr.drewN nq).cell? _ = _ := c1
                generalize wr.drewN nq = w2 at *
                generalize w2 = wr at *
                obtain ⟨v3, w3, hr3, ho3, hg3, -⟩ := run_app_rows (P := Try.prog) (base := W1.heap.size) (W := wr.alloc (.cells #[] 9)) (xs := ([] : List ByteArray)) 51 51 Try.underlying51 info_str rfl (by decide) (by decide) strC_len strC_one (OwnF.empty (blk_new wr (.cells #[] 9)) HB1.out.size 1 strC) (c := oc) (((HR.out.below HB1.out).below (below_alloc (Below.refl _ wr) (.cells #[] 9))).take HKM.out) (Nat.le_trans HB1.out.size (below_alloc (Below.refl _ wr) (.cells #[] 9)).size) (by simp only [List.length_nil]; clear hw; omega)
                have HB3 := Lib.hid ((below_alloc HB1.out (.cells #[] 9)).grown hg3 (Nat.le_trans HB1.out.size (below_alloc (Below.refl _ wr) (.cells #[] 9)).size) (fun q hq => ((OwnF.empty (base := W1.heap.size) (blk_new wr (.cells #[] 9)) HB1.out.size 1 strC).block_ge q hq).1)); clear hg3
                rw [List.nil_append] at ho3
                obtain ⟨A3, n3, c3, rfl⟩ : ∃ A m c, v3 = .slice A m c := by obtain ⟨A, c, e, _⟩ := ho3.slice_; exact ⟨_, _, _, e⟩
                obtain ⟨v4, w4, hr4, ho4, hg4, -⟩ := run_app_rows (P := Try.prog) (base := W1.heap.size) (W := w3.alloc (.cells #[.string key] 9)) 51 51 Try.underlying51 info_str rfl (by decide) (by decide) strC_len strC_one (ho3.below (below_alloc (Below.refl _ w3) (.cells #[.string key] 9))) (c := 1) ((OwnF.one (base := 0) (f := strC) (x := key) (blk_new w3 (.cells #[.string key] 9)) (Nat.zero_le _) rfl rfl).row strC_len) (Nat.le_trans HB3.out.size (below_alloc (Below.refl _ w3) (.cells #[.string key] 9)).size) (by rw [List.length_take]; clear hw; omega)
                have HB4 := Lib.hid ((below_alloc HB3.out (.cells #[.string key] 9)).grown hg4 (Nat.le_trans HB3.out.size (below_alloc (Below.refl _ w3) (.cells #[.string key] 9)).size) (fun q hq => (ho3.block_ge q hq).1)); clear hg4
                obtain ⟨A4, n4, c4, rfl⟩ : ∃ A m c, v4 = .slice A m c := by obtain ⟨A, c, e, _⟩ := ho4.slice_; exact ⟨_, _, _, e⟩
                have HR5 := Lib.hid (show RowF w4 1 strC (some ⟨ob, k, none⟩) (0) (out.drop (k)) from by rw [HDR.out]; exact ⟨rfl, fun h => absurd h (by decide)⟩)
                obtain ⟨v5, w5, hr5, ho5, hg5, -⟩ := run_app_rows (P := Try.prog) (base := W1.heap.size) (W := w4) 51 51 Try.underlying51 info_str rfl (by decide) (by decide) strC_len strC_one ho4 (c := oc - k) HR5.out HB4.out.size (by rw [List.length_append, List.length_take, List.length_singleton]; clear hw; omega)
                have HB5 := Lib.hid (HB4.out.grown hg5 HB4.out.size (fun q hq => (ho4.block_ge q hq).1)); clear hg5
                have HO5 := Lib.hid ho5; clear ho5 ho4 ho3 HR5
                obtain ⟨A5, n5, c5, rfl⟩ : ∃ A m c, v5 = .slice A m c := by obtain ⟨A, c, e, _⟩ := HO5.out.slice_; exact ⟨_, _, _, e⟩
                have q3 : w3.cell? ⟨w.heap.size, 0, none⟩ = some (.slice (some ⟨bb, off, none⟩) n c) := (HB3.out.cell (p := ⟨w.heap.size, 0, none⟩) HGL.out).trans HC0.out
                have q4 : w3.cell? ⟨bb, off + i * 4, none⟩ = some (.string key) := (HB3.out.cell (p := ⟨bb, _, none⟩) HBB.out).trans HC1.out
                go_wp2_with (first | (at_builtin; refine wpl_app rfl (.tmp 50) (.tmp 53) 51 rfl rfl rfl hr3 ?_) | (at_builtin; refine wpl_app rfl (.tmp 55) (.tmp 62) 51 rfl rfl rfl hr4 ?_) | (at_builtin; refine wpl_app rfl (.tmp 64) (.tmp 67) 51 rfl rfl rfl hr5 ?_))
                go_roundw
                case rel => exact ⟨i + 1, by go_num, HLT.out, Lib.hid (blk_below HGW.out HB5.out), by rw [HT.out, HINS.out]; exact Lib.hid (HO5.out.lower HGB.out), Lib.hid (HB.out.trans (HB5.out.mono HGB.out))⟩
                case measure => first | exact up_w HLT.out hw | exact up_n HLT.out
    · obtain rfl : i = n := by omega
      go_wp2
      go_ret
      exact ⟨_, rfl, by have := HO.out; rw [List.take_of_length_le (by rw [HL.out]; exact Nat.le_refl _)] at this; exact this, HB.out⟩
end Go.Proofs.Ytcnehponkgofiaa.My
