/- mvcc.Store.Room. -/
import Derived.Test.YtcnehponkgofiaaRMv5
namespace Go.Proofs.Ytcnehponkgofiaa.My
set_option linter.unusedSimpArgs false
set_option linter.unusedVariables false
open Go.RowKit Go.Proofs.YtcnehponkgofiaaW.PrintWords Go.Proofs.YtcnehponkgofiaaW.PrintLast Go.Proofs.Ytcnehponkgofiaa.Pm

set_option maxRecDepth 100000 in
theorem room_any (base g : Nat) (v : Value) (es : List EntP) (key : ByteArray) (w : World) (hM : MSt w base g v es) :
    Calls Try.prog 17 #[.pointer (some ⟨g, 0, none⟩), .string key] w fun e w' => e = .returned (.bool (decide ((chS es key).length < 200))) ∧ Below w.heap.size w w' := by
  have HQ := Lib.hid (chain_any base g v es key w hM); clear hM
  generalize chS es key = ch at *
  go_enter Try.func17, Try.ntmps17
  go_wp2_with fail
  refine HQ.out.mono ?_
  rintro e w1 ⟨A, c, rfl, ha, hr, hc, hb⟩
  have HB := Lib.hid hb; clear hb ha hr hc
  by_cases h : ch.length < 200
  · have x0 : decide ((ch.length : Int) < 200) = true := by simp; omega
    have x0n := decide_eq_true h
    have HX := Lib.hid x0n
    go_wp2
    go_ret
    rw [HX.out]
    exact ⟨rfl, HB.out⟩
  · have x0 : decide ((ch.length : Int) < 200) = false := by simp; omega
    have x0n := decide_eq_false h
    have HX := Lib.hid x0n
    go_wp2
    go_ret
    rw [HX.out]
    exact ⟨rfl, HB.out⟩
set_option maxRecDepth 100000 in
set_option maxHeartbeats 4000000 in
theorem mkeys_any (base g : Nat) (v : Value) (es : List EntP) (w : World) (hM : MSt w base g v es) (hlen : es.length ≤ 1000) :
    Calls Try.prog 20 #[.pointer (some ⟨g, 0, none⟩)] w fun e w' => ∃ v', e = .returned v' ∧ OwnF w' w.heap.size 9 1 strC v' (es.map (·.key)) ∧ Below w.heap.size w w' := by
  obtain ⟨A, c, rfl, hc, hr, ha⟩ := hM.args
  have g0 : w.cell? ⟨g, 0, none⟩ = some (.slice A es.length c) := (blk_cell hM.blk 0).trans rfl
  have HR := Lib.hid hr; clear hr ha hM hc
  obtain ⟨m, hm⟩ : ∃ m, es.length = m := ⟨_, rfl⟩
  rw [hm] at hlen g0 HR
  have HM := Lib.hid hm; clear hm
  go_enter Try.func20, Try.ntmps20
  go_wp2
  go_loopw [3, 11] (fun o u wr => ∃ i : Nat, u = .int .i64 i ∧ i ≤ m ∧ Hid (OwnF wr w.heap.size 9 1 strC o ((es.take i).map (·.key))) ∧ Hid (Below w.heap.size w wr)) (fun _ u _ => m - (intOf u).toNat)
  case atStart => exact ⟨0, rfl, Nat.zero_le _, Lib.hid (OwnF.nil ..), Lib.hid (Below.refl _ _)⟩
  case round =>
    obtain ⟨i, rfl, hi, HO, HB⟩ := hrel
    by_cases hlt : i < m
    · obtain ⟨b', off', hj, rfl, hbW, hcs⟩ := HR.out.get i hlt
      replace hcs := range_below hcs HB.out hbW
      have HT := Lib.hid (show (es.take (i + 1)).map (·.key) = (es.take i).map (·.key) ++ [es[i].key] by rw [List.take_add_one, List.getElem?_eq_getElem hj]; simp only [Option.toList_some, List.map_append, List.map_cons, List.map_nil])
      obtain ⟨x, hx⟩ : ∃ x, es[i] = x := ⟨_, rfl⟩
      rw [hx] at HT hcs
      have e0 : wr.cell? ⟨b', off' + i * 2, none⟩ = some (.string x.key) := hcs 0 _ rfl
      have e1 : wr.cell? ⟨b', off' + i * 2 + 1, none⟩ = some (.slice x.A x.ch.length x.c) := hcs 1 _ rfl
      have hw := next_wrap hlt (Nat.le_trans hlen (by decide))
      have HLT := Lib.hid hlt
      have hii : (i : Int) < (m : Int) := by clear hw; omega
      clear hcs hx hj hbW
      obtain ⟨out, hout⟩ : ∃ l, (es.take i).map (·.key) = l := ⟨_, rfl⟩
      have hol : out.length ≤ i := by rw [← hout, List.length_map, List.length_take]; exact Nat.min_le_left _ _
      rw [hout] at HO HT
      clear hout
      have KB := Lib.hid (below_alloc (below_alloc (Below.refl wr.heap.size wr) (.cells #[.string x.key, .slice x.A x.ch.length x.c] 65)) (.cells #[.string x.key] 9))
      obtain ⟨v7, w7, hr7, ho7, hg7, -⟩ := run_app_rows (P := Try.prog) (base := w.heap.size) (W := (wr.alloc (.cells #[.string x.key, .slice x.A x.ch.length x.c] 65)).alloc (.cells #[.string x.key] 9)) (xs := out) 51 51 Try.underlying51 info_str rfl (by decide) (by decide) strC_len strC_one (HO.out.below KB.out) (c := 1) ((OwnF.one (base := 0) (f := strC) (x := x.key) (row_new (wr.alloc (.cells #[.string x.key, .slice x.A x.ch.length x.c] 65)) (.cells #[.string x.key] 9) (n := wr.heap.size + 1) (by simp)) (Nat.zero_le _) rfl rfl).row strC_len) (Nat.le_trans HB.out.size KB.out.size) (by clear hw; omega)
      have HB7 := Lib.hid ((HB.out.trans (KB.out.mono HB.out.size)).grown hg7 (Nat.le_trans HB.out.size KB.out.size) (fun q hq => (HO.out.block_ge q hq).1)); clear hg7
      obtain ⟨oA, oc, rfl, -⟩ := HO.out.slice_
      obtain ⟨A7, n7, c7, rfl⟩ : ∃ A m c, v7 = .slice A m c := by obtain ⟨A, c, e, _⟩ := ho7.slice_; exact ⟨_, _, _, e⟩
      have HO7 := Lib.hid ho7; clear ho7
      obtain ⟨on, hon⟩ : ∃ n, out.length = n := ⟨_, rfl⟩
      rw [hon] at hr7 HO ⊢
      clear hon hol
      go_wp2_with (at_builtin; refine wpl_app rfl (.tmp 15) (.tmp 18) 51 rfl rfl rfl hr7 ?_)
      go_roundw
      case rel => exact ⟨i + 1, by go_num, HLT.out, by rw [HT.out]; exact HO7, HB7⟩
      case measure => first | exact up_w HLT.out hw | exact up_n HLT.out
    · obtain rfl : i = m := by omega
      go_wp2
      go_ret
      exact ⟨_, rfl, by have := HO.out; rw [List.take_of_length_le (by rw [HM.out]; exact Nat.le_refl _)] at this; exact this, HB.out⟩
end Go.Proofs.Ytcnehponkgofiaa.My
