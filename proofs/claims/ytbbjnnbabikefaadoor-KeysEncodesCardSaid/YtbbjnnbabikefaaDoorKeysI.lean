/- isoglossref03.Encode; items compared. -/
import Derived.Test.YtbbjnnbabikefaaDoorKeysH
import Derived.Test.YtbbjnnbabikefaaDoorLawKO
namespace Go.Proofs.YtbbjnnbabikefaaDoor.My
set_option linter.unusedSimpArgs false
set_option linter.unusedVariables false
open Go.RowKit Go.Proofs.YtbbjnnbabikefaaDoorW.PrintWords Go.Proofs.YtbbjnnbabikefaaDoorW.PrintLast Go.Proofs.YtbbjnnbabikefaaDoor.Pm

theorem rbytes_any (x : IR) (w : World) (h : x.In) (ht : x.t.size ≤ 100) : Calls Tryd.prog 23 #[.agg x.arr] w fun e w' => e = .returned (.string (itemS x.p x.d)) ∧ Below w.heap.size w w' := by
  obtain ⟨k, i, u, t, d⟩ := x
  obtain ⟨hk, hi, hu⟩ := h
  simp only at hk hi hu ht
  unfold IR.p IR.arr
  simp only
  rcases (show k % 6 = 0 ∨ k % 6 = 1 ∨ k % 6 = 2 ∨ k % 6 = 3 ∨ k % 6 = 4 ∨ k % 6 = 5 by omega) with h | h | h | h | h | h
  all_goals
    simp only [h]
    cases d
  · exact bytes_0_false k u i t w h
  · exact bytes_0_true k u i t w h
  · exact bytes_1_false k u i t w h
  · exact bytes_1_true k u i t w h
  · exact bytes_2_false k u i t w h
  · exact bytes_2_true k u i t w h
  · exact bytes_3_false k u i t w h hi
  · exact bytes_3_true k u i t w h hi
  · exact bytes_4_false k u i t w h hu
  · exact bytes_4_true k u i t w h hu
  · exact bytes_5_false k u i t w h (by omega)
  · exact bytes_5_true k u i t w h (by omega)
set_option maxRecDepth 100000 in
set_option maxHeartbeats 4000000 in
theorem rEncode_any (A : Option Addr) (n c : Nat) (l : List IR) (w : World) (hA : RowF w 5 irC A n l) (hn : n ≤ 1000) (hi : ∀ x ∈ l, x.In) (ht : ∀ x ∈ l, x.t.size ≤ 100) :
    Calls Tryd.prog 16 #[.slice A n c] w fun e w' => e = .returned (.string (encL (l.map prX))) ∧ Below w.heap.size w w' := by
  have HA := Lib.hid hA; clear hA
  have HL := Lib.hid (And.intro hi ht)
  have OK := Lib.hid (oks hi ht); clear hi ht
  have IM := Lib.hid info_item5
  have HML := Lib.hid (show (l.map prX).length = n by rw [List.length_map]; exact HA.out.1)
  go_enter Tryd.func16, Tryd.ntmps16
  go_wp2
  go_loopw [3, 4] (fun u4 u11 wr => ∃ i : Nat, u4 = .string (encL ((l.map prX).take i)) ∧ u11 = .int .i64 i ∧ i ≤ n ∧ Below w.heap.size w wr) (fun _ u11 _ => n - (intOf u11).toNat)
  case atStart => exact ⟨0, rfl, rfl, Nat.zero_le _, Below.refl _ _⟩
  case round =>
    obtain ⟨i, rfl, rfl, hii, hb⟩ := hrel
    have HB := Lib.hid hb; clear hb
    by_cases hlt : i < n
    · have y1 : decide ((i : Int) < (n : Int)) = true := decide_eq_true (by omega)
      obtain ⟨bb, off, hj, rfl, hbW, hc⟩ := HA.out.get i hlt
      have hc1 := range_below hc HB.out hbW
      have hz := encL_size OK.out i (by rw [HML.out]; omega)
      have hjm : i < (l.map prX).length := by rw [HML.out]; exact hlt
      have HT := Lib.hid (encL_take hjm)
      rw [List.getElem_map] at HT
      have hz2 := itemS_size (OK.out _ (List.getElem_mem hjm))
      rw [List.getElem_map] at hz2
      have HBX := Lib.hid (fun W => show Calls Tryd.prog 23 #[.agg (irC l[i]).toArray] W fun e w' => e = .returned (.string (itemS l[i].p l[i].d)) ∧ Below W.heap.size W w' from rbytes_any l[i] W (HL.out.1 _ (List.getElem_mem hj)) (HL.out.2 _ (List.getElem_mem hj)))
      obtain ⟨x, hx⟩ : ∃ x, l[i] = x := ⟨_, rfl⟩
      rw [hx] at hc1 hz2 HT HBX
      simp only at hz2 HT
      have HC1 := Lib.hid hc1
      have hw := succ_w' hlt (show n ≤ 140737488351232 by omega)
      clear hc hc1 hx hbW hj hjm
      generalize encL ((l.map prX).take i) = E at *
      generalize itemS x.p x.d = S at *
      have zz : ¬ 9223372036854775807 < E.size + S.size := by clear hw; omega
      have hzz : E.size + S.size ≤ 140737488351232 := by clear hw; omega
      have HLT := Lib.hid hlt
      clear hz hz2
      go_wp2_with (first | refine wpList_load_part rfl 24 _ rfl bb (off + i * 5) rfl (irC x).toArray _ HC1.out Tryd.underlying24 rfl IM.out ?_ | fail)
      refine (HBX.out _).mono ?_
      rintro e w1 ⟨rfl, hb⟩
      replace HB := Lib.hid (HB.out.trans (hb.mono HB.out.size))
      go_wp2
      go_roundw
      case rel => exact ⟨i + 1, by rw [HT.out], by go_num, HLT.out, HB.out⟩
      case measure => first | exact kup_w HLT.out hw | exact kup_n HLT.out
    · obtain rfl : i = n := by omega
      have y1 : decide ((i : Int) < (i : Int)) = false := decide_eq_false (by omega)
      have e : (l.map prX).take i = l.map prX := List.take_of_length_le (by rw [HML.out]; exact Nat.le_refl _)
      rw [e]
      go_wp2
      go_ret
      exact ⟨rfl, HB.out⟩
theorem ba_refl (x : ByteArray) : (x == x) = true := by
  first | exact beq_iff_eq.2 rfl | (show (x.data == x.data) = true; simp) | (cases x; simp [BEq.beq])
theorem eq_val (p : PIt) (d : Nat) (W : World) : (Op.equalIn (d + 2) 20 p.val p.val).run Tryd.prog W = .ok true W := by
  cases p with
  | nul => kernel_rfl
  | boo b => cases b <;> kernel_rfl
  | i64 x =>
    have h : (Op.equalIn (d + 2) 20 (PIt.val (.i64 x)) (PIt.val (.i64 x))).run Tryd.prog W = .ok (x == x) W := by kernel_rfl
    rw [h, beq_self_eq_true]
  | u64 x =>
    have h : (Op.equalIn (d + 2) 20 (PIt.val (.u64 x)) (PIt.val (.u64 x))).run Tryd.prog W = .ok ((x : Int) == (x : Int)) W := by kernel_rfl
    rw [h, beq_self_eq_true]
  | str x =>
    have h : (Op.equalIn (d + 2) 20 (PIt.val (.str x)) (PIt.val (.str x))).run Tryd.prog W = .ok (x == x) W := by kernel_rfl
    rw [h, ba_refl]
theorem part_val (p : PIt) (W : World) : (part 20 #[p.val] 0).run Tryd.prog W = .ok p.val W := by cases p <;> kernel_rfl
theorem eq_down (p : PIt) (d : Nat) (W : World) : (Op.equalIn (d + 3) 41 (.agg #[p.val]) (.agg #[p.val])).run Tryd.prog W = .ok true W := by
  rw [Op.equalIn]
  simp [run_underlying Tryd.underlying41, eq_val, part_val]
theorem neq_item (p : PIt) (b : Bool) (W : World) : (binOp .neq 20 (itV p b) (itV p b)).run Tryd.prog W = .ok (.bool false) W := by
  have key : (Op.equal 20 (itV p b) (itV p b)).run Tryd.prog W = .ok true W := by
    cases b
    · exact eq_val p 9998 W
    · show (Op.equalIn (9999 + 1) 20 (.iface 41 (.agg #[p.val])) (.iface 41 (.agg #[p.val]))).run Tryd.prog W = _
      rw [Op.equalIn]
      have hc : Tryd.t41.comparable = true := by kernel_rfl
      simp [run_underlying Tryd.underlying20, eq_down p 9996, hc]
  have e : binOp .neq 20 (itV p b) (itV p b) = (Op.equal 20 (itV p b) (itV p b) >>= fun x => pure (.bool (!x))) := by cases b <;> cases p <;> rfl
  rw [e]
  simp [key]
end Go.Proofs.YtbbjnnbabikefaaDoor.My
