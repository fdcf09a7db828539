/- keys.one: a string; keys.item. -/
import Derived.Test.YtbbjnnbabikefaaDoorKeys2
namespace Go.Proofs.YtbbjnnbabikefaaDoor.My
set_option linter.unusedSimpArgs false
set_option linter.unusedVariables false
open Go.RowKit Go.Proofs.YtbbjnnbabikefaaDoorW.PrintWords Go.Proofs.YtbbjnnbabikefaaDoorW.PrintLast Go.Proofs.YtbbjnnbabikefaaDoor.Pm

/-- The library's variable that ReplaceAll reads has some number. -/
def Glob (w : World) : Prop := ∃ m : Int, w.cell? ⟨0, 0, none⟩ = some (.int .i64 m)
theorem Glob.lt {w : World} (h : Glob w) : 0 < w.heap.size := by
  obtain ⟨m, hm⟩ := h
  exact cell_block_lt hm
theorem Glob.below {w w1 : World} (h : Glob w) (hb : Below w.heap.size w w1) : Glob w1 := by
  obtain ⟨m, hm⟩ := h
  exact ⟨m, (hb.cell (p := ⟨0, 0, none⟩) (cell_block_lt hm)).trans hm⟩
theorem count0_le (s : ByteArray) : Go.Lib.countB s ⟨#[0]⟩ ≤ s.size := by
  show Go.Lib.count s.data.toList [0] ≤ s.size
  rw [Go.Lib.count_one]
  exact Nat.le_trans List.count_le_length (Nat.le_of_eq (bl_length s))
theorem repl_any (s : ByteArray) (w : World) (hs : s.size ≤ 1000000) (hg : Glob w) :
    Calls Tryd.prog 32 #[.string s, .string ⟨#[0]⟩, .string ⟨#[0, 255]⟩] w fun e w' => e = .returned (.string (escS s)) ∧ Below w.heap.size w w' := by
  obtain ⟨m, hm⟩ := hg
  have hc := count0_le s
  have h := Tryd.strings_ReplaceAll s ⟨#[0]⟩ ⟨#[0, 255]⟩ m w (by omega) hm (by decide) (by show s.size + Go.Lib.countB s ⟨#[0]⟩ * 2 ≤ _; omega)
  rw [show (⟨(Go.Lib.replaceAll s.data.toList (⟨#[0]⟩ : ByteArray).data.toList (⟨#[0, 255]⟩ : ByteArray).data.toList).toArray⟩ : ByteArray) = escS s from by unfold escS; rw [← repl_esc]] at h
  exact h
theorem escS_size (s : ByteArray) : (escS s).size ≤ 2 * s.size := by
  have h := escB_len (bl s)
  rw [bl_length] at h
  unfold escS
  show (escB (bl s)).toArray.size ≤ _
  rw [List.size_toArray]
  exact h
set_option maxRecDepth 100000 in
set_option maxHeartbeats 4000000 in
theorem one_str (s : ByteArray) (w : World) (hs : s.size ≤ 1000) (hg : Glob w) : Calls Tryd.prog 24 #[.iface 9 (.string s)] w fun e w' => e = .returned (.tuple #[.string (oneS (.str s)), .bool true]) ∧ Below w.heap.size w w' := by
  have HG := Lib.hid hg; clear hg
  have HF := Lib.hid (fun W (hg : Glob W) => repl_any s W (by omega) hg)
  have hz := escS_size s
  have HS := Lib.hid (show oneS (.str s) = ⟨#[80]⟩ ++ escS s ++ ⟨#[0, 0]⟩ from rfl)
  generalize escS s = E at *
  have zz1 : ¬ 9223372036854775807 < (⟨#[80]⟩ : ByteArray).size + E.size := by show ¬ 9223372036854775807 < 1 + E.size; omega
  have zz2 : ¬ 9223372036854775807 < 1 + E.size := zz1
  have zz3 : ¬ 9223372036854775807 < (⟨#[80]⟩ ++ E : ByteArray).size + (⟨#[0, 0]⟩ : ByteArray).size := by rw [ByteArray.size_append]; show ¬ 9223372036854775807 < 1 + E.size + 2; omega
  have zz4 : ¬ 9223372036854775807 < (⟨#[80]⟩ : ByteArray).size + E.size + (⟨#[0, 0]⟩ : ByteArray).size := by show ¬ 9223372036854775807 < 1 + E.size + 2; omega
  have zz5 : ¬ 9223372036854775807 < 1 + E.size + 2 := zz4
  have zz6 : ¬ 9223372036854775807 < (⟨#[80]⟩ ++ E : ByteArray).size + 2 := zz3
  clear hz hs
  have ta_bool : ∀ W : World, (Instr.typeAssert (.iface 9 (.string s)) 20 4 true).run Tryd.prog W = .ok (.tuple #[.bool false, .bool false]) W := fun _ => by kernel_rfl
  have ta_int64 : ∀ W : World, (Instr.typeAssert (.iface 9 (.string s)) 20 2 true).run Tryd.prog W = .ok (.tuple #[.int .i64 0, .bool false]) W := fun _ => by kernel_rfl
  have ta_uint64 : ∀ W : World, (Instr.typeAssert (.iface 9 (.string s)) 20 22 true).run Tryd.prog W = .ok (.tuple #[.int .u64 0, .bool false]) W := fun _ => by kernel_rfl
  have ta_string : ∀ W : World, (Instr.typeAssert (.iface 9 (.string s)) 20 9 true).run Tryd.prog W = .ok (.tuple #[.string s, .bool true]) W := fun _ => by kernel_rfl
  go_enter Tryd.func24, Tryd.ntmps24
  go_wp2
  refine start_ (n := 8) (S := fun w' => Below w.heap.size w w') (ds := []) #[false, false, false, false, false, false, false, false] (by kernel_rfl) rfl rfl ((below_drew (Below.refl _ _))) (fun hHeld => ?_)
  refine pure_ (i := 2) (N := some 44) (v := ?_) (a' := ?_) #[false, false, true, false, false, false, false, false] rfl rfl (by kernel_rfl) (fun _ _ _ h => h) (Or.inl ⟨by rfl, ?_⟩) ?_ ?_
  rotate_left
  · intro w'
    go_simp
    with_reducible rfl
  rotate_left
  · simp only [Act.put, List.setIfInBounds_toArray, List.set_cons_zero, List.set_cons_succ, i64_w, i32_w]
    rfl
  refine join_ (σ := Nat) 4 #[true, true, true, true, false, false, false, false] (fun s => [(42, .slice (some ⟨s, 0, none⟩) 1 1), (43, .string ⟨#[80]⟩), (45, .string E)]) (fun s w' => Below w.heap.size w w') ?_ ?_
  rotate_left
  · intro hCont
    refine two_ (i := 0) (j := 3) (Ni := some 42) (Nj := some 45) #[true, false, true, false, false, false, false, false] #[false, false, true, true, false, false, false, false] rfl rfl rfl rfl (by kernel_rfl) (by decide) (by decide) (fun K hK => ?_) (fun K hK => ?_)
    · skip
      refine value_ (w1 := ?_) (v := ?_) (by rfl) rfl ?_ ?_
      rotate_left 2
      · go_simp
        constructor
        · rfl
        · rfl
      have HN := Lib.hid (hHeld.alloc hHeld.size (.cells #[.int .u8 80] 5))
      have H24 := Lib.hid (blk_new w.drew (.cells #[.int .u8 80] 5))
      refine hK.out _ _ (HN.out) (fun hHeld => ?_)
      clear hK K
      refine norm_ (a' := ?_) ?_ ?_
      rotate_left
      · show Act.put _ (some 42) _ = _
        simp only [Act.put, List.setIfInBounds_toArray, List.set_cons_zero, List.set_cons_succ, i64_w, i32_w]
        rfl
      refine two_ (i := 1) (j := 3) (Ni := some 43) (Nj := some 45) #[true, true, true, false, false, false, false, false] #[true, false, true, true, false, false, false, false] rfl rfl rfl rfl (by kernel_rfl) (by decide) (by decide) (fun K hK => ?_) (fun K hK => ?_)
      · skip
        have hcv : (convert 39 9 (.slice (some ⟨w.heap.size, 0, none⟩) 1 1)).run Tryd.prog ((w.alloc (.cells #[.int .u8 80] 5)).drew) = .ok (.string ⟨#[80]⟩) ((w.alloc (.cells #[.int .u8 80] 5)).drew) := byte_at (x := 80) H24.out (by decide)
        refine value_ (w1 := ?_) (v := ?_) (by rfl) rfl ?_ ?_
        rotate_left 2
        · go_simp
          constructor
          · rfl
          · rfl
        refine hK.out _ _ (hHeld) (fun hHeld => ?_)
        clear hK K
        refine norm_ (a' := ?_) ?_ ?_
        rotate_left
        · show Act.put _ (some 43) _ = _
          simp only [Act.put, List.setIfInBounds_toArray, List.set_cons_zero, List.set_cons_succ, i64_w, i32_w]
          rfl
        refine one_ (i := 3) (N := some 45) #[true, true, true, true, false, false, false, false] rfl rfl (by kernel_rfl) (by decide) (fun K hK => ?_)
        refine goes_ Tryd.func32 (by kernel_rfl) rfl #[.string s, .string ⟨#[0]⟩, .string ⟨#[0, 255]⟩] (by rfl) rfl rfl (by (try simp only [List.map_toArray, List.map_cons, List.map_nil]); first | done | rfl) ?_
        with_reducible refine ((HF.out _ (HG.out.below hHeld))).mono ?_
        rintro e w5 ⟨rfl, hb5⟩
        refine ⟨_, rfl, ?_⟩
        have HN := Lib.hid (hHeld.trans (hb5.mono hHeld.size))
        replace H24 := Lib.hid (blk_below H24.out hb5)
        refine hK.out _ _ (HN.out) (fun hHeld => ?_)
        clear hK K
        refine norm_ (a' := ?_) ?_ ?_
        rotate_left
        · show Act.put _ (some 45) _ = _
          simp only [Act.put, List.setIfInBounds_toArray, List.set_cons_zero, List.set_cons_succ, i64_w, i32_w]
          rfl
        exact norm_ (by simp only [putAll, Act.put, List.setIfInBounds_toArray, List.set_cons_zero, List.set_cons_succ]) (hCont w.heap.size _ hHeld)
      · skip
        refine goes_ Tryd.func32 (by kernel_rfl) rfl #[.string s, .string ⟨#[0]⟩, .string ⟨#[0, 255]⟩] (by rfl) rfl rfl (by (try simp only [List.map_toArray, List.map_cons, List.map_nil]); first | done | rfl) ?_
        with_reducible refine ((HF.out _ (HG.out.below hHeld))).mono ?_
        rintro e w5 ⟨rfl, hb5⟩
        refine ⟨_, rfl, ?_⟩
        have HN := Lib.hid (hHeld.trans (hb5.mono hHeld.size))
        replace H24 := Lib.hid (blk_below H24.out hb5)
        refine hK.out _ _ (HN.out) (fun hHeld => ?_)
        clear hK K
        refine norm_ (a' := ?_) ?_ ?_
        rotate_left
        · show Act.put _ (some 45) _ = _
          simp only [Act.put, List.setIfInBounds_toArray, List.set_cons_zero, List.set_cons_succ, i64_w, i32_w]
          rfl
        refine one_ (i := 1) (N := some 43) #[true, true, true, true, false, false, false, false] rfl rfl (by kernel_rfl) (by decide) (fun K hK => ?_)
        have hcv : (convert 39 9 (.slice (some ⟨w.heap.size, 0, none⟩) 1 1)).run Tryd.prog w5 = .ok (.string ⟨#[80]⟩) w5 := byte_at (x := 80) H24.out (by decide)
        refine value_ (w1 := ?_) (v := ?_) (by rfl) rfl ?_ ?_
        rotate_left 2
        · go_simp
          constructor
          · rfl
          · rfl
        refine hK.out _ _ (hHeld) (fun hHeld => ?_)
        clear hK K
        refine norm_ (a' := ?_) ?_ ?_
        rotate_left
        · show Act.put _ (some 43) _ = _
          simp only [Act.put, List.setIfInBounds_toArray, List.set_cons_zero, List.set_cons_succ, i64_w, i32_w]
          rfl
        exact norm_ (by simp only [putAll, Act.put, List.setIfInBounds_toArray, List.set_cons_zero, List.set_cons_succ]) (hCont w.heap.size _ hHeld)
    · skip
      refine goes_ Tryd.func32 (by kernel_rfl) rfl #[.string s, .string ⟨#[0]⟩, .string ⟨#[0, 255]⟩] (by rfl) rfl rfl (by (try simp only [List.map_toArray, List.map_cons, List.map_nil]); first | done | rfl) ?_
      with_reducible refine ((HF.out _ (HG.out.below hHeld))).mono ?_
      rintro e w5 ⟨rfl, hb5⟩
      refine ⟨_, rfl, ?_⟩
      have HN := Lib.hid (hHeld.trans (hb5.mono hHeld.size))
      refine hK.out _ _ (HN.out) (fun hHeld => ?_)
      clear hK K
      refine norm_ (a' := ?_) ?_ ?_
      rotate_left
      · show Act.put _ (some 45) _ = _
        simp only [Act.put, List.setIfInBounds_toArray, List.set_cons_zero, List.set_cons_succ, i64_w, i32_w]
        rfl
      refine one_ (i := 0) (N := some 42) #[true, false, true, true, false, false, false, false] rfl rfl (by kernel_rfl) (by decide) (fun K hK => ?_)
      refine value_ (w1 := ?_) (v := ?_) (by rfl) rfl ?_ ?_
      rotate_left 2
      · go_simp
        constructor
        · rfl
        · rfl
      have HN := Lib.hid (hHeld.alloc hHeld.size (.cells #[.int .u8 80] 5))
      have H24 := Lib.hid (blk_new w5 (.cells #[.int .u8 80] 5))
      refine hK.out _ _ (HN.out) (fun hHeld => ?_)
      clear hK K
      refine norm_ (a' := ?_) ?_ ?_
      rotate_left
      · show Act.put _ (some 42) _ = _
        simp only [Act.put, List.setIfInBounds_toArray, List.set_cons_zero, List.set_cons_succ, i64_w, i32_w]
        rfl
      refine one_ (i := 1) (N := some 43) #[true, true, true, true, false, false, false, false] rfl rfl (by kernel_rfl) (by decide) (fun K hK => ?_)
      have hcv : (convert 39 9 (.slice (some ⟨w5.heap.size, 0, none⟩) 1 1)).run Tryd.prog (w5.alloc (.cells #[.int .u8 80] 5)) = .ok (.string ⟨#[80]⟩) (w5.alloc (.cells #[.int .u8 80] 5)) := byte_at (x := 80) H24.out (by decide)
      refine value_ (w1 := ?_) (v := ?_) (by rfl) rfl ?_ ?_
      rotate_left 2
      · go_simp
        constructor
        · rfl
        · rfl
      refine hK.out _ _ (hHeld) (fun hHeld => ?_)
      clear hK K
      refine norm_ (a' := ?_) ?_ ?_
      rotate_left
      · show Act.put _ (some 43) _ = _
        simp only [Act.put, List.setIfInBounds_toArray, List.set_cons_zero, List.set_cons_succ, i64_w, i32_w]
        rfl
      exact norm_ (by simp only [putAll, Act.put, List.setIfInBounds_toArray, List.set_cons_zero, List.set_cons_succ]) (hCont w5.heap.size _ hHeld)
  rintro g24 w9 hHeld
  refine norm_ (a' := ?_) ?_ ?_
  rotate_left
  · simp only [putAll, Act.put, List.setIfInBounds_toArray, List.set_cons_zero, List.set_cons_succ]
    rfl
  refine pure_ (i := 4) (N := some 46) (v := ?_) (a' := ?_) #[true, true, true, true, true, false, false, false] rfl rfl (by kernel_rfl) (fun _ _ _ h => h) (Or.inl ⟨by rfl, ?_⟩) ?_ ?_
  rotate_left
  · intro w'
    go_simp
    with_reducible rfl
  rotate_left
  · simp only [Act.put, List.setIfInBounds_toArray, List.set_cons_zero, List.set_cons_succ, i64_w, i32_w]
    rfl
  refine pure_ (i := 5) (N := some 47) (v := ?_) (a' := ?_) #[true, true, true, true, true, true, false, false] rfl rfl (by kernel_rfl) (fun _ _ _ h => h) (Or.inl ⟨by rfl, ?_⟩) ?_ ?_
  rotate_left
  · intro w'
    go_simp
    with_reducible rfl
  rotate_left
  · simp only [Act.put, List.setIfInBounds_toArray, List.set_cons_zero, List.set_cons_succ, i64_w, i32_w]
    rfl
  refine pure_ (i := 6) (N := some 2) (v := ?_) (a' := ?_) #[true, true, true, true, true, true, true, false] rfl rfl (by kernel_rfl) (fun _ _ _ h => h) (Or.inl ⟨by rfl, ?_⟩) ?_ ?_
  rotate_left
  · intro w'
    go_simp
    with_reducible rfl
  rotate_left
  · simp only [Act.put, List.setIfInBounds_toArray, List.set_cons_zero, List.set_cons_succ, i64_w, i32_w]
    rfl
  refine pure_ (i := 7) (N := some 3) (v := ?_) (a' := ?_) #[true, true, true, true, true, true, true, true] rfl rfl (by kernel_rfl) (fun _ _ _ h => h) (Or.inl ⟨by rfl, ?_⟩) ?_ ?_
  rotate_left
  · intro w'
    go_simp
    with_reducible rfl
  rotate_left
  · simp only [Act.put, List.setIfInBounds_toArray, List.set_cons_zero, List.set_cons_succ, i64_w, i32_w]
    rfl
  refine done_ (by kernel_rfl) ?_

  go_wp2
  first | go_ret2 | go_ret
  exact ⟨by rw [HS.out]; rfl, hHeld⟩
theorem one_any (p : PIt) (w : World) (hp : p.ok) (hg : Glob w) : Calls Tryd.prog 24 #[p.val] w fun e w' => e = .returned (.tuple #[.string (oneS p), .bool true]) ∧ Below w.heap.size w w' := by
  cases p with
  | nul => exact one_nul w
  | boo b => cases b with
    | true => exact one_yes w
    | false => exact one_no w
  | i64 x => exact one_i64 x w hp
  | u64 n => exact one_u64 n w
  | str s => exact one_str s w hp hg
def itV (p : PIt) (d : Bool) : Value := if d then .iface 41 (.agg #[p.val]) else p.val
def itemS (p : PIt) (d : Bool) : ByteArray := if d then notB (oneS p) else oneS p
theorem oneS_size {p : PIt} (h : p.ok) : (oneS p).size ≤ 2003 := by
  cases p with
  | nul => decide
  | boo b => cases b <;> decide
  | i64 x =>
    show ((⟨#[48]⟩ : ByteArray) ++ fixedS (x + 9223372036854775808) 8 true).size ≤ 2003
    rw [ByteArray.size_append, fixed8_size]
    decide
  | u64 n =>
    show ((⟨#[64]⟩ : ByteArray) ++ fixedS (n : Int) 8 true).size ≤ 2003
    rw [ByteArray.size_append, fixed8_size]
    decide
  | str s =>
    have := escS_size s
    have h : s.size ≤ 1000 := h
    show ((⟨#[80]⟩ : ByteArray) ++ escS s ++ ⟨#[0, 0]⟩).size ≤ 2003
    rw [ByteArray.size_append, ByteArray.size_append]
    show 1 + (escS s).size + 2 ≤ 2003
    omega
set_option maxRecDepth 100000 in
set_option maxHeartbeats 4000000 in
theorem item_down_nul (w : World) (hp : PIt.ok (.nul)) (hg : Glob w) : Calls Tryd.prog 17 #[.iface 41 (.agg #[.nilIface])] w fun e w' => e = .returned (.tuple #[.string (notB (oneS (.nul))), .bool true]) ∧ Below w.heap.size w w' := by
  have HO := Lib.hid (fun W (hg : Glob W) => (show Calls Tryd.prog 24 #[.nilIface] W fun e w' => e = .returned (.tuple #[.string (oneS (.nul)), .bool true]) ∧ Below W.heap.size W w' from one_any (.nul) W hp hg))
  have HT := Lib.hid (fun W => turned_any (oneS (.nul)) W (Nat.le_trans (oneS_size hp) (by decide)))
  have HG := Lib.hid hg; clear hg hp
  generalize oneS (.nul) = S at *
  have tb : ∀ W : World, (Instr.typeAssert (.iface 41 (.agg #[.nilIface])) 20 41 true).run Tryd.prog W = .ok (.tuple #[.agg #[.nilIface], .bool true]) W := fun _ => by kernel_rfl
  have hta := tb w
  clear tb
  have HB := Lib.hid (below_alloc (Below.refl w.heap.size w) (.cells #[.nilIface] 41))
  go_enter Tryd.func17, Tryd.ntmps17
  go_wp2_with fail
  refine (HO.out _ (HG.out.below HB.out)).mono ?_
  rintro e w1 ⟨rfl, hb⟩
  replace HB := Lib.hid (HB.out.trans (hb.mono HB.out.size))
  go_wp2_with fail
  refine (HT.out _).mono ?_
  rintro e w2 ⟨rfl, hb⟩
  replace HB := Lib.hid (HB.out.trans (hb.mono HB.out.size))
  go_wp2
  first | go_ret2 | go_ret
  exact ⟨rfl, HB.out⟩
set_option maxRecDepth 100000 in
set_option maxHeartbeats 4000000 in
theorem item_down_boo (b : Bool) (w : World) (hp : PIt.ok (.boo b)) (hg : Glob w) : Calls Tryd.prog 17 #[.iface 41 (.agg #[.iface 4 (.bool b)])] w fun e w' => e = .returned (.tuple #[.string (notB (oneS (.boo b))), .bool true]) ∧ Below w.heap.size w w' := by
  have HO := Lib.hid (fun W (hg : Glob W) => (show Calls Tryd.prog 24 #[.iface 4 (.bool b)] W fun e w' => e = .returned (.tuple #[.string (oneS (.boo b)), .bool true]) ∧ Below W.heap.size W w' from one_any (.boo b) W hp hg))
  have HT := Lib.hid (fun W => turned_any (oneS (.boo b)) W (Nat.le_trans (oneS_size hp) (by decide)))
  have HG := Lib.hid hg; clear hg hp
  generalize oneS (.boo b) = S at *
  have tb : ∀ W : World, (Instr.typeAssert (.iface 41 (.agg #[.iface 4 (.bool b)])) 20 41 true).run Tryd.prog W = .ok (.tuple #[.agg #[.iface 4 (.bool b)], .bool true]) W := fun _ => by kernel_rfl
  have hta := tb w
  clear tb
  have HB := Lib.hid (below_alloc (Below.refl w.heap.size w) (.cells #[.iface 4 (.bool b)] 41))
  go_enter Tryd.func17, Tryd.ntmps17
  go_wp2_with fail
  refine (HO.out _ (HG.out.below HB.out)).mono ?_
  rintro e w1 ⟨rfl, hb⟩
  replace HB := Lib.hid (HB.out.trans (hb.mono HB.out.size))
  go_wp2_with fail
  refine (HT.out _).mono ?_
  rintro e w2 ⟨rfl, hb⟩
  replace HB := Lib.hid (HB.out.trans (hb.mono HB.out.size))
  go_wp2
  first | go_ret2 | go_ret
  exact ⟨rfl, HB.out⟩
set_option maxRecDepth 100000 in
set_option maxHeartbeats 4000000 in
theorem item_down_i64 (x : Int) (w : World) (hp : PIt.ok (.i64 x)) (hg : Glob w) : Calls Tryd.prog 17 #[.iface 41 (.agg #[.iface 2 (.int .i64 x)])] w fun e w' => e = .returned (.tuple #[.string (notB (oneS (.i64 x))), .bool true]) ∧ Below w.heap.size w w' := by
  have HO := Lib.hid (fun W (hg : Glob W) => (show Calls Tryd.prog 24 #[.iface 2 (.int .i64 x)] W fun e w' => e = .returned (.tuple #[.string (oneS (.i64 x)), .bool true]) ∧ Below W.heap.size W w' from one_any (.i64 x) W hp hg))
  have HT := Lib.hid (fun W => turned_any (oneS (.i64 x)) W (Nat.le_trans (oneS_size hp) (by decide)))
  have HG := Lib.hid hg; clear hg hp
  generalize oneS (.i64 x) = S at *
  have tb : ∀ W : World, (Instr.typeAssert (.iface 41 (.agg #[.iface 2 (.int .i64 x)])) 20 41 true).run Tryd.prog W = .ok (.tuple #[.agg #[.iface 2 (.int .i64 x)], .bool true]) W := fun _ => by kernel_rfl
  have hta := tb w
  clear tb
  have HB := Lib.hid (below_alloc (Below.refl w.heap.size w) (.cells #[.iface 2 (.int .i64 x)] 41))
  go_enter Tryd.func17, Tryd.ntmps17
  go_wp2_with fail
  refine (HO.out _ (HG.out.below HB.out)).mono ?_
  rintro e w1 ⟨rfl, hb⟩
  replace HB := Lib.hid (HB.out.trans (hb.mono HB.out.size))
  go_wp2_with fail
  refine (HT.out _).mono ?_
  rintro e w2 ⟨rfl, hb⟩
  replace HB := Lib.hid (HB.out.trans (hb.mono HB.out.size))
  go_wp2
  first | go_ret2 | go_ret
  exact ⟨rfl, HB.out⟩
set_option maxRecDepth 100000 in
set_option maxHeartbeats 4000000 in
theorem item_down_u64 (n : Nat) (w : World) (hp : PIt.ok (.u64 n)) (hg : Glob w) : Calls Tryd.prog 17 #[.iface 41 (.agg #[.iface 22 (.int .u64 (n : Int))])] w fun e w' => e = .returned (.tuple #[.string (notB (oneS (.u64 n))), .bool true]) ∧ Below w.heap.size w w' := by
  have HO := Lib.hid (fun W (hg : Glob W) => (show Calls Tryd.prog 24 #[.iface 22 (.int .u64 (n : Int))] W fun e w' => e = .returned (.tuple #[.string (oneS (.u64 n)), .bool true]) ∧ Below W.heap.size W w' from one_any (.u64 n) W hp hg))
  have HT := Lib.hid (fun W => turned_any (oneS (.u64 n)) W (Nat.le_trans (oneS_size hp) (by decide)))
  have HG := Lib.hid hg; clear hg hp
  generalize oneS (.u64 n) = S at *
  have tb : ∀ W : World, (Instr.typeAssert (.iface 41 (.agg #[.iface 22 (.int .u64 (n : Int))])) 20 41 true).run Tryd.prog W = .ok (.tuple #[.agg #[.iface 22 (.int .u64 (n : Int))], .bool true]) W := fun _ => by kernel_rfl
  have hta := tb w
  clear tb
  have HB := Lib.hid (below_alloc (Below.refl w.heap.size w) (.cells #[.iface 22 (.int .u64 (n : Int))] 41))
  go_enter Tryd.func17, Tryd.ntmps17
  go_wp2_with fail
  refine (HO.out _ (HG.out.below HB.out)).mono ?_
  rintro e w1 ⟨rfl, hb⟩
  replace HB := Lib.hid (HB.out.trans (hb.mono HB.out.size))
  go_wp2_with fail
  refine (HT.out _).mono ?_
  rintro e w2 ⟨rfl, hb⟩
  replace HB := Lib.hid (HB.out.trans (hb.mono HB.out.size))
  go_wp2
  first | go_ret2 | go_ret
  exact ⟨rfl, HB.out⟩
set_option maxRecDepth 100000 in
set_option maxHeartbeats 4000000 in
theorem item_down_str (s : ByteArray) (w : World) (hp : PIt.ok (.str s)) (hg : Glob w) : Calls Tryd.prog 17 #[.iface 41 (.agg #[.iface 9 (.string s)])] w fun e w' => e = .returned (.tuple #[.string (notB (oneS (.str s))), .bool true]) ∧ Below w.heap.size w w' := by
  have HO := Lib.hid (fun W (hg : Glob W) => (show Calls Tryd.prog 24 #[.iface 9 (.string s)] W fun e w' => e = .returned (.tuple #[.string (oneS (.str s)), .bool true]) ∧ Below W.heap.size W w' from one_any (.str s) W hp hg))
  have HT := Lib.hid (fun W => turned_any (oneS (.str s)) W (Nat.le_trans (oneS_size hp) (by decide)))
  have HG := Lib.hid hg; clear hg hp
  generalize oneS (.str s) = S at *
  have tb : ∀ W : World, (Instr.typeAssert (.iface 41 (.agg #[.iface 9 (.string s)])) 20 41 true).run Tryd.prog W = .ok (.tuple #[.agg #[.iface 9 (.string s)], .bool true]) W := fun _ => by kernel_rfl
  have hta := tb w
  clear tb
  have HB := Lib.hid (below_alloc (Below.refl w.heap.size w) (.cells #[.iface 9 (.string s)] 41))
  go_enter Tryd.func17, Tryd.ntmps17
  go_wp2_with fail
  refine (HO.out _ (HG.out.below HB.out)).mono ?_
  rintro e w1 ⟨rfl, hb⟩
  replace HB := Lib.hid (HB.out.trans (hb.mono HB.out.size))
  go_wp2_with fail
  refine (HT.out _).mono ?_
  rintro e w2 ⟨rfl, hb⟩
  replace HB := Lib.hid (HB.out.trans (hb.mono HB.out.size))
  go_wp2
  first | go_ret2 | go_ret
  exact ⟨rfl, HB.out⟩
set_option maxRecDepth 100000 in
set_option maxHeartbeats 4000000 in
theorem item_plain (p : PIt) (w : World) (hp : p.ok) (hg : Glob w) : Calls Tryd.prog 17 #[p.val] w fun e w' => e = .returned (.tuple #[.string (oneS p), .bool true]) ∧ Below w.heap.size w w' := by
  have HO := Lib.hid (fun W (hg : Glob W) => one_any p W hp hg)
  have HG := Lib.hid hg; clear hg
  have ta : ∀ W : World, (Instr.typeAssert p.val 20 41 true).run Tryd.prog W = .ok (.tuple #[.agg #[.nilIface], .bool false]) W := by
    intro W
    cases p <;> kernel_rfl
  generalize p.val = V at *
  generalize oneS p = S at *
  have HB := Lib.hid (below_alloc (Below.refl w.heap.size w) (.cells #[.nilIface] 41))
  have hta := ta w
  clear ta
  go_enter Tryd.func17, Tryd.ntmps17
  go_wp2_with fail
  refine (HO.out _ (HG.out.below HB.out)).mono ?_
  rintro e w1 ⟨rfl, hb⟩
  replace HB := Lib.hid (HB.out.trans (hb.mono HB.out.size))
  go_wp2
  first | go_ret2 | go_ret
  exact ⟨rfl, HB.out⟩
theorem item_any (p : PIt) (d : Bool) (w : World) (hp : p.ok) (hg : Glob w) : Calls Tryd.prog 17 #[itV p d] w fun e w' => e = .returned (.tuple #[.string (itemS p d), .bool true]) ∧ Below w.heap.size w w' := by
  cases d with
  | false => exact item_plain p w hp hg
  | true =>
    cases p with
    | nul => exact item_down_nul w hp hg
    | boo b => exact item_down_boo b w hp hg
    | i64 x => exact item_down_i64 x w hp hg
    | u64 n => exact item_down_u64 n w hp hg
    | str s => exact item_down_str s w hp hg
end Go.Proofs.YtbbjnnbabikefaaDoor.My
