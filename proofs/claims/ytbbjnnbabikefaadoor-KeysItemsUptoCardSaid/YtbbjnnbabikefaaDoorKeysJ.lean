/- keys: what is no item. -/
import Derived.Test.YtbbjnnbabikefaaDoorKeysA
namespace Go.Proofs.YtbbjnnbabikefaaDoor.My
set_option linter.unusedSimpArgs false
set_option linter.unusedVariables false
open Go.RowKit Go.Proofs.YtbbjnnbabikefaaDoorW.PrintWords Go.Proofs.YtbbjnnbabikefaaDoorW.PrintLast Go.Proofs.YtbbjnnbabikefaaDoor.Pm

theorem repl_anyB (s : ByteArray) (w : World) (hs : s.size ≤ 4000000) (hg : Glob w) :
    Calls Tryd.prog 32 #[.string s, .string ⟨#[0]⟩, .string ⟨#[0, 255]⟩] w fun e w' => e = .returned (.string (escS s)) ∧ Below w.heap.size w w' := by
  obtain ⟨m, hm⟩ := hg
  have hc := count0_le s
  have h := Tryd.strings_ReplaceAll s ⟨#[0]⟩ ⟨#[0, 255]⟩ m w (by omega) hm (by decide) (by show s.size + Go.Lib.countB s ⟨#[0]⟩ * 2 ≤ _; omega)
  rw [show (⟨(Go.Lib.replaceAll s.data.toList (⟨#[0]⟩ : ByteArray).data.toList (⟨#[0, 255]⟩ : ByteArray).data.toList).toArray⟩ : ByteArray) = escS s from by unfold escS; rw [← repl_esc]] at h
  exact h
set_option maxRecDepth 100000 in
set_option maxHeartbeats 4000000 in
theorem one_strB (s : ByteArray) (w : World) (hs : s.size ≤ 4000000) (hg : Glob w) : Calls Tryd.prog 24 #[.iface 9 (.string s)] w fun e w' => e = .returned (.tuple #[.string (oneS (.str s)), .bool true]) ∧ Below w.heap.size w w' := by
  have HG := Lib.hid hg; clear hg
  have HF := Lib.hid (fun W (hg : Glob W) => repl_anyB s W (by omega) hg)
  have hz := escS_size s
  have HS := Lib.hid (show oneS (.str s) = ⟨#[80]⟩ ++ escS s ++ ⟨#[0, 0]⟩ from rfl)
  generalize escS s = E at *
  have zz1 : ¬ 9223372036854775807 < (⟨#[80]⟩ : ByteArray).size + E.size := by show ¬ 9223372036854775807 < 1 + E.size; omega
  have zz2 : ¬ 9223372036854775807 < 1 + E.size := zz1
  have zz3 : ¬ 9223372036854775807 < (⟨#[80]⟩ ++ E : ByteArray).size + (⟨#[0, 0]⟩ : ByteArray).size := by rw [ByteArray.size_append]; show ¬ 9223372036854775807 < 1 + E.size + 2; omega
  have zz4 : ¬ 9223372036854775807 < (⟨#[80]⟩ : ByteArray).size + E.size + (⟨#[0, 0]⟩ : ByteArray).size := by show ¬ 9223372036854775807 < 1 + E.size + 2; omega
  have zz5 : ¬ 9223372036854775807 < 1 + E.size + 2 := zz4
  have zz6 : ¬ 9223372036854775807 < (⟨#[80]⟩ ++ E : ByteArray).size + 2 := zz3
  clear hz hs
  have ta_bool : ∀ W : World, (Instr.typeAssert (.iface 9 (.string s)) 20 4 true).run Tryd.prog W = .ok (.tuple #[.bool false, .bool false]) W := fun _ => by kernel_rfl
  have ta_int64 : ∀ W : World, (Instr.typeAssert (.iface 9 (.string s)) 20 2 true).run Tryd.prog W = .ok (.tuple #[.int .i64 0, .bool false]) W := fun _ => by kernel_rfl
  have ta_uint64 : ∀ W : World, (Instr.typeAssert (.iface 9 (.string s)) 20 22 true).run Tryd.prog W = .ok (.tuple #[.int .u64 0, .bool false]) W := fun _ => by kernel_rfl
  have ta_string : ∀ W : World, (Instr.typeAssert (.iface 9 (.string s)) 20 9 true).run Tryd.prog W = .ok (.tuple #[.string s, .bool true]) W := fun _ => by kernel_rfl
  go_enter Tryd.func24, Tryd.ntmps24
  go_wp2
  refine start_ (n := 8) (S := fun w' => Below w.heap.size w w') (ds := []) #[false, false, false, false, false, false, false, false] (by kernel_rfl) rfl rfl ((below_drew (Below.refl _ _))) (fun hHeld => ?_)
  refine pure_ (i := 2) (N := some 44) (v := ?_) (a' := ?_) #[false, false, true, false, false, false, false, false] rfl rfl (by kernel_rfl) (fun _ _ _ h => h) (Or.inl ⟨by rfl, ?_⟩) ?_ ?_
  rotate_left
  · intro w'
    go_simp
    with_reducible rfl
  rotate_left
  · simp only [Act.put, List.setIfInBounds_toArray, List.set_cons_zero, List.set_cons_succ, i64_w, i32_w]
    rfl
  refine join_ (σ := Nat) 4 #[true, true, true, true, false, false, false, false] (fun s => [(42, .slice (some ⟨s, 0, none⟩) 1 1), (43, .string ⟨#[80]⟩), (45, .string E)]) (fun s w' => Below w.heap.size w w') ?_ ?_
  rotate_left
  · intro hCont
    refine two_ (i := 0) (j := 3) (Ni := some 42) (Nj := some 45) #[true, false, true, false, false, false, false, false] #[false, false, true, true, false, false, false, false] rfl rfl rfl rfl (by kernel_rfl) (by decide) (by decide) (fun K hK => ?_) (fun K hK => ?_)
    · skip
      refine value_ (w1 := ?_) (v := ?_) (by rfl) rfl ?_ ?_
      rotate_left 2
      · go_simp
        constructor
        · rfl
        · rfl
      have HN := Lib.hid (hHeld.alloc hHeld.size (.cells #[.int .u8 80] 5))
      have H24 := Lib.hid (blk_new w.drew (.cells #[.int .u8 80] 5))
      refine hK.out _ _ (HN.out) (fun hHeld => ?_)
      clear hK K
      refine norm_ (a' := ?_) ?_ ?_
      rotate_left
      · show Act.put _ (some 42) _ = _
        simp only [Act.put, List.setIfInBounds_toArray, List.set_cons_zero, List.set_cons_succ, i64_w, i32_w]
        rfl
      refine two_ (i := 1) (j := 3) (Ni := some 43) (Nj := some 45) #[true, true, true, false, false, false, false, false] #[true, false, true, true, false, false, false, false] rfl rfl rfl rfl (by kernel_rfl) (by decide) (by decide) (fun K hK => ?_) (fun K hK => ?_)
      · skip
        have hcv : (convert 39 9 (.slice (some ⟨w.heap.size, 0, none⟩) 1 1)).run Tryd.prog ((w.alloc (.cells #[.int .u8 80] 5)).drew) = .ok (.string ⟨#[80]⟩) ((w.alloc (.cells #[.int .u8 80] 5)).drew) := byte_at (x := 80) H24.out (by decide)
        refine value_ (w1 := ?_) (v := ?_) (by rfl) rfl ?_ ?_
        rotate_left 2
        · go_simp
          constructor
          · rfl
          · rfl
        refine hK.out _ _ (hHeld) (fun hHeld => ?_)
        clear hK K
        refine norm_ (a' := ?_) ?_ ?_
        rotate_left
        · show Act.put _ (some 43) _ = _
          simp only [Act.put, List.setIfInBounds_toArray, List.set_cons_zero, List.set_cons_succ, i64_w, i32_w]
          rfl
        refine one_ (i := 3) (N := some 45) #[true, true, true, true, false, false, false, false] rfl rfl (by kernel_rfl) (by decide) (fun K hK => ?_)
        refine goes_ Tryd.func32 (by kernel_rfl) rfl #[.string s, .string ⟨#[0]⟩, .string ⟨#[0, 255]⟩] (by rfl) rfl rfl (by (try simp only [List.map_toArray, List.map_cons, List.map_nil]); first | done | rfl) ?_
        with_reducible refine ((HF.out _ (HG.out.below hHeld))).mono ?_
        rintro e w5 ⟨rfl, hb5⟩
        refine ⟨_, rfl, ?_⟩
        have HN := Lib.hid (hHeld.trans (hb5.mono hHeld.size))
        replace H24 := Lib.hid (blk_below H24.out hb5)
        refine hK.out _ _ (HN.out) (fun hHeld => ?_)
        clear hK K
        refine norm_ (a' := ?_) ?_ ?_
        rotate_left
        · show Act.put _ (some 45) _ = _
          simp only [Act.put, List.setIfInBounds_toArray, List.set_cons_zero, List.set_cons_succ, i64_w, i32_w]
          rfl
        exact norm_ (by simp only [putAll, Act.put, List.setIfInBounds_toArray, List.set_cons_zero, List.set_cons_succ]) (hCont w.heap.size _ hHeld)
      · skip
        refine goes_ Tryd.func32 (by kernel_rfl) rfl #[.string s, .string ⟨#[0]⟩, .string ⟨#[0, 255]⟩] (by rfl) rfl rfl (by (try simp only [List.map_toArray, List.map_cons, List.map_nil]); first | done | rfl) ?_
        with_reducible refine ((HF.out _ (HG.out.below hHeld))).mono ?_
        rintro e w5 ⟨rfl, hb5⟩
        refine ⟨_, rfl, ?_⟩
        have HN := Lib.hid (hHeld.trans (hb5.mono hHeld.size))
        replace H24 := Lib.hid (blk_below H24.out hb5)
        refine hK.out _ _ (HN.out) (fun hHeld => ?_)
        clear hK K
        refine norm_ (a' := ?_) ?_ ?_
        rotate_left
        · show Act.put _ (some 45) _ = _
          simp only [Act.put, List.setIfInBounds_toArray, List.set_cons_zero, List.set_cons_succ, i64_w, i32_w]
          rfl
        refine one_ (i := 1) (N := some 43) #[true, true, true, true, false, false, false, false] rfl rfl (by kernel_rfl) (by decide) (fun K hK => ?_)
        have hcv : (convert 39 9 (.slice (some ⟨w.heap.size, 0, none⟩) 1 1)).run Tryd.prog w5 = .ok (.string ⟨#[80]⟩) w5 := byte_at (x := 80) H24.out (by decide)
        refine value_ (w1 := ?_) (v := ?_) (by rfl) rfl ?_ ?_
        rotate_left 2
        · go_simp
          constructor
          · rfl
          · rfl
        refine hK.out _ _ (hHeld) (fun hHeld => ?_)
        clear hK K
        refine norm_ (a' := ?_) ?_ ?_
        rotate_left
        · show Act.put _ (some 43) _ = _
          simp only [Act.put, List.setIfInBounds_toArray, List.set_cons_zero, List.set_cons_succ, i64_w, i32_w]
          rfl
        exact norm_ (by simp only [putAll, Act.put, List.setIfInBounds_toArray, List.set_cons_zero, List.set_cons_succ]) (hCont w.heap.size _ hHeld)
    · skip
      refine goes_ Tryd.func32 (by kernel_rfl) rfl #[.string s, .string ⟨#[0]⟩, .string ⟨#[0, 255]⟩] (by rfl) rfl rfl (by (try simp only [List.map_toArray, List.map_cons, List.map_nil]); first | done | rfl) ?_
      with_reducible refine ((HF.out _ (HG.out.below hHeld))).mono ?_
      rintro e w5 ⟨rfl, hb5⟩
      refine ⟨_, rfl, ?_⟩
      have HN := Lib.hid (hHeld.trans (hb5.mono hHeld.size))
      refine hK.out _ _ (HN.out) (fun hHeld => ?_)
      clear hK K
      refine norm_ (a' := ?_) ?_ ?_
      rotate_left
      · show Act.put _ (some 45) _ = _
        simp only [Act.put, List.setIfInBounds_toArray, List.set_cons_zero, List.set_cons_succ, i64_w, i32_w]
        rfl
      refine one_ (i := 0) (N := some 42) #[true, false, true, true, false, false, false, false] rfl rfl (by kernel_rfl) (by decide) (fun K hK => ?_)
      refine value_ (w1 := ?_) (v := ?_) (by rfl) rfl ?_ ?_
      rotate_left 2
      · go_simp
        constructor
        · rfl
        · rfl
      have HN := Lib.hid (hHeld.alloc hHeld.size (.cells #[.int .u8 80] 5))
      have H24 := Lib.hid (blk_new w5 (.cells #[.int .u8 80] 5))
      refine hK.out _ _ (HN.out) (fun hHeld => ?_)
      clear hK K
      refine norm_ (a' := ?_) ?_ ?_
      rotate_left
      · show Act.put _ (some 42) _ = _
        simp only [Act.put, List.setIfInBounds_toArray, List.set_cons_zero, List.set_cons_succ, i64_w, i32_w]
        rfl
      refine one_ (i := 1) (N := some 43) #[true, true, true, true, false, false, false, false] rfl rfl (by kernel_rfl) (by decide) (fun K hK => ?_)
      have hcv : (convert 39 9 (.slice (some ⟨w5.heap.size, 0, none⟩) 1 1)).run Tryd.prog (w5.alloc (.cells #[.int .u8 80] 5)) = .ok (.string ⟨#[80]⟩) (w5.alloc (.cells #[.int .u8 80] 5)) := byte_at (x := 80) H24.out (by decide)
      refine value_ (w1 := ?_) (v := ?_) (by rfl) rfl ?_ ?_
      rotate_left 2
      · go_simp
        constructor
        · rfl
        · rfl
      refine hK.out _ _ (hHeld) (fun hHeld => ?_)
      clear hK K
      refine norm_ (a' := ?_) ?_ ?_
      rotate_left
      · show Act.put _ (some 43) _ = _
        simp only [Act.put, List.setIfInBounds_toArray, List.set_cons_zero, List.set_cons_succ, i64_w, i32_w]
        rfl
      exact norm_ (by simp only [putAll, Act.put, List.setIfInBounds_toArray, List.set_cons_zero, List.set_cons_succ]) (hCont w5.heap.size _ hHeld)
  rintro g24 w9 hHeld
  refine norm_ (a' := ?_) ?_ ?_
  rotate_left
  · simp only [putAll, Act.put, List.setIfInBounds_toArray, List.set_cons_zero, List.set_cons_succ]
    rfl
  refine pure_ (i := 4) (N := some 46) (v := ?_) (a' := ?_) #[true, true, true, true, true, false, false, false] rfl rfl (by kernel_rfl) (fun _ _ _ h => h) (Or.inl ⟨by rfl, ?_⟩) ?_ ?_
  rotate_left
  · intro w'
    go_simp
    with_reducible rfl
  rotate_left
  · simp only [Act.put, List.setIfInBounds_toArray, List.set_cons_zero, List.set_cons_succ, i64_w, i32_w]
    rfl
  refine pure_ (i := 5) (N := some 47) (v := ?_) (a' := ?_) #[true, true, true, true, true, true, false, false] rfl rfl (by kernel_rfl) (fun _ _ _ h => h) (Or.inl ⟨by rfl, ?_⟩) ?_ ?_
  rotate_left
  · intro w'
    go_simp
    with_reducible rfl
  rotate_left
  · simp only [Act.put, List.setIfInBounds_toArray, List.set_cons_zero, List.set_cons_succ, i64_w, i32_w]
    rfl
  refine pure_ (i := 6) (N := some 2) (v := ?_) (a' := ?_) #[true, true, true, true, true, true, true, false] rfl rfl (by kernel_rfl) (fun _ _ _ h => h) (Or.inl ⟨by rfl, ?_⟩) ?_ ?_
  rotate_left
  · intro w'
    go_simp
    with_reducible rfl
  rotate_left
  · simp only [Act.put, List.setIfInBounds_toArray, List.set_cons_zero, List.set_cons_succ, i64_w, i32_w]
    rfl
  refine pure_ (i := 7) (N := some 3) (v := ?_) (a' := ?_) #[true, true, true, true, true, true, true, true] rfl rfl (by kernel_rfl) (fun _ _ _ h => h) (Or.inl ⟨by rfl, ?_⟩) ?_ ?_
  rotate_left
  · intro w'
    go_simp
    with_reducible rfl
  rotate_left
  · simp only [Act.put, List.setIfInBounds_toArray, List.set_cons_zero, List.set_cons_succ, i64_w, i32_w]
    rfl
  refine done_ (by kernel_rfl) ?_

  go_wp2
  first | go_ret2 | go_ret
  exact ⟨by rw [HS.out]; rfl, hHeld⟩
set_option maxRecDepth 100000 in
set_option maxHeartbeats 4000000 in
theorem one_bad (V : Value) (w : World) (h0 : ∀ W : World, (binOp .eql 20 V .nilIface).run Tryd.prog W = .ok (.bool false) W) (hE : ∀ W : World, (eqGuard .eql 20 (.tmp 9) (.const .nilIface) V .nilIface).run Tryd.prog W = .ok () W)
    (ta_bool : ∀ W : World, (Instr.typeAssert V 20 4 true).run Tryd.prog W = .ok (.tuple #[.bool false, .bool false]) W)
    (ta_int64 : ∀ W : World, (Instr.typeAssert V 20 2 true).run Tryd.prog W = .ok (.tuple #[.int .i64 0, .bool false]) W)
    (ta_uint64 : ∀ W : World, (Instr.typeAssert V 20 22 true).run Tryd.prog W = .ok (.tuple #[.int .u64 0, .bool false]) W)
    (ta_string : ∀ W : World, (Instr.typeAssert V 20 9 true).run Tryd.prog W = .ok (.tuple #[.string ⟨#[]⟩, .bool false]) W) :
    Calls Tryd.prog 24 #[V] w fun e w' => e = .returned (.tuple #[.string ⟨#[]⟩, .bool false]) ∧ w = w' := by
  go_enter Tryd.func24, Tryd.ntmps24
  go_wp2
  first | go_ret2 | go_ret
  exact ⟨rfl, rfl⟩
theorem one_bad_int (n : Int) (w : World) : Calls Tryd.prog 24 #[.iface 3 (.int .i64 n)] w fun e w' => e = .returned (.tuple #[.string ⟨#[]⟩, .bool false]) ∧ w = w' :=
  one_bad _ w (fun _ => by kernel_rfl) (fun _ => by kernel_rfl) (fun _ => by kernel_rfl) (fun _ => by kernel_rfl) (fun _ => by kernel_rfl) (fun _ => by kernel_rfl)
theorem one_bad_row (a : Addr) (n c : Nat) (w : World) : Calls Tryd.prog 24 #[.iface 39 (.slice (some a) n c)] w fun e w' => e = .returned (.tuple #[.string ⟨#[]⟩, .bool false]) ∧ w = w' :=
  one_bad _ w (fun _ => by kernel_rfl) (fun _ => by kernel_rfl) (fun _ => by kernel_rfl) (fun _ => by kernel_rfl) (fun _ => by kernel_rfl) (fun _ => by kernel_rfl)
theorem one_bad_i32 (w : World) : Calls Tryd.prog 24 #[.iface 21 (.int .i32 3)] w fun e w' => e = .returned (.tuple #[.string ⟨#[]⟩, .bool false]) ∧ w = w' :=
  one_bad _ w (fun _ => by kernel_rfl) (fun _ => by kernel_rfl) (fun _ => by kernel_rfl) (fun _ => by kernel_rfl) (fun _ => by kernel_rfl) (fun _ => by kernel_rfl)
theorem one_bad_ptr (a : Addr) (w : World) : Calls Tryd.prog 24 #[.iface 42 (.pointer (some a))] w fun e w' => e = .returned (.tuple #[.string ⟨#[]⟩, .bool false]) ∧ w = w' :=
  one_bad _ w (fun _ => by kernel_rfl) (fun _ => by kernel_rfl) (fun _ => by kernel_rfl) (fun _ => by kernel_rfl) (fun _ => by kernel_rfl) (fun _ => by kernel_rfl)
theorem one_bad_dwn (s : ByteArray) (w : World) : Calls Tryd.prog 24 #[.iface 41 (.agg #[.iface 9 (.string s)])] w fun e w' => e = .returned (.tuple #[.string ⟨#[]⟩, .bool false]) ∧ w = w' :=
  one_bad _ w (fun _ => by kernel_rfl) (fun _ => by kernel_rfl) (fun _ => by kernel_rfl) (fun _ => by kernel_rfl) (fun _ => by kernel_rfl) (fun _ => by kernel_rfl)
set_option maxRecDepth 100000 in
set_option maxHeartbeats 4000000 in
theorem item_bad_int (n : Int) (w : World) : Calls Tryd.prog 17 #[.iface 3 (.int .i64 n)] w fun e w' => e = .returned (.tuple #[.string ⟨#[]⟩, .bool false]) ∧ Below w.heap.size w w' := by
  have HO := Lib.hid (fun W => one_bad_int n W)
  have hta : (Instr.typeAssert (.iface 3 (.int .i64 n)) 20 41 true).run Tryd.prog w = .ok (.tuple #[.agg #[.nilIface], .bool false]) w := by kernel_rfl
  have HB := Lib.hid (below_alloc (Below.refl w.heap.size w) (.cells #[.nilIface] 41))
  generalize (.iface 3 (.int .i64 n) : Value) = V at *
  go_enter Tryd.func17, Tryd.ntmps17
  go_wp2_with fail
  refine (HO.out _).mono ?_
  rintro e w1 ⟨rfl, rfl⟩
  go_wp2
  first | go_ret2 | go_ret
  exact ⟨rfl, HB.out⟩
set_option maxRecDepth 100000 in
set_option maxHeartbeats 4000000 in
theorem item_bad_row (a : Addr) (n c : Nat) (w : World) : Calls Tryd.prog 17 #[.iface 39 (.slice (some a) n c)] w fun e w' => e = .returned (.tuple #[.string ⟨#[]⟩, .bool false]) ∧ Below w.heap.size w w' := by
  have HO := Lib.hid (fun W => one_bad_row a n c W)
  have hta : (Instr.typeAssert (.iface 39 (.slice (some a) n c)) 20 41 true).run Tryd.prog w = .ok (.tuple #[.agg #[.nilIface], .bool false]) w := by kernel_rfl
  have HB := Lib.hid (below_alloc (Below.refl w.heap.size w) (.cells #[.nilIface] 41))
  generalize (.iface 39 (.slice (some a) n c) : Value) = V at *
  go_enter Tryd.func17, Tryd.ntmps17
  go_wp2_with fail
  refine (HO.out _).mono ?_
  rintro e w1 ⟨rfl, rfl⟩
  go_wp2
  first | go_ret2 | go_ret
  exact ⟨rfl, HB.out⟩
set_option maxRecDepth 100000 in
set_option maxHeartbeats 4000000 in
theorem item_bad_i32 (w : World) : Calls Tryd.prog 17 #[.iface 21 (.int .i32 3)] w fun e w' => e = .returned (.tuple #[.string ⟨#[]⟩, .bool false]) ∧ Below w.heap.size w w' := by
  have HO := Lib.hid (fun W => one_bad_i32  W)
  have hta : (Instr.typeAssert (.iface 21 (.int .i32 3)) 20 41 true).run Tryd.prog w = .ok (.tuple #[.agg #[.nilIface], .bool false]) w := by kernel_rfl
  have HB := Lib.hid (below_alloc (Below.refl w.heap.size w) (.cells #[.nilIface] 41))
  generalize (.iface 21 (.int .i32 3) : Value) = V at *
  go_enter Tryd.func17, Tryd.ntmps17
  go_wp2_with fail
  refine (HO.out _).mono ?_
  rintro e w1 ⟨rfl, rfl⟩
  go_wp2
  first | go_ret2 | go_ret
  exact ⟨rfl, HB.out⟩
set_option maxRecDepth 100000 in
set_option maxHeartbeats 4000000 in
theorem item_bad_ptr (a : Addr) (w : World) : Calls Tryd.prog 17 #[.iface 42 (.pointer (some a))] w fun e w' => e = .returned (.tuple #[.string ⟨#[]⟩, .bool false]) ∧ Below w.heap.size w w' := by
  have HO := Lib.hid (fun W => one_bad_ptr a W)
  have hta : (Instr.typeAssert (.iface 42 (.pointer (some a))) 20 41 true).run Tryd.prog w = .ok (.tuple #[.agg #[.nilIface], .bool false]) w := by kernel_rfl
  have HB := Lib.hid (below_alloc (Below.refl w.heap.size w) (.cells #[.nilIface] 41))
  generalize (.iface 42 (.pointer (some a)) : Value) = V at *
  go_enter Tryd.func17, Tryd.ntmps17
  go_wp2_with fail
  refine (HO.out _).mono ?_
  rintro e w1 ⟨rfl, rfl⟩
  go_wp2
  first | go_ret2 | go_ret
  exact ⟨rfl, HB.out⟩
set_option maxRecDepth 100000 in
set_option maxHeartbeats 4000000 in
theorem item_bad_din (n : Int) (w : World) : Calls Tryd.prog 17 #[.iface 41 (.agg #[.iface 3 (.int .i64 n)])] w fun e w' => e = .returned (.tuple #[.string ⟨#[]⟩, .bool false]) ∧ Below w.heap.size w w' := by
  have HO := Lib.hid (fun W => one_bad_int n W)
  have HT := Lib.hid (fun W => turned_any ⟨#[]⟩ W (by decide))
  rw [show notB ⟨#[]⟩ = ⟨#[]⟩ from rfl] at HT
  have tb : ∀ W : World, (Instr.typeAssert (.iface 41 (.agg #[.iface 3 (.int .i64 n)])) 20 41 true).run Tryd.prog W = .ok (.tuple #[.agg #[.iface 3 (.int .i64 n)], .bool true]) W := fun _ => by kernel_rfl
  have hta := tb w
  clear tb
  have HB := Lib.hid (below_alloc (Below.refl w.heap.size w) (.cells #[.iface 3 (.int .i64 n)] 41))
  go_enter Tryd.func17, Tryd.ntmps17
  go_wp2_with fail
  refine (HO.out _).mono ?_
  rintro e w1 ⟨rfl, rfl⟩
  go_wp2_with fail
  refine (HT.out _).mono ?_
  rintro e w2 ⟨rfl, hb⟩
  replace HB := Lib.hid (HB.out.trans (hb.mono HB.out.size))
  go_wp2
  first | go_ret2 | go_ret
  exact ⟨rfl, HB.out⟩
set_option maxRecDepth 100000 in
set_option maxHeartbeats 4000000 in
theorem item_bad_ddn (s : ByteArray) (w : World) : Calls Tryd.prog 17 #[.iface 41 (.agg #[.iface 41 (.agg #[.iface 9 (.string s)])])] w fun e w' => e = .returned (.tuple #[.string ⟨#[]⟩, .bool false]) ∧ Below w.heap.size w w' := by
  have HO := Lib.hid (fun W => one_bad_dwn s W)
  have HT := Lib.hid (fun W => turned_any ⟨#[]⟩ W (by decide))
  rw [show notB ⟨#[]⟩ = ⟨#[]⟩ from rfl] at HT
  have tb : ∀ W : World, (Instr.typeAssert (.iface 41 (.agg #[.iface 41 (.agg #[.iface 9 (.string s)])])) 20 41 true).run Tryd.prog W = .ok (.tuple #[.agg #[.iface 41 (.agg #[.iface 9 (.string s)])], .bool true]) W := fun _ => by kernel_rfl
  have hta := tb w
  clear tb
  have HB := Lib.hid (below_alloc (Below.refl w.heap.size w) (.cells #[.iface 41 (.agg #[.iface 9 (.string s)])] 41))
  go_enter Tryd.func17, Tryd.ntmps17
  go_wp2_with fail
  refine (HO.out _).mono ?_
  rintro e w1 ⟨rfl, rfl⟩
  go_wp2_with fail
  refine (HT.out _).mono ?_
  rintro e w2 ⟨rfl, hb⟩
  replace HB := Lib.hid (HB.out.trans (hb.mono HB.out.size))
  go_wp2
  first | go_ret2 | go_ret
  exact ⟨rfl, HB.out⟩
/-- What is no item. -/
def BadV (V : Value) : Prop := ∀ w, Calls Tryd.prog 17 #[V] w fun e w' => e = .returned (.tuple #[.string ⟨#[]⟩, .bool false]) ∧ Below w.heap.size w w'
theorem item_strB (s : ByteArray) (w : World) (hs : s.size ≤ 4000000) (hg : Glob w) : Calls Tryd.prog 17 #[.iface 9 (.string s)] w fun e w' => e = .returned (.tuple #[.string (oneS (.str s)), .bool true]) ∧ Below w.heap.size w w' := by
  have HO := Lib.hid (fun W (hg : Glob W) => one_strB s W hs hg)
  have HG := Lib.hid hg; clear hg
  have hta : (Instr.typeAssert (.iface 9 (.string s)) 20 41 true).run Tryd.prog w = .ok (.tuple #[.agg #[.nilIface], .bool false]) w := by kernel_rfl
  generalize oneS (.str s) = S at *
  have HB := Lib.hid (below_alloc (Below.refl w.heap.size w) (.cells #[.nilIface] 41))
  generalize Value.iface 9 (.string s) = V at *
  go_enter Tryd.func17, Tryd.ntmps17
  go_wp2_with fail
  refine (HO.out _ (HG.out.below HB.out)).mono ?_
  rintro e w1 ⟨rfl, hb⟩
  replace HB := Lib.hid (HB.out.trans (hb.mono HB.out.size))
  go_wp2
  first | go_ret2 | go_ret
  exact ⟨rfl, HB.out⟩
theorem oneS_sizeB (s : ByteArray) (hs : s.size ≤ 4000000) : (oneS (.str s)).size ≤ 8000003 := by
  have := escS_size s
  show ((⟨#[80]⟩ : ByteArray) ++ escS s ++ ⟨#[0, 0]⟩).size ≤ 8000003
  rw [ByteArray.size_append, ByteArray.size_append]
  show 1 + (escS s).size + 2 ≤ 8000003
  omega
set_option maxRecDepth 100000 in
set_option maxHeartbeats 4000000 in
/-- A string, then what is no item. -/
theorem encode_bad2 (s : ByteArray) (V : Value) (g : Nat) (w : World) (hc : w.heap[g]? = some (.cells #[.iface 9 (.string s), V] 20 (0, 0))) (hV : BadV V) (hs : s.size ≤ 4000000) (hg : Glob w) :
    Calls Tryd.prog 10 #[.slice (some ⟨g, 0, none⟩) 2 2] w fun e w' => e = .returned (.tuple #[.string ⟨#[]⟩, .int .i64 1]) ∧ Below w.heap.size w w' := by
  have IS := Lib.hid (fun W (hg : Glob W) => item_strB s W hs hg)
  have IV := Lib.hid hV
  have hz := oneS_sizeB s hs
  have HG := Lib.hid hg
  have HC := Lib.hid hc
  clear hg hc hV
  generalize oneS (.str s) = S at *
  go_enter Tryd.func10, Tryd.ntmps10
  go_wp2
  go_loopw [4, 11] (fun u4 u11 wr => (∃ E : ByteArray, u4 = .string E ∧ ((u11 = .int .i64 0 ∧ E.size = 0) ∨ (u11 = .int .i64 1))) ∧ Below w.heap.size w wr) (fun _ u11 _ => 2 - (intOf u11).toNat)
  case atStart => exact ⟨⟨_, rfl, .inl ⟨rfl, rfl⟩⟩, Below.refl _ _⟩
  case round =>
    obtain ⟨⟨E, rfl, h⟩, hb⟩ := hrel
    have HB := Lib.hid hb; clear hb
    have HCW := Lib.hid (blk_below HC.out HB.out)
    rcases h with ⟨rfl, hE⟩ | rfl
    · have c0 : wr.cell? ⟨g, 0, none⟩ = some (.iface 9 (.string s)) := (blk_cell HCW.out 0).trans rfl
      have zz : ¬ 9223372036854775807 < E.size + S.size := by omega
      have hzz : E.size + S.size ≤ 140737488351232 := by omega
      clear hE
      go_wp2_with fail
      refine (IS.out _ (HG.out.below HB.out)).mono ?_
      rintro e w1 ⟨rfl, hb⟩
      replace HB := Lib.hid (HB.out.trans (hb.mono HB.out.size))
      go_wp2
      go_roundw
      case rel => exact ⟨⟨_, rfl, .inr rfl⟩, HB.out⟩
      case measure => simp [intOf]
    · have c1 : wr.cell? ⟨g, 1, none⟩ = some V := (blk_cell HCW.out 1).trans rfl
      go_wp2_with fail
      refine (IV.out _).mono ?_
      rintro e w1 ⟨rfl, hb⟩
      replace HB := Lib.hid (HB.out.trans (hb.mono HB.out.size))
      go_wp2
      first | go_ret2 | go_ret
      exact ⟨rfl, HB.out⟩
set_option maxRecDepth 100000 in
set_option maxHeartbeats 4000000 in
theorem encode_bad1 (V : Value) (g : Nat) (w : World) (hc : w.heap[g]? = some (.cells #[V] 20 (0, 0))) (hV : BadV V) :
    Calls Tryd.prog 10 #[.slice (some ⟨g, 0, none⟩) 1 1] w fun e w' => e = .returned (.tuple #[.string ⟨#[]⟩, .int .i64 1]) ∧ Below w.heap.size w w' := by
  have IV := Lib.hid hV
  have HC := Lib.hid hc
  clear hc hV
  go_enter Tryd.func10, Tryd.ntmps10
  go_wp2
  go_loopw [4, 11] (fun u4 u11 wr => u4 = .string ⟨#[]⟩ ∧ u11 = .int .i64 0 ∧ wr = w) (fun _ u11 _ => 2 - (intOf u11).toNat)
  case atStart => exact ⟨rfl, rfl, rfl⟩
  case round =>
    obtain ⟨rfl, rfl, rfl⟩ := hrel
    have c0 : wr.cell? ⟨g, 0, none⟩ = some V := (blk_cell HC.out 0).trans rfl
    go_wp2_with fail
    refine (IV.out _).mono ?_
    rintro e w1 ⟨rfl, hb⟩
    have HB := Lib.hid hb
    go_wp2
    first | go_ret2 | go_ret
    exact ⟨rfl, HB.out⟩
set_option maxHeartbeats 4000000 in
theorem compare_bad (V : Value) (g1 g2 : Nat) (w : World) (h1 : w.heap[g1]? = some (.cells #[V] 20 (0, 0))) (h2 : w.heap[g2]? = some (.cells #[V] 20 (0, 0))) (hV : BadV V) :
    Calls Tryd.prog 13 #[.slice (some ⟨g1, 0, none⟩) 1 1, .slice (some ⟨g2, 0, none⟩) 1 1] w fun e w' => e = .returned (.tuple #[.int .i64 0, .int .i64 1]) ∧ Below w.heap.size w w' := by
  have EA := Lib.hid (encode_bad1 V g1 w h1 hV)
  have EB := Lib.hid (fun (w1 : World) (hb : Below w.heap.size w w1) => encode_bad1 V g2 w1 (blk_below h2 hb) hV)
  clear h1 h2 hV
  go_enter Tryd.func13, Tryd.ntmps13
  go_wp2_with fail
  refine EA.out.mono ?_
  rintro e w1 ⟨rfl, hb⟩
  have HB := Lib.hid hb; clear hb
  go_wp2_with fail
  refine (EB.out _ HB.out).mono ?_
  rintro e w2 ⟨rfl, hb⟩
  replace HB := Lib.hid (HB.out.trans (hb.mono HB.out.size)); clear hb
  go_wp2
  first | go_ret2 | go_ret
  exact ⟨rfl, HB.out⟩
end Go.Proofs.YtbbjnnbabikefaaDoor.My
