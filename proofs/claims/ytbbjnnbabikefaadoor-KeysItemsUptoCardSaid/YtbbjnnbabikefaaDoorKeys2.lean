/- keys.one: an item's bytes. -/
import Derived.Test.YtbbjnnbabikefaaDoorKeys
import Derived.Test.YtbbjnnbabikefaaDoorFixed
import Derived.Test.YtbbjnnbabikefaaDoorShelf
namespace Go.Proofs.YtbbjnnbabikefaaDoor.My
set_option linter.unusedSimpArgs false
set_option linter.unusedVariables false
open Go.RowKit Go.Proofs.YtbbjnnbabikefaaDoorW.PrintWords Go.Proofs.YtbbjnnbabikefaaDoorW.PrintLast Go.Proofs.YtbbjnnbabikefaaDoor.Pm

def escB : List UInt8 → List UInt8
  | [] => []
  | b :: r => if b = 0 then 0 :: 255 :: escB r else b :: escB r
theorem escB_len : ∀ l : List UInt8, (escB l).length ≤ 2 * l.length
  | [] => Nat.le_refl _
  | b :: r => by
    have := escB_len r
    unfold escB
    split
    · simp only [List.length_cons]; omega
    · simp only [List.length_cons]; omega
theorem replK_esc : ∀ l : List UInt8, Go.Lib.replaceK [0] [0, 255] (Go.Lib.count l [0]) l = escB l
  | [] => rfl
  | b :: r => by
    have ih := replK_esc r
    unfold escB
    by_cases hb : b = 0
    · subst hb
      rw [if_pos rfl, Go.Lib.count_cons_eq, Nat.add_comm, Go.Lib.replaceK_hit [0] [0, 255] _ (0 :: r) 0 (by simp [Go.Lib.index, List.isPrefixOf])]
      show [] ++ [0, 255] ++ Go.Lib.replaceK [0] [0, 255] (Go.Lib.count r [0]) r = _
      rw [ih]
      rfl
    · rw [if_neg hb, Go.Lib.count_cons_ne b 0 r hb]
      cases hc : Go.Lib.count r [0] with
      | zero =>
        rw [hc] at ih
        rw [← ih]
        rfl
      | succ k =>
        rw [hc] at ih
        obtain ⟨i, hi⟩ := Go.Lib.index_of_count (s := r) (old := [0]) (by omega)
        have hi2 : Go.Lib.index (b :: r) [0] = ((i + 1 : Nat) : Int) := by
          unfold Go.Lib.index
          rw [if_neg (by simp [List.isPrefixOf]; exact fun e => hb e.symm), hi, if_neg (by simp)]
          first | done | omega | rfl
        rw [Go.Lib.replaceK_hit _ _ _ _ _ hi2, ← ih, Go.Lib.replaceK_hit _ _ _ _ _ hi]
        rfl
theorem repl_esc (l : List UInt8) : Go.Lib.replaceAll l [0] [0, 255] = escB l := by
  unfold Go.Lib.replaceAll Go.Lib.replace Go.Lib.replaceNum
  rw [if_neg (by decide), if_pos (.inl (by decide))]
  exact replK_esc l
/-- An item that is no Down. -/
inductive PIt where
  | nul
  | boo (b : Bool)
  | i64 (x : Int)
  | u64 (n : Nat)
  | str (s : ByteArray)
def PIt.val : PIt → Value
  | .nul => .nilIface
  | .boo b => .iface 4 (.bool b)
  | .i64 x => .iface 2 (.int .i64 x)
  | .u64 n => .iface 22 (.int .u64 (n : Int))
  | .str s => .iface 9 (.string s)
/-- Of a size that is looked at. -/
def PIt.ok : PIt → Prop
  | .nul => True
  | .boo _ => True
  | .i64 x => -9223372036854775808 ≤ x ∧ x < 9223372036854775808
  | .u64 n => n < 18446744073709551616
  | .str s => s.size ≤ 1000
def escS (s : ByteArray) : ByteArray := ⟨(escB (bl s)).toArray⟩
def oneS : PIt → ByteArray
  | .nul => ⟨#[16]⟩
  | .boo b => if b then ⟨#[33]⟩ else ⟨#[32]⟩
  | .i64 x => ⟨#[48]⟩ ++ fixedS (x + 9223372036854775808) 8 true
  | .u64 n => ⟨#[64]⟩ ++ fixedS (n : Int) 8 true
  | .str s => ⟨#[80]⟩ ++ escS s ++ ⟨#[0, 0]⟩
theorem fixed8_size (a : Int) : (fixedS a 8 true).size = 8 := by
  unfold fixedS
  rw [if_neg (by omega), strOfNums_size]
  show (fixedTo a 8 true 8).length = 8
  simp [fixedTo]
theorem flip_low (k : Nat) (h : k < 2 ^ 63) : k ^^^ 2 ^ 63 = 2 ^ 63 + k := by
  apply Nat.eq_of_testBit_eq
  intro i
  rw [Nat.testBit_xor, Nat.testBit_two_pow]
  rcases Nat.lt_trichotomy i 63 with hi | hi | hi
  · rw [Nat.testBit_two_pow_add_gt hi, decide_eq_false (by omega), Bool.xor_false]
  · subst hi
    rw [Nat.testBit_two_pow_add_eq, decide_eq_true rfl, Bool.xor_true]
  · rw [decide_eq_false (by omega), Bool.xor_false, Nat.testBit_lt_two_pow (Nat.lt_trans h (Nat.pow_lt_pow_right (by decide) hi)), Nat.testBit_lt_two_pow]
    have : 2 ^ 64 ≤ 2 ^ i := Nat.pow_le_pow_right (by decide) hi
    omega
theorem sign_flip (x : Int) (hx : -9223372036854775808 ≤ x ∧ x < 9223372036854775808) : Go.bits .xor .u64 (IntKind.u64.wrap x) 9223372036854775808 = x + 9223372036854775808 := by
  obtain ⟨n, hn⟩ : ∃ n : Nat, IntKind.u64.wrap x = (n : Int) := ⟨(x % 18446744073709551616).toNat, by simp only [IntKind.wrap_u64]; omega⟩
  have hn2 : x % 18446744073709551616 = (n : Int) := by rw [← hn]; simp only [IntKind.wrap_u64]
  have h := u64_xor_nat n (2 ^ 63) (by omega) (by decide)
  rw [hn]
  refine (show Go.bits .xor .u64 (n : Int) 9223372036854775808 = ((n ^^^ 2 ^ 63 : Nat) : Int) from h).trans ?_
  by_cases hl : n < 2 ^ 63
  · rw [flip_low n hl]
    omega
  · have e : n ^^^ 2 ^ 63 = n - 2 ^ 63 := by
      have h1 := flip_low (n - 2 ^ 63) (by omega)
      rw [show 2 ^ 63 + (n - 2 ^ 63) = n by omega] at h1
      rw [← h1, Nat.xor_assoc, Nat.xor_self, Nat.xor_zero]
      rw [h1]
    rw [e]
    omega
theorem byte_at {W : World} {g x : Nat} (hn : W.heap[g]? = some (.cells #[.int .u8 (x : Int)] 5 (0, 0))) (hx : x < 256) : (convert 39 9 (.slice (some ⟨g, 0, none⟩) 1 1)).run Tryd.prog W = .ok (.string ⟨#[UInt8.ofNat x]⟩) W := by
  have hb : ByteRow W g [UInt8.ofNat x] := by
    intro j hj
    obtain rfl : j = 0 := by simpa using hj
    have e : ((UInt8.ofNat x).toNat : Int) = (x : Int) := by rw [toNat_ofNat8 hx]
    exact ⟨by rw [show ([UInt8.ofNat x][0]'hj) = UInt8.ofNat x from rfl, e]; exact (blk_cell hn 0).trans rfl, blk_frozen hn 0⟩
  exact hb.str 1
theorem byte_s (x : Nat) (hx : x < 256) (W : World) : (convert 39 9 (.slice (some ⟨W.heap.size, 0, none⟩) 1 1)).run Tryd.prog (W.alloc (.cells #[.int .u8 (x : Int)] 5)) = .ok (.string ⟨#[UInt8.ofNat x]⟩) (W.alloc (.cells #[.int .u8 (x : Int)] 5)) := by
  have hb : ByteRow (W.alloc (.cells #[.int .u8 (x : Int)] 5)) W.heap.size [UInt8.ofNat x] := by
    intro j hj
    obtain rfl : j = 0 := by simpa using hj
    have hn := blk_new W (.cells #[.int .u8 (x : Int)] 5)
    have e : ((UInt8.ofNat x).toNat : Int) = (x : Int) := by rw [toNat_ofNat8 hx]
    exact ⟨by rw [show ([UInt8.ofNat x][0]'hj) = UInt8.ofNat x from rfl, e]; exact (blk_cell hn 0).trans rfl, blk_frozen hn 0⟩
  exact hb.str 1
set_option maxRecDepth 100000 in
set_option maxHeartbeats 4000000 in
theorem one_nul (w : World) : Calls Tryd.prog 24 #[.nilIface] w fun e w' => e = .returned (.tuple #[.string (oneS .nul), .bool true]) ∧ Below w.heap.size w w' := by
  have HB := Lib.hid (below_alloc (Below.refl w.heap.size w) (.cells #[.int .u8 16] 5))
  have hcv : (convert 39 9 (.slice (some ⟨w.heap.size, 0, none⟩) 1 1)).run Tryd.prog (w.alloc (.cells #[.int .u8 16] 5)) = .ok (.string ⟨#[16]⟩) (w.alloc (.cells #[.int .u8 16] 5)) := byte_s 16 (by decide) w
  go_enter Tryd.func24, Tryd.ntmps24
  go_wp2
  first | go_ret2 | go_ret
  exact ⟨rfl, HB.out⟩
set_option maxRecDepth 100000 in
set_option maxHeartbeats 4000000 in
theorem one_yes (w : World) : Calls Tryd.prog 24 #[.iface 4 (.bool true)] w fun e w' => e = .returned (.tuple #[.string (oneS (.boo true)), .bool true]) ∧ Below w.heap.size w w' := by
  have HB := Lib.hid (below_alloc (Below.refl w.heap.size w) (.cells #[.int .u8 33] 5))
  have hcv : (convert 39 9 (.slice (some ⟨w.heap.size, 0, none⟩) 1 1)).run Tryd.prog (w.alloc (.cells #[.int .u8 33] 5)) = .ok (.string ⟨#[33]⟩) (w.alloc (.cells #[.int .u8 33] 5)) := byte_s 33 (by decide) w
  have ta_bool : ∀ W : World, (Instr.typeAssert (.iface 4 (.bool true)) 20 4 true).run Tryd.prog W = .ok (.tuple #[.bool true, .bool true]) W := fun _ => by kernel_rfl
  go_enter Tryd.func24, Tryd.ntmps24
  go_wp2
  first | go_ret2 | go_ret
  exact ⟨rfl, HB.out⟩
set_option maxRecDepth 100000 in
set_option maxHeartbeats 4000000 in
theorem one_no (w : World) : Calls Tryd.prog 24 #[.iface 4 (.bool false)] w fun e w' => e = .returned (.tuple #[.string (oneS (.boo false)), .bool true]) ∧ Below w.heap.size w w' := by
  have HB := Lib.hid (below_alloc (Below.refl w.heap.size w) (.cells #[.int .u8 32] 5))
  have hcv : (convert 39 9 (.slice (some ⟨w.heap.size, 0, none⟩) 1 1)).run Tryd.prog (w.alloc (.cells #[.int .u8 32] 5)) = .ok (.string ⟨#[32]⟩) (w.alloc (.cells #[.int .u8 32] 5)) := byte_s 32 (by decide) w
  have ta_bool : ∀ W : World, (Instr.typeAssert (.iface 4 (.bool false)) 20 4 true).run Tryd.prog W = .ok (.tuple #[.bool false, .bool true]) W := fun _ => by kernel_rfl
  go_enter Tryd.func24, Tryd.ntmps24
  go_wp2
  first | go_ret2 | go_ret
  exact ⟨rfl, HB.out⟩
set_option maxRecDepth 100000 in
set_option maxHeartbeats 4000000 in
theorem one_u64 (n : Nat) (w : World) : Calls Tryd.prog 24 #[.iface 22 (.int .u64 (n : Int))] w fun e w' => e = .returned (.tuple #[.string (oneS (.u64 n)), .bool true]) ∧ Below w.heap.size w w' := by
  have HS := Lib.hid (show oneS (.u64 n) = ⟨#[64]⟩ ++ fixedS (n : Int) 8 true from rfl)
  have HF := Lib.hid (fun W => fixed_any (n : Int) 8 true W)
  have hz := fixed8_size (n : Int)
  generalize fixedS (n : Int) 8 true = S at *
  have zz1 : ¬ 9223372036854775807 < (⟨#[64]⟩ : ByteArray).size + S.size := by show ¬ 9223372036854775807 < 1 + S.size; omega
  have zz2 : ¬ 9223372036854775807 < 1 + S.size := zz1
  have ta_bool : ∀ W : World, (Instr.typeAssert (.iface 22 (.int .u64 (n : Int))) 20 4 true).run Tryd.prog W = .ok (.tuple #[.bool false, .bool false]) W := fun _ => by kernel_rfl
  have ta_int64 : ∀ W : World, (Instr.typeAssert (.iface 22 (.int .u64 (n : Int))) 20 2 true).run Tryd.prog W = .ok (.tuple #[.int .i64 0, .bool false]) W := fun _ => by kernel_rfl
  have ta_uint64 : ∀ W : World, (Instr.typeAssert (.iface 22 (.int .u64 (n : Int))) 20 22 true).run Tryd.prog W = .ok (.tuple #[.int .u64 (n : Int), .bool true]) W := fun _ => by kernel_rfl
  go_enter Tryd.func24, Tryd.ntmps24
  go_wp2
  refine start_ (n := 7) (S := fun w' => Below w.heap.size w w') (ds := []) #[false, false, false, false, false, false, false] (by kernel_rfl) rfl rfl ((below_drew (Below.refl _ _))) (fun hHeld => ?_)
  refine pure_ (i := 2) (N := some 36) (v := ?_) (a' := ?_) #[false, false, true, false, false, false, false] rfl rfl (by kernel_rfl) (fun _ _ _ h => h) (Or.inl ⟨by rfl, ?_⟩) ?_ ?_
  rotate_left
  · intro w'
    go_simp
    with_reducible rfl
  rotate_left
  · simp only [Act.put, List.setIfInBounds_toArray, List.set_cons_zero, List.set_cons_succ, i64_w, i32_w]
    rfl
  refine join_ (σ := Nat) 3 #[true, true, true, true, false, false, false] (fun s => [(34, .slice (some ⟨s, 0, none⟩) 1 1), (35, .string ⟨#[64]⟩), (37, .string S)]) (fun s w' => Below w.heap.size w w') ?_ ?_
  rotate_left
  · intro hCont
    refine two_ (i := 0) (j := 3) (Ni := some 34) (Nj := some 37) #[true, false, true, false, false, false, false] #[false, false, true, true, false, false, false] rfl rfl rfl rfl (by kernel_rfl) (by decide) (by decide) (fun K hK => ?_) (fun K hK => ?_)
    · skip
      refine value_ (w1 := ?_) (v := ?_) (by rfl) rfl ?_ ?_
      rotate_left 2
      · go_simp
        constructor
        · rfl
        · rfl
      have HN := Lib.hid (hHeld.alloc hHeld.size (.cells #[.int .u8 64] 5))
      have H24 := Lib.hid (blk_new w.drew (.cells #[.int .u8 64] 5))
      refine hK.out _ _ (HN.out) (fun hHeld => ?_)
      clear hK K
      refine norm_ (a' := ?_) ?_ ?_
      rotate_left
      · show Act.put _ (some 34) _ = _
        simp only [Act.put, List.setIfInBounds_toArray, List.set_cons_zero, List.set_cons_succ, i64_w, i32_w]
        rfl
      refine two_ (i := 1) (j := 3) (Ni := some 35) (Nj := some 37) #[true, true, true, false, false, false, false] #[true, false, true, true, false, false, false] rfl rfl rfl rfl (by kernel_rfl) (by decide) (by decide) (fun K hK => ?_) (fun K hK => ?_)
      · skip
        have hcv : (convert 39 9 (.slice (some ⟨w.heap.size, 0, none⟩) 1 1)).run Tryd.prog ((w.alloc (.cells #[.int .u8 64] 5)).drew) = .ok (.string ⟨#[64]⟩) ((w.alloc (.cells #[.int .u8 64] 5)).drew) := byte_at (x := 64) H24.out (by decide)
        refine value_ (w1 := ?_) (v := ?_) (by rfl) rfl ?_ ?_
        rotate_left 2
        · go_simp
          constructor
          · rfl
          · rfl
        refine hK.out _ _ (hHeld) (fun hHeld => ?_)
        clear hK K
        refine norm_ (a' := ?_) ?_ ?_
        rotate_left
        · show Act.put _ (some 35) _ = _
          simp only [Act.put, List.setIfInBounds_toArray, List.set_cons_zero, List.set_cons_succ, i64_w, i32_w]
          rfl
        refine one_ (i := 3) (N := some 37) #[true, true, true, true, false, false, false] rfl rfl (by kernel_rfl) (by decide) (fun K hK => ?_)
        refine goes_ Tryd.func31 (by kernel_rfl) rfl #[.int .u64 (n : Int), .int .i64 8, .bool true] (by rfl) rfl rfl (by (try simp only [List.map_toArray, List.map_cons, List.map_nil]); first | done | rfl) ?_
        with_reducible refine ((HF.out _)).mono ?_
        rintro e w5 ⟨rfl, hb5⟩
        refine ⟨_, rfl, ?_⟩
        have HN := Lib.hid (hHeld.trans (hb5.mono hHeld.size))
        replace H24 := Lib.hid (blk_below H24.out hb5)
        refine hK.out _ _ (HN.out) (fun hHeld => ?_)
        clear hK K
        refine norm_ (a' := ?_) ?_ ?_
        rotate_left
        · show Act.put _ (some 37) _ = _
          simp only [Act.put, List.setIfInBounds_toArray, List.set_cons_zero, List.set_cons_succ, i64_w, i32_w]
          rfl
        exact norm_ (by simp only [putAll, Act.put, List.setIfInBounds_toArray, List.set_cons_zero, List.set_cons_succ]) (hCont w.heap.size _ hHeld)
      · skip
        refine goes_ Tryd.func31 (by kernel_rfl) rfl #[.int .u64 (n : Int), .int .i64 8, .bool true] (by rfl) rfl rfl (by (try simp only [List.map_toArray, List.map_cons, List.map_nil]); first | done | rfl) ?_
        with_reducible refine ((HF.out _)).mono ?_
        rintro e w5 ⟨rfl, hb5⟩
        refine ⟨_, rfl, ?_⟩
        have HN := Lib.hid (hHeld.trans (hb5.mono hHeld.size))
        replace H24 := Lib.hid (blk_below H24.out hb5)
        refine hK.out _ _ (HN.out) (fun hHeld => ?_)
        clear hK K
        refine norm_ (a' := ?_) ?_ ?_
        rotate_left
        · show Act.put _ (some 37) _ = _
          simp only [Act.put, List.setIfInBounds_toArray, List.set_cons_zero, List.set_cons_succ, i64_w, i32_w]
          rfl
        refine one_ (i := 1) (N := some 35) #[true, true, true, true, false, false, false] rfl rfl (by kernel_rfl) (by decide) (fun K hK => ?_)
        have hcv : (convert 39 9 (.slice (some ⟨w.heap.size, 0, none⟩) 1 1)).run Tryd.prog w5 = .ok (.string ⟨#[64]⟩) w5 := byte_at (x := 64) H24.out (by decide)
        refine value_ (w1 := ?_) (v := ?_) (by rfl) rfl ?_ ?_
        rotate_left 2
        · go_simp
          constructor
          · rfl
          · rfl
        refine hK.out _ _ (hHeld) (fun hHeld => ?_)
        clear hK K
        refine norm_ (a' := ?_) ?_ ?_
        rotate_left
        · show Act.put _ (some 35) _ = _
          simp only [Act.put, List.setIfInBounds_toArray, List.set_cons_zero, List.set_cons_succ, i64_w, i32_w]
          rfl
        exact norm_ (by simp only [putAll, Act.put, List.setIfInBounds_toArray, List.set_cons_zero, List.set_cons_succ]) (hCont w.heap.size _ hHeld)
    · skip
      refine goes_ Tryd.func31 (by kernel_rfl) rfl #[.int .u64 (n : Int), .int .i64 8, .bool true] (by rfl) rfl rfl (by (try simp only [List.map_toArray, List.map_cons, List.map_nil]); first | done | rfl) ?_
      with_reducible refine ((HF.out _)).mono ?_
      rintro e w5 ⟨rfl, hb5⟩
      refine ⟨_, rfl, ?_⟩
      have HN := Lib.hid (hHeld.trans (hb5.mono hHeld.size))
      refine hK.out _ _ (HN.out) (fun hHeld => ?_)
      clear hK K
      refine norm_ (a' := ?_) ?_ ?_
      rotate_left
      · show Act.put _ (some 37) _ = _
        simp only [Act.put, List.setIfInBounds_toArray, List.set_cons_zero, List.set_cons_succ, i64_w, i32_w]
        rfl
      refine one_ (i := 0) (N := some 34) #[true, false, true, true, false, false, false] rfl rfl (by kernel_rfl) (by decide) (fun K hK => ?_)
      refine value_ (w1 := ?_) (v := ?_) (by rfl) rfl ?_ ?_
      rotate_left 2
      · go_simp
        constructor
        · rfl
        · rfl
      have HN := Lib.hid (hHeld.alloc hHeld.size (.cells #[.int .u8 64] 5))
      have H24 := Lib.hid (blk_new w5 (.cells #[.int .u8 64] 5))
      refine hK.out _ _ (HN.out) (fun hHeld => ?_)
      clear hK K
      refine norm_ (a' := ?_) ?_ ?_
      rotate_left
      · show Act.put _ (some 34) _ = _
        simp only [Act.put, List.setIfInBounds_toArray, List.set_cons_zero, List.set_cons_succ, i64_w, i32_w]
        rfl
      refine one_ (i := 1) (N := some 35) #[true, true, true, true, false, false, false] rfl rfl (by kernel_rfl) (by decide) (fun K hK => ?_)
      have hcv : (convert 39 9 (.slice (some ⟨w5.heap.size, 0, none⟩) 1 1)).run Tryd.prog (w5.alloc (.cells #[.int .u8 64] 5)) = .ok (.string ⟨#[64]⟩) (w5.alloc (.cells #[.int .u8 64] 5)) := byte_at (x := 64) H24.out (by decide)
      refine value_ (w1 := ?_) (v := ?_) (by rfl) rfl ?_ ?_
      rotate_left 2
      · go_simp
        constructor
        · rfl
        · rfl
      refine hK.out _ _ (hHeld) (fun hHeld => ?_)
      clear hK K
      refine norm_ (a' := ?_) ?_ ?_
      rotate_left
      · show Act.put _ (some 35) _ = _
        simp only [Act.put, List.setIfInBounds_toArray, List.set_cons_zero, List.set_cons_succ, i64_w, i32_w]
        rfl
      exact norm_ (by simp only [putAll, Act.put, List.setIfInBounds_toArray, List.set_cons_zero, List.set_cons_succ]) (hCont w5.heap.size _ hHeld)
  rintro g24 w9 hHeld
  refine norm_ (a' := ?_) ?_ ?_
  rotate_left
  · simp only [putAll, Act.put, List.setIfInBounds_toArray, List.set_cons_zero, List.set_cons_succ]
    rfl
  refine pure_ (i := 4) (N := some 38) (v := ?_) (a' := ?_) #[true, true, true, true, true, false, false] rfl rfl (by kernel_rfl) (fun _ _ _ h => h) (Or.inl ⟨by rfl, ?_⟩) ?_ ?_
  rotate_left
  · intro w'
    go_simp
    with_reducible rfl
  rotate_left
  · simp only [Act.put, List.setIfInBounds_toArray, List.set_cons_zero, List.set_cons_succ, i64_w, i32_w]
    rfl
  refine pure_ (i := 5) (N := some 2) (v := ?_) (a' := ?_) #[true, true, true, true, true, true, false] rfl rfl (by kernel_rfl) (fun _ _ _ h => h) (Or.inl ⟨by rfl, ?_⟩) ?_ ?_
  rotate_left
  · intro w'
    go_simp
    with_reducible rfl
  rotate_left
  · simp only [Act.put, List.setIfInBounds_toArray, List.set_cons_zero, List.set_cons_succ, i64_w, i32_w]
    rfl
  refine pure_ (i := 6) (N := some 3) (v := ?_) (a' := ?_) #[true, true, true, true, true, true, true] rfl rfl (by kernel_rfl) (fun _ _ _ h => h) (Or.inl ⟨by rfl, ?_⟩) ?_ ?_
  rotate_left
  · intro w'
    go_simp
    with_reducible rfl
  rotate_left
  · simp only [Act.put, List.setIfInBounds_toArray, List.set_cons_zero, List.set_cons_succ, i64_w, i32_w]
    rfl
  refine done_ (by kernel_rfl) ?_

  go_wp2
  first | go_ret2 | go_ret
  exact ⟨by rw [HS.out]; rfl, hHeld⟩
set_option maxRecDepth 100000 in
set_option maxHeartbeats 4000000 in
theorem one_i64 (x : Int) (w : World) (hx : -9223372036854775808 ≤ x ∧ x < 9223372036854775808) : Calls Tryd.prog 24 #[.iface 2 (.int .i64 x)] w fun e w' => e = .returned (.tuple #[.string (oneS (.i64 x)), .bool true]) ∧ Below w.heap.size w w' := by
  have hxx := sign_flip x hx
  obtain ⟨y, hy⟩ : ∃ y, x + 9223372036854775808 = y := ⟨_, rfl⟩
  have HS := Lib.hid (show oneS (.i64 x) = ⟨#[48]⟩ ++ fixedS y 8 true by rw [← hy]; rfl)
  rw [hy] at hxx
  obtain ⟨u, hu⟩ : ∃ u, IntKind.u64.wrap x = u := ⟨_, rfl⟩
  rw [hu] at hxx
  have HF := Lib.hid (fun W => fixed_any y 8 true W)
  have hz := fixed8_size y
  clear hx hy
  generalize fixedS y 8 true = S at *
  have zz1 : ¬ 9223372036854775807 < (⟨#[48]⟩ : ByteArray).size + S.size := by show ¬ 9223372036854775807 < 1 + S.size; omega
  have zz2 : ¬ 9223372036854775807 < 1 + S.size := zz1
  have ta_bool : ∀ W : World, (Instr.typeAssert (.iface 2 (.int .i64 x)) 20 4 true).run Tryd.prog W = .ok (.tuple #[.bool false, .bool false]) W := fun _ => by kernel_rfl
  have ta_int64 : ∀ W : World, (Instr.typeAssert (.iface 2 (.int .i64 x)) 20 2 true).run Tryd.prog W = .ok (.tuple #[.int .i64 x, .bool true]) W := fun _ => by kernel_rfl
  go_enter Tryd.func24, Tryd.ntmps24
  go_wp2
  refine start_ (n := 9) (S := fun w' => Below w.heap.size w w') (ds := []) #[false, false, false, false, false, false, false, false, false] (by kernel_rfl) rfl rfl ((below_drew (Below.refl _ _))) (fun hHeld => ?_)
  refine pure_ (i := 2) (N := some 26) (v := ?_) (a' := ?_) #[false, false, true, false, false, false, false, false, false] rfl rfl (by kernel_rfl) (fun _ _ _ h => h) (Or.inl ⟨by rfl, ?_⟩) ?_ ?_
  rotate_left
  · intro w'
    go_simp
    with_reducible rfl
  rotate_left
  · simp only [Act.put, List.setIfInBounds_toArray, List.set_cons_zero, List.set_cons_succ, i64_w, i32_w]
    rfl
  refine pure_ (i := 3) (N := some 27) (v := ?_) (a' := ?_) #[false, false, true, true, false, false, false, false, false] rfl rfl (by kernel_rfl) (fun _ _ _ h => h) (Or.inl ⟨by rfl, ?_⟩) ?_ ?_
  rotate_left
  · intro w'
    go_simp
    with_reducible rfl
  rotate_left
  · simp only [Act.put, List.setIfInBounds_toArray, List.set_cons_zero, List.set_cons_succ, i64_w, i32_w]
    rfl
  refine pure_ (i := 4) (N := some 28) (v := ?_) (a' := ?_) #[false, false, true, true, true, false, false, false, false] rfl rfl (by kernel_rfl) (fun _ _ _ h => h) (Or.inl ⟨by rfl, ?_⟩) ?_ ?_
  rotate_left
  · intro w'
    go_simp
    with_reducible rfl
  rotate_left
  · simp only [Act.put, List.setIfInBounds_toArray, List.set_cons_zero, List.set_cons_succ, i64_w, i32_w]
    rfl
  refine join_ (σ := Nat) 3 #[true, true, true, true, true, true, false, false, false] (fun s => [(24, .slice (some ⟨s, 0, none⟩) 1 1), (25, .string ⟨#[48]⟩), (29, .string S)]) (fun s w' => Below w.heap.size w w') ?_ ?_
  rotate_left
  · intro hCont
    refine two_ (i := 0) (j := 5) (Ni := some 24) (Nj := some 29) #[true, false, true, true, true, false, false, false, false] #[false, false, true, true, true, true, false, false, false] rfl rfl rfl rfl (by kernel_rfl) (by decide) (by decide) (fun K hK => ?_) (fun K hK => ?_)
    · skip
      refine value_ (w1 := ?_) (v := ?_) (by rfl) rfl ?_ ?_
      rotate_left 2
      · go_simp
        constructor
        · rfl
        · rfl
      have HN := Lib.hid (hHeld.alloc hHeld.size (.cells #[.int .u8 48] 5))
      have H24 := Lib.hid (blk_new w.drew (.cells #[.int .u8 48] 5))
      refine hK.out _ _ (HN.out) (fun hHeld => ?_)
      clear hK K
      refine norm_ (a' := ?_) ?_ ?_
      rotate_left
      · show Act.put _ (some 24) _ = _
        simp only [Act.put, List.setIfInBounds_toArray, List.set_cons_zero, List.set_cons_succ, i64_w, i32_w]
        rfl
      refine two_ (i := 1) (j := 5) (Ni := some 25) (Nj := some 29) #[true, true, true, true, true, false, false, false, false] #[true, false, true, true, true, true, false, false, false] rfl rfl rfl rfl (by kernel_rfl) (by decide) (by decide) (fun K hK => ?_) (fun K hK => ?_)
      · skip
        have hcv : (convert 39 9 (.slice (some ⟨w.heap.size, 0, none⟩) 1 1)).run Tryd.prog ((w.alloc (.cells #[.int .u8 48] 5)).drew) = .ok (.string ⟨#[48]⟩) ((w.alloc (.cells #[.int .u8 48] 5)).drew) := byte_at (x := 48) H24.out (by decide)
        refine value_ (w1 := ?_) (v := ?_) (by rfl) rfl ?_ ?_
        rotate_left 2
        · go_simp
          constructor
          · rfl
          · rfl
        refine hK.out _ _ (hHeld) (fun hHeld => ?_)
        clear hK K
        refine norm_ (a' := ?_) ?_ ?_
        rotate_left
        · show Act.put _ (some 25) _ = _
          simp only [Act.put, List.setIfInBounds_toArray, List.set_cons_zero, List.set_cons_succ, i64_w, i32_w]
          rfl
        refine one_ (i := 5) (N := some 29) #[true, true, true, true, true, true, false, false, false] rfl rfl (by kernel_rfl) (by decide) (fun K hK => ?_)
        refine goes_ Tryd.func31 (by kernel_rfl) rfl #[.int .u64 y, .int .i64 8, .bool true] (by rfl) rfl rfl (by (try simp only [List.map_toArray, List.map_cons, List.map_nil]); first | done | rfl) ?_
        with_reducible refine ((HF.out _)).mono ?_
        rintro e w5 ⟨rfl, hb5⟩
        refine ⟨_, rfl, ?_⟩
        have HN := Lib.hid (hHeld.trans (hb5.mono hHeld.size))
        replace H24 := Lib.hid (blk_below H24.out hb5)
        refine hK.out _ _ (HN.out) (fun hHeld => ?_)
        clear hK K
        refine norm_ (a' := ?_) ?_ ?_
        rotate_left
        · show Act.put _ (some 29) _ = _
          simp only [Act.put, List.setIfInBounds_toArray, List.set_cons_zero, List.set_cons_succ, i64_w, i32_w]
          rfl
        exact norm_ (by simp only [putAll, Act.put, List.setIfInBounds_toArray, List.set_cons_zero, List.set_cons_succ]) (hCont w.heap.size _ hHeld)
      · skip
        refine goes_ Tryd.func31 (by kernel_rfl) rfl #[.int .u64 y, .int .i64 8, .bool true] (by rfl) rfl rfl (by (try simp only [List.map_toArray, List.map_cons, List.map_nil]); first | done | rfl) ?_
        with_reducible refine ((HF.out _)).mono ?_
        rintro e w5 ⟨rfl, hb5⟩
        refine ⟨_, rfl, ?_⟩
        have HN := Lib.hid (hHeld.trans (hb5.mono hHeld.size))
        replace H24 := Lib.hid (blk_below H24.out hb5)
        refine hK.out _ _ (HN.out) (fun hHeld => ?_)
        clear hK K
        refine norm_ (a' := ?_) ?_ ?_
        rotate_left
        · show Act.put _ (some 29) _ = _
          simp only [Act.put, List.setIfInBounds_toArray, List.set_cons_zero, List.set_cons_succ, i64_w, i32_w]
          rfl
        refine one_ (i := 1) (N := some 25) #[true, true, true, true, true, true, false, false, false] rfl rfl (by kernel_rfl) (by decide) (fun K hK => ?_)
        have hcv : (convert 39 9 (.slice (some ⟨w.heap.size, 0, none⟩) 1 1)).run Tryd.prog w5 = .ok (.string ⟨#[48]⟩) w5 := byte_at (x := 48) H24.out (by decide)
        refine value_ (w1 := ?_) (v := ?_) (by rfl) rfl ?_ ?_
        rotate_left 2
        · go_simp
          constructor
          · rfl
          · rfl
        refine hK.out _ _ (hHeld) (fun hHeld => ?_)
        clear hK K
        refine norm_ (a' := ?_) ?_ ?_
        rotate_left
        · show Act.put _ (some 25) _ = _
          simp only [Act.put, List.setIfInBounds_toArray, List.set_cons_zero, List.set_cons_succ, i64_w, i32_w]
          rfl
        exact norm_ (by simp only [putAll, Act.put, List.setIfInBounds_toArray, List.set_cons_zero, List.set_cons_succ]) (hCont w.heap.size _ hHeld)
    · skip
      refine goes_ Tryd.func31 (by kernel_rfl) rfl #[.int .u64 y, .int .i64 8, .bool true] (by rfl) rfl rfl (by (try simp only [List.map_toArray, List.map_cons, List.map_nil]); first | done | rfl) ?_
      with_reducible refine ((HF.out _)).mono ?_
      rintro e w5 ⟨rfl, hb5⟩
      refine ⟨_, rfl, ?_⟩
      have HN := Lib.hid (hHeld.trans (hb5.mono hHeld.size))
      refine hK.out _ _ (HN.out) (fun hHeld => ?_)
      clear hK K
      refine norm_ (a' := ?_) ?_ ?_
      rotate_left
      · show Act.put _ (some 29) _ = _
        simp only [Act.put, List.setIfInBounds_toArray, List.set_cons_zero, List.set_cons_succ, i64_w, i32_w]
        rfl
      refine one_ (i := 0) (N := some 24) #[true, false, true, true, true, true, false, false, false] rfl rfl (by kernel_rfl) (by decide) (fun K hK => ?_)
      refine value_ (w1 := ?_) (v := ?_) (by rfl) rfl ?_ ?_
      rotate_left 2
      · go_simp
        constructor
        · rfl
        · rfl
      have HN := Lib.hid (hHeld.alloc hHeld.size (.cells #[.int .u8 48] 5))
      have H24 := Lib.hid (blk_new w5 (.cells #[.int .u8 48] 5))
      refine hK.out _ _ (HN.out) (fun hHeld => ?_)
      clear hK K
      refine norm_ (a' := ?_) ?_ ?_
      rotate_left
      · show Act.put _ (some 24) _ = _
        simp only [Act.put, List.setIfInBounds_toArray, List.set_cons_zero, List.set_cons_succ, i64_w, i32_w]
        rfl
      refine one_ (i := 1) (N := some 25) #[true, true, true, true, true, true, false, false, false] rfl rfl (by kernel_rfl) (by decide) (fun K hK => ?_)
      have hcv : (convert 39 9 (.slice (some ⟨w5.heap.size, 0, none⟩) 1 1)).run Tryd.prog (w5.alloc (.cells #[.int .u8 48] 5)) = .ok (.string ⟨#[48]⟩) (w5.alloc (.cells #[.int .u8 48] 5)) := byte_at (x := 48) H24.out (by decide)
      refine value_ (w1 := ?_) (v := ?_) (by rfl) rfl ?_ ?_
      rotate_left 2
      · go_simp
        constructor
        · rfl
        · rfl
      refine hK.out _ _ (hHeld) (fun hHeld => ?_)
      clear hK K
      refine norm_ (a' := ?_) ?_ ?_
      rotate_left
      · show Act.put _ (some 25) _ = _
        simp only [Act.put, List.setIfInBounds_toArray, List.set_cons_zero, List.set_cons_succ, i64_w, i32_w]
        rfl
      exact norm_ (by simp only [putAll, Act.put, List.setIfInBounds_toArray, List.set_cons_zero, List.set_cons_succ]) (hCont w5.heap.size _ hHeld)
  rintro g24 w9 hHeld
  refine norm_ (a' := ?_) ?_ ?_
  rotate_left
  · simp only [putAll, Act.put, List.setIfInBounds_toArray, List.set_cons_zero, List.set_cons_succ]
    rfl
  refine pure_ (i := 6) (N := some 30) (v := ?_) (a' := ?_) #[true, true, true, true, true, true, true, false, false] rfl rfl (by kernel_rfl) (fun _ _ _ h => h) (Or.inl ⟨by rfl, ?_⟩) ?_ ?_
  rotate_left
  · intro w'
    go_simp
    with_reducible rfl
  rotate_left
  · simp only [Act.put, List.setIfInBounds_toArray, List.set_cons_zero, List.set_cons_succ, i64_w, i32_w]
    rfl
  refine pure_ (i := 7) (N := some 2) (v := ?_) (a' := ?_) #[true, true, true, true, true, true, true, true, false] rfl rfl (by kernel_rfl) (fun _ _ _ h => h) (Or.inl ⟨by rfl, ?_⟩) ?_ ?_
  rotate_left
  · intro w'
    go_simp
    with_reducible rfl
  rotate_left
  · simp only [Act.put, List.setIfInBounds_toArray, List.set_cons_zero, List.set_cons_succ, i64_w, i32_w]
    rfl
  refine pure_ (i := 8) (N := some 3) (v := ?_) (a' := ?_) #[true, true, true, true, true, true, true, true, true] rfl rfl (by kernel_rfl) (fun _ _ _ h => h) (Or.inl ⟨by rfl, ?_⟩) ?_ ?_
  rotate_left
  · intro w'
    go_simp
    with_reducible rfl
  rotate_left
  · simp only [Act.put, List.setIfInBounds_toArray, List.set_cons_zero, List.set_cons_succ, i64_w, i32_w]
    rfl
  refine done_ (by kernel_rfl) ?_

  go_wp2
  first | go_ret2 | go_ret
  exact ⟨by rw [HS.out]; rfl, hHeld⟩
end Go.Proofs.YtbbjnnbabikefaaDoor.My
