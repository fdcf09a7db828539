/- isoglosslaw03: value, awake; isoglossref03.Few. -/
import Derived.Test.YtbbjnnbabikefaaDoorKeys4
namespace Go.Proofs.YtbbjnnbabikefaaDoor.My
set_option linter.unusedSimpArgs false
set_option linter.unusedVariables false
open Go.RowKit Go.Proofs.YtbbjnnbabikefaaDoorW.PrintWords Go.Proofs.YtbbjnnbabikefaaDoorW.PrintLast Go.Proofs.YtbbjnnbabikefaaDoor.Pm

structure IR where
  k : Nat
  i : Int
  u : Nat
  t : ByteArray
  d : Bool
def IR.arr (x : IR) : Array Value := #[.int .u8 (x.k : Int), .int .i64 x.i, .int .u64 (x.u : Int), .string x.t, .bool x.d]
def irC (x : IR) : List Value := [.int .u8 (x.k : Int), .int .i64 x.i, .int .u64 (x.u : Int), .string x.t, .bool x.d]
theorem irC_len (x : IR) : (irC x).length = 5 := rfl
def IR.p (x : IR) : PIt := if x.k % 6 = 1 then .boo false else if x.k % 6 = 2 then .boo true else if x.k % 6 = 3 then .i64 x.i else if x.k % 6 = 4 then .u64 x.u else if x.k % 6 = 5 then .str x.t else .nul
def IR.In (x : IR) : Prop := x.k < 256 ∧ (-9223372036854775808 ≤ x.i ∧ x.i < 9223372036854775808) ∧ x.u < 18446744073709551616
theorem IR.ok {x : IR} (h : x.In) (ht : x.t.size ≤ 100) : x.p.ok := by
  unfold IR.p
  repeat' split
  all_goals first | exact trivial | exact h.2.1 | exact h.2.2 | exact Nat.le_trans ht (by decide)
set_option maxRecDepth 100000 in
set_option maxHeartbeats 4000000 in
theorem value_0_true (k u : Nat) (i : Int) (t : ByteArray) (w : World) (hk : k % 6 = 0) : Calls Tryd.prog 11 #[.agg #[.int .u8 (k : Int), .int .i64 i, .int .u64 (u : Int), .string t, .bool true]] w fun e w' => e = .returned (itV (.nul) true) ∧ Below w.heap.size w w' := by
  have x1 : (k : Int) % 6 = 0 := by omega
  have x2 : Int.tmod (k : Int) 6 = 0 := by rw [Int.tmod_eq_emod_of_nonneg (by omega)]; exact x1
  have HB := Lib.hid (below_alloc (Below.refl w.heap.size w) (.cells #[.int .u8 (k : Int), .int .i64 i, .int .u64 (u : Int), .string t, .bool true] 24))
  clear hk
  go_enter Tryd.func11, Tryd.ntmps11
  go_wp2
  go_ret
  exact ⟨rfl, HB.out⟩
set_option maxRecDepth 100000 in
set_option maxHeartbeats 4000000 in
theorem value_0_false (k u : Nat) (i : Int) (t : ByteArray) (w : World) (hk : k % 6 = 0) : Calls Tryd.prog 11 #[.agg #[.int .u8 (k : Int), .int .i64 i, .int .u64 (u : Int), .string t, .bool false]] w fun e w' => e = .returned (itV (.nul) false) ∧ Below w.heap.size w w' := by
  have x1 : (k : Int) % 6 = 0 := by omega
  have x2 : Int.tmod (k : Int) 6 = 0 := by rw [Int.tmod_eq_emod_of_nonneg (by omega)]; exact x1
  have HB := Lib.hid (below_alloc (Below.refl w.heap.size w) (.cells #[.int .u8 (k : Int), .int .i64 i, .int .u64 (u : Int), .string t, .bool false] 24))
  clear hk
  go_enter Tryd.func11, Tryd.ntmps11
  go_wp2
  go_ret
  exact ⟨rfl, HB.out⟩
set_option maxRecDepth 100000 in
set_option maxHeartbeats 4000000 in
theorem value_1_true (k u : Nat) (i : Int) (t : ByteArray) (w : World) (hk : k % 6 = 1) : Calls Tryd.prog 11 #[.agg #[.int .u8 (k : Int), .int .i64 i, .int .u64 (u : Int), .string t, .bool true]] w fun e w' => e = .returned (itV (.boo false) true) ∧ Below w.heap.size w w' := by
  have x1 : (k : Int) % 6 = 1 := by omega
  have x2 : Int.tmod (k : Int) 6 = 1 := by rw [Int.tmod_eq_emod_of_nonneg (by omega)]; exact x1
  have HB := Lib.hid (below_alloc (Below.refl w.heap.size w) (.cells #[.int .u8 (k : Int), .int .i64 i, .int .u64 (u : Int), .string t, .bool true] 24))
  clear hk
  go_enter Tryd.func11, Tryd.ntmps11
  go_wp2
  go_ret
  exact ⟨rfl, HB.out⟩
set_option maxRecDepth 100000 in
set_option maxHeartbeats 4000000 in
theorem value_1_false (k u : Nat) (i : Int) (t : ByteArray) (w : World) (hk : k % 6 = 1) : Calls Tryd.prog 11 #[.agg #[.int .u8 (k : Int), .int .i64 i, .int .u64 (u : Int), .string t, .bool false]] w fun e w' => e = .returned (itV (.boo false) false) ∧ Below w.heap.size w w' := by
  have x1 : (k : Int) % 6 = 1 := by omega
  have x2 : Int.tmod (k : Int) 6 = 1 := by rw [Int.tmod_eq_emod_of_nonneg (by omega)]; exact x1
  have HB := Lib.hid (below_alloc (Below.refl w.heap.size w) (.cells #[.int .u8 (k : Int), .int .i64 i, .int .u64 (u : Int), .string t, .bool false] 24))
  clear hk
  go_enter Tryd.func11, Tryd.ntmps11
  go_wp2
  go_ret
  exact ⟨rfl, HB.out⟩
set_option maxRecDepth 100000 in
set_option maxHeartbeats 4000000 in
theorem value_2_true (k u : Nat) (i : Int) (t : ByteArray) (w : World) (hk : k % 6 = 2) : Calls Tryd.prog 11 #[.agg #[.int .u8 (k : Int), .int .i64 i, .int .u64 (u : Int), .string t, .bool true]] w fun e w' => e = .returned (itV (.boo true) true) ∧ Below w.heap.size w w' := by
  have x1 : (k : Int) % 6 = 2 := by omega
  have x2 : Int.tmod (k : Int) 6 = 2 := by rw [Int.tmod_eq_emod_of_nonneg (by omega)]; exact x1
  have HB := Lib.hid (below_alloc (Below.refl w.heap.size w) (.cells #[.int .u8 (k : Int), .int .i64 i, .int .u64 (u : Int), .string t, .bool true] 24))
  clear hk
  go_enter Tryd.func11, Tryd.ntmps11
  go_wp2
  go_ret
  exact ⟨rfl, HB.out⟩
set_option maxRecDepth 100000 in
set_option maxHeartbeats 4000000 in
theorem value_2_false (k u : Nat) (i : Int) (t : ByteArray) (w : World) (hk : k % 6 = 2) : Calls Tryd.prog 11 #[.agg #[.int .u8 (k : Int), .int .i64 i, .int .u64 (u : Int), .string t, .bool false]] w fun e w' => e = .returned (itV (.boo true) false) ∧ Below w.heap.size w w' := by
  have x1 : (k : Int) % 6 = 2 := by omega
  have x2 : Int.tmod (k : Int) 6 = 2 := by rw [Int.tmod_eq_emod_of_nonneg (by omega)]; exact x1
  have HB := Lib.hid (below_alloc (Below.refl w.heap.size w) (.cells #[.int .u8 (k : Int), .int .i64 i, .int .u64 (u : Int), .string t, .bool false] 24))
  clear hk
  go_enter Tryd.func11, Tryd.ntmps11
  go_wp2
  go_ret
  exact ⟨rfl, HB.out⟩
set_option maxRecDepth 100000 in
set_option maxHeartbeats 4000000 in
theorem value_3_true (k u : Nat) (i : Int) (t : ByteArray) (w : World) (hk : k % 6 = 3) : Calls Tryd.prog 11 #[.agg #[.int .u8 (k : Int), .int .i64 i, .int .u64 (u : Int), .string t, .bool true]] w fun e w' => e = .returned (itV (.i64 i) true) ∧ Below w.heap.size w w' := by
  have x1 : (k : Int) % 6 = 3 := by omega
  have x2 : Int.tmod (k : Int) 6 = 3 := by rw [Int.tmod_eq_emod_of_nonneg (by omega)]; exact x1
  have HB := Lib.hid (below_alloc (Below.refl w.heap.size w) (.cells #[.int .u8 (k : Int), .int .i64 i, .int .u64 (u : Int), .string t, .bool true] 24))
  clear hk
  go_enter Tryd.func11, Tryd.ntmps11
  go_wp2
  go_ret
  exact ⟨rfl, HB.out⟩
set_option maxRecDepth 100000 in
set_option maxHeartbeats 4000000 in
theorem value_3_false (k u : Nat) (i : Int) (t : ByteArray) (w : World) (hk : k % 6 = 3) : Calls Tryd.prog 11 #[.agg #[.int .u8 (k : Int), .int .i64 i, .int .u64 (u : Int), .string t, .bool false]] w fun e w' => e = .returned (itV (.i64 i) false) ∧ Below w.heap.size w w' := by
  have x1 : (k : Int) % 6 = 3 := by omega
  have x2 : Int.tmod (k : Int) 6 = 3 := by rw [Int.tmod_eq_emod_of_nonneg (by omega)]; exact x1
  have HB := Lib.hid (below_alloc (Below.refl w.heap.size w) (.cells #[.int .u8 (k : Int), .int .i64 i, .int .u64 (u : Int), .string t, .bool false] 24))
  clear hk
  go_enter Tryd.func11, Tryd.ntmps11
  go_wp2
  go_ret
  exact ⟨rfl, HB.out⟩
set_option maxRecDepth 100000 in
set_option maxHeartbeats 4000000 in
theorem value_4_true (k u : Nat) (i : Int) (t : ByteArray) (w : World) (hk : k % 6 = 4) : Calls Tryd.prog 11 #[.agg #[.int .u8 (k : Int), .int .i64 i, .int .u64 (u : Int), .string t, .bool true]] w fun e w' => e = .returned (itV (.u64 u) true) ∧ Below w.heap.size w w' := by
  have x1 : (k : Int) % 6 = 4 := by omega
  have x2 : Int.tmod (k : Int) 6 = 4 := by rw [Int.tmod_eq_emod_of_nonneg (by omega)]; exact x1
  have HB := Lib.hid (below_alloc (Below.refl w.heap.size w) (.cells #[.int .u8 (k : Int), .int .i64 i, .int .u64 (u : Int), .string t, .bool true] 24))
  clear hk
  go_enter Tryd.func11, Tryd.ntmps11
  go_wp2
  go_ret
  exact ⟨rfl, HB.out⟩
set_option maxRecDepth 100000 in
set_option maxHeartbeats 4000000 in
theorem value_4_false (k u : Nat) (i : Int) (t : ByteArray) (w : World) (hk : k % 6 = 4) : Calls Tryd.prog 11 #[.agg #[.int .u8 (k : Int), .int .i64 i, .int .u64 (u : Int), .string t, .bool false]] w fun e w' => e = .returned (itV (.u64 u) false) ∧ Below w.heap.size w w' := by
  have x1 : (k : Int) % 6 = 4 := by omega
  have x2 : Int.tmod (k : Int) 6 = 4 := by rw [Int.tmod_eq_emod_of_nonneg (by omega)]; exact x1
  have HB := Lib.hid (below_alloc (Below.refl w.heap.size w) (.cells #[.int .u8 (k : Int), .int .i64 i, .int .u64 (u : Int), .string t, .bool false] 24))
  clear hk
  go_enter Tryd.func11, Tryd.ntmps11
  go_wp2
  go_ret
  exact ⟨rfl, HB.out⟩
set_option maxRecDepth 100000 in
set_option maxHeartbeats 4000000 in
theorem value_5_true (k u : Nat) (i : Int) (t : ByteArray) (w : World) (hk : k % 6 = 5) : Calls Tryd.prog 11 #[.agg #[.int .u8 (k : Int), .int .i64 i, .int .u64 (u : Int), .string t, .bool true]] w fun e w' => e = .returned (itV (.str t) true) ∧ Below w.heap.size w w' := by
  have x1 : (k : Int) % 6 = 5 := by omega
  have x2 : Int.tmod (k : Int) 6 = 5 := by rw [Int.tmod_eq_emod_of_nonneg (by omega)]; exact x1
  have HB := Lib.hid (below_alloc (Below.refl w.heap.size w) (.cells #[.int .u8 (k : Int), .int .i64 i, .int .u64 (u : Int), .string t, .bool true] 24))
  clear hk
  go_enter Tryd.func11, Tryd.ntmps11
  go_wp2
  go_ret
  exact ⟨rfl, HB.out⟩
set_option maxRecDepth 100000 in
set_option maxHeartbeats 4000000 in
theorem value_5_false (k u : Nat) (i : Int) (t : ByteArray) (w : World) (hk : k % 6 = 5) : Calls Tryd.prog 11 #[.agg #[.int .u8 (k : Int), .int .i64 i, .int .u64 (u : Int), .string t, .bool false]] w fun e w' => e = .returned (itV (.str t) false) ∧ Below w.heap.size w w' := by
  have x1 : (k : Int) % 6 = 5 := by omega
  have x2 : Int.tmod (k : Int) 6 = 5 := by rw [Int.tmod_eq_emod_of_nonneg (by omega)]; exact x1
  have HB := Lib.hid (below_alloc (Below.refl w.heap.size w) (.cells #[.int .u8 (k : Int), .int .i64 i, .int .u64 (u : Int), .string t, .bool false] 24))
  clear hk
  go_enter Tryd.func11, Tryd.ntmps11
  go_wp2
  go_ret
  exact ⟨rfl, HB.out⟩
theorem value_any (x : IR) (w : World) : Calls Tryd.prog 11 #[.agg x.arr] w fun e w' => e = .returned (itV x.p x.d) ∧ Below w.heap.size w w' := by
  obtain ⟨k, i, u, t, d⟩ := x
  unfold IR.p IR.arr
  simp only
  rcases (show k % 6 = 0 ∨ k % 6 = 1 ∨ k % 6 = 2 ∨ k % 6 = 3 ∨ k % 6 = 4 ∨ k % 6 = 5 by omega) with h | h | h | h | h | h
  all_goals
    simp only [h]
    cases d
  · exact value_0_false k u i t w h
  · exact value_0_true k u i t w h
  · exact value_1_false k u i t w h
  · exact value_1_true k u i t w h
  · exact value_2_false k u i t w h
  · exact value_2_true k u i t w h
  · exact value_3_false k u i t w h
  · exact value_3_true k u i t w h
  · exact value_4_false k u i t w h
  · exact value_4_true k u i t w h
  · exact value_5_false k u i t w h
  · exact value_5_true k u i t w h
set_option maxRecDepth 100000 in
set_option maxHeartbeats 4000000 in
theorem few03_any (A : Option Addr) (n c : Nat) (l : List IR) (w : World) (hA : RowF w 5 irC A n l) (hn : n ≤ 140737488351232) :
    Calls Tryd.prog 9 #[.slice A n c] w fun e w' => ∃ b : Bool, e = .returned (.bool b) ∧ (b = true → n ≤ 12 ∧ ∀ x ∈ l, x.t.size ≤ 100) ∧ w' = w := by
  have HA := Lib.hid hA; clear hA
  go_enter Tryd.func9, Tryd.ntmps9
  go_wp2
  go_loopw [3] (fun u wr => ∃ i : Nat, u = .int .i64 i ∧ i ≤ n ∧ i ≤ 50 ∧ Hid (∀ j (h : j < l.length), j < i → l[j].t.size ≤ 100) ∧ wr = w) (fun u _ => n - (intOf u).toNat)
  case atStart => exact ⟨0, rfl, Nat.zero_le _, Nat.zero_le _, Lib.hid (fun j _ h => absurd h (Nat.not_lt_zero _)), rfl⟩
  case round =>
    obtain ⟨i, rfl, hi, hi5, HT, rfl⟩ := hrel
    by_cases hlt : i < n
    · by_cases h5 : i < 50
      · have y5 : decide ((i : Int) < 50) = true := decide_eq_true (by omega)
        obtain ⟨bb, off, hj, rfl, hbW, hc⟩ := HA.out.get i hlt
        have HTI := Lib.hid (fun (h50 : l[i].t.size ≤ 100) => (show ∀ j (h : j < l.length), j < i + 1 → l[j].t.size ≤ 100 from fun j h hji => by
          by_cases e : j = i
          · subst e; exact h50
          · exact HT.out j h (by omega)))
        obtain ⟨⟨k, ii, u, t, d⟩, hx⟩ : ∃ x, l[i] = x := ⟨_, rfl⟩
        rw [hx] at hc HTI
        simp only at HTI
        have c1 : wr.cell? ⟨bb, off + i * 5 + 3, none⟩ = some (.string t) := hc 3 _ rfl
        clear hc hx hj
        have hw := succ_w' hlt hn
        by_cases h50 : 100 < t.size
        · have y2 : decide (100 < (t.size : Int)) = true := decide_eq_true (by omega)
          have y2n : decide (100 < t.size) = true := decide_eq_true h50
          go_wp2
          go_ret
          exact ⟨false, rfl, (fun h => by cases h), rfl⟩
        have y2 : decide (100 < (t.size : Int)) = false := decide_eq_false (by omega)
        have y2n : decide (100 < t.size) = false := decide_eq_false h50
        have HT2 := Lib.hid (HTI.out (by omega))
        have HLT := Lib.hid hlt
        have H5 := Lib.hid h5
        go_wp2
        go_roundw
        case rel => exact ⟨i + 1, by go_num, HLT.out, H5.out, HT2, by trivial⟩
        case measure => first | exact kup_w HLT.out hw | exact kup_n HLT.out
      · obtain rfl : i = 50 := by omega
        have y6 : decide ((n : Int) ≤ 12) = false := decide_eq_false (by omega)
        have y6n : decide (n ≤ 12) = false := decide_eq_false (by omega)
        go_wp2
        go_ret
        exact ⟨false, rfl, (fun h => by cases h), rfl⟩
    · obtain rfl : i = n := by omega
      have HLL := Lib.hid (show ∀ x ∈ l, x.t.size ≤ 100 from fun x hx => by
        obtain ⟨j, hj, rfl⟩ := List.getElem_of_mem hx
        exact HT.out j hj (by have := HA.out.1; omega))
      by_cases h12 : i ≤ 12
      · have y6 : decide ((i : Int) ≤ 12) = true := decide_eq_true (by omega)
        have y6n : decide (i ≤ 12) = true := decide_eq_true h12
        have H12 := Lib.hid h12
        go_wp2
        go_ret
        exact ⟨true, rfl, fun _ => ⟨H12.out, HLL.out⟩, rfl⟩
      · have y6 : decide ((i : Int) ≤ 12) = false := decide_eq_false (by omega)
        have y6n : decide (i ≤ 12) = false := decide_eq_false h12
        go_wp2
        go_ret
        exact ⟨false, rfl, (fun h => by cases h), rfl⟩
theorem awake_enc : encL [(.boo true, false), (.str ⟨#[97]⟩, false)] = ⟨#[33, 80, 97, 0, 0]⟩ := by
  decide
set_option maxRecDepth 100000 in
set_option maxHeartbeats 4000000 in
theorem awake03 (w : World) (hg : Glob w) : Calls Tryd.prog 8 #[] w fun e w' => e = .returned (.bool true) ∧ Below w.heap.size w w' := by
  have hr : RowF (w.alloc (.cells #[.iface 4 (.bool true), .iface 9 (.string ⟨#[97]⟩)] 20)) 1 itC (some ⟨w.heap.size, 0, none⟩) 2 [(.boo true, false), (.str ⟨#[97]⟩, false)] := by
    refine ⟨rfl, fun _ => ⟨w.heap.size, 0, rfl, by simp, fun j hj => ?_⟩⟩
    have hn := blk_new w (.cells #[.iface 4 (.bool true), .iface 9 (.string ⟨#[97]⟩)] 20)
    intro q v hv
    match j, hj, q, hv with
    | 0, _, 0, hv => exact (blk_cell hn 0).trans (by cases hv; rfl)
    | 1, _, 0, hv => exact (blk_cell hn 1).trans (by cases hv; rfl)
  have HB := Lib.hid (below_alloc (Below.refl w.heap.size w) (.cells #[.iface 4 (.bool true), .iface 9 (.string ⟨#[97]⟩)] 20))
  have HE := Lib.hid (encode_any _ 2 2 _ _ hr (by decide) (by intro x hx; simp at hx; rcases hx with rfl | rfl; exact trivial; show (1 : Nat) ≤ 1000; decide) (hg.below HB.out))
  rw [awake_enc] at HE
  clear hr hg
  go_enter Tryd.func8, Tryd.ntmps8
  go_wp2_with fail
  refine HE.out.mono ?_
  rintro e w1 ⟨rfl, hb⟩
  replace HB := Lib.hid (HB.out.trans (hb.mono HB.out.size))
  go_wp2
  go_ret
  exact ⟨rfl, HB.out⟩
end Go.Proofs.YtbbjnnbabikefaaDoor.My
