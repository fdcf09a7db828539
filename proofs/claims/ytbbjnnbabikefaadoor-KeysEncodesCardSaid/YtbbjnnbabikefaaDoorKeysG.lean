/- isoglossref03: Item.Bytes. -/
import Derived.Test.YtbbjnnbabikefaaDoorKeysE
namespace Go.Proofs.YtbbjnnbabikefaaDoor.My
set_option linter.unusedSimpArgs false
set_option linter.unusedVariables false
open Go.RowKit Go.Proofs.YtbbjnnbabikefaaDoorW.PrintWords Go.Proofs.YtbbjnnbabikefaaDoorW.PrintLast Go.Proofs.YtbbjnnbabikefaaDoor.Pm

theorem byt_one {w : World} {base g : Nat} {b : UInt8} (hg : w.heap[g]? = some (.cells #[.int .u8 (b.toNat : Int)] 5 (0, 0))) (hb : base ≤ g) : Byt w base (.slice (some ⟨g, 0, none⟩) 1 1) [b] := by
  have h := OwnF.one (f := fun b : UInt8 => [.int .u8 (b.toNat : Int)]) (x := b) (n := 1) hg hb rfl rfl
  exact h
theorem byt_row {w : World} {base g m c : Nat} {o : List UInt8} (h : Byt w base (.slice (some ⟨g, 0, none⟩) m c) o) : ByteRow w g o ∧ base ≤ g ∧ g < w.heap.size ∧ m = o.length := by
  rcases h.2 with ⟨h0, _⟩ | ⟨g', cap, cur, h0, hb, hg, hc, _, hs, ht⟩
  · cases h0
  · injection h0 with h2 h3 h4
    simp only [Option.some.injEq, Addr.mk.injEq] at h2
    obtain ⟨rfl, -, -⟩ := h2
    refine ⟨fun j hj => ⟨?_, blk_frozen hg j⟩, hb, blk_lt hg, h3⟩
    refine (blk_cell hg j).trans ?_
    have e : (nums .u8 (nb o))[j]? = some (.int .u8 ((o[j]).toNat : Int)) := by simp [nums, nb, hj]
    rw [← ht, List.getElem?_take, if_pos (by omega), Array.getElem?_toList] at e
    exact e
theorem byt_zeros {w : World} {base : Nat} {g : Nat} (hg : w.heap[g]? = some (.cells #[.int .u8 0, .int .u8 0] 5 (0, 0))) : RowF w 1 (fun b : UInt8 => [.int .u8 (b.toNat : Int)]) (some ⟨g, 0, none⟩) 2 [0, 0] := by
  refine ⟨rfl, fun _ => ⟨g, 0, rfl, blk_lt hg, fun j hj => ?_⟩⟩
  intro q v hv
  match j, hj, q, hv with
  | 0, _, 0, hv => exact (blk_cell hg 0).trans (by cases hv; rfl)
  | 1, _, 0, hv => exact (blk_cell hg 1).trans (by cases hv; rfl)
theorem byt_flat (o : List UInt8) : o.flatMap (fun b : UInt8 => [Value.int .u8 (b.toNat : Int)]) = nums .u8 (nb o) := by
  induction o with
  | nil => rfl
  | cons b o ih => rw [List.flatMap_cons, ih]; rfl
theorem byt_own {w : World} {base : Nat} {v : Value} {o : List UInt8} : Byt w base v o ↔ OwnF w base 5 1 (fun b : UInt8 => [.int .u8 (b.toNat : Int)]) v o := by
  unfold Byt OwnF
  rw [byt_flat]
theorem up_i64 (i : Int) (hi : -9223372036854775808 ≤ i ∧ i < 9223372036854775808) : IntKind.u64.wrap (IntKind.u64.wrap i + 9223372036854775808) = i + 9223372036854775808 := by
  simp only [IntKind.wrap_u64]
  omega
theorem sub_u8 (b : UInt8) : IntKind.u8.wrap (255 - (b.toNat : Int)) = ((notU b).toNat : Int) := by
  have := b.toNat_lt
  rw [notU_nat]
  simp only [IntKind.wrap_u8]
  omega
theorem fx_bl (n : Nat) : bl (strOfNums (fixedTo (n : Int) 8 true 8)) = bl (fixedS (n : Int) 8 true) := by
  unfold fixedS
  rw [if_neg (by omega)]
  rfl
theorem item_str {o : List UInt8} {p : PIt} {d : Bool} (h : o = bl (oneS p)) : (⟨(turnL d o).toArray⟩ : ByteArray) = itemS p d := by
  subst h
  exact bl_ext (bl_item (p, d)).symm
theorem esc_snoc (l : List UInt8) (b : UInt8) : escB (l ++ [b]) = escB l ++ (if b = 0 then [0, 255] else [b]) := by
  induction l with
  | nil =>
    by_cases h : b = 0
    · simp [escB, h]
    · simp [escB, h]
  | cons a l ih =>
    by_cases h : a = 0
    · simp only [List.cons_append, escB, h, if_true, ih]
    · simp only [List.cons_append, escB, h, if_false, ih]
set_option maxRecDepth 100000 in
set_option maxHeartbeats 8000000 in
theorem bytes_0_false (k u : Nat) (i : Int) (t : ByteArray) (w : World) (hk : k % 6 = 0) : Calls Tryd.prog 23 #[.agg #[.int .u8 (k : Int), .int .i64 i, .int .u64 (u : Int), .string t, .bool false]] w fun e w' => e = .returned (.string (itemS (.nul) false)) ∧ Below w.heap.size w w' := by
  have x1 : (k : Int) % 6 = 0 := by omega
  have x2 : Int.tmod (k : Int) 6 = 0 := by rw [Int.tmod_eq_emod_of_nonneg (by omega)]; exact x1
  have hix : ∀ W, (Instr.index 63 (.agg #[.int .u8 16, .int .u8 32, .int .u8 33, .int .u8 48, .int .u8 64, .int .u8 80]) (.int .u8 0)).run Tryd.prog W = .ok (.int .u8 16) W := fun _ => by kernel_rfl
  have HB2 := Lib.hid (below_alloc (Below.refl w.heap.size w) (.cells #[.int .u8 (k : Int), .int .i64 i, .int .u64 (u : Int), .string t, .bool false] 24))
  have HN := Lib.hid (blk_new w (.cells #[.int .u8 (k : Int), .int .i64 i, .int .u64 (u : Int), .string t, .bool false] 24))
  clear hk
  go_enter Tryd.func23, Tryd.ntmps23
  go_wp2
  obtain ⟨W0, hW0⟩ : ∃ W0, w.alloc (.cells #[.int .u8 (k : Int), .int .i64 i, .int .u64 (u : Int), .string t, .bool false] 24) = W0 := ⟨_, rfl⟩
  have hz : W0.heap.size = w.heap.size + 1 := by rw [← hW0]; simp
  rw [hW0] at HB2 HN ⊢
  rw [← hz]
  have HC4 := Lib.hid ((blk_cell HN.out 4).trans (show _ = some (.bool false) from rfl))
  have HLT0 := Lib.hid (show w.heap.size < W0.heap.size by rw [hz]; exact Nat.lt_succ_self _)
  have HO0 := Lib.hid (byt_one (base := W0.heap.size) (b := 16) (blk_new W0 (.cells #[.int .u8 16] 5)) (Nat.le_refl _))
  have HB0 := Lib.hid (below_alloc (Below.refl W0.heap.size W0) (.cells #[.int .u8 16] 5))
  have HLT1 := Lib.hid (blk_lt (blk_new W0 (.cells #[.int .u8 16] 5)))
  clear hW0 hz
  generalize W0.alloc (.cells #[.int .u8 16] 5) = wr at *
  generalize Value.slice (some ⟨W0.heap.size, 0, none⟩) 1 1 = v at *
  have HO := HO0
  have HB := HB0
  obtain ⟨o, ho⟩ : ∃ o : List UInt8, [16] = o := ⟨_, rfl⟩
  have HE := Lib.hid (show o = bl (oneS (.nul)) by rw [← ho]; rfl)
  have HPOS := Lib.hid (show 0 < o.length ∧ o.length ≤ 5000 by rw [← ho]; exact ⟨by decide, by decide⟩)
  rw [ho] at HO
  clear ho HO0 HB0 HLT1
  obtain ⟨g, cap, hv, hg0, hg, -⟩ := HO.out.form HPOS.out.1
  cases hv
  have hcv0 := HO.out.conv
  obtain ⟨hr, -, -, -⟩ := byt_row HO.out
  have HF := Lib.hid (item_str (d := false) HE.out)
  have HGE := Lib.hid hg0; clear hg0
  obtain ⟨m, hm⟩ : ∃ m, o.length = m := ⟨_, rfl⟩
  have HM := Lib.hid hm.symm
  have hmz : m ≤ 5000 := by have := HPOS.out.2; omega
  have hm0 : 0 < m := by have := HPOS.out.1; omega
  have HMZ := Lib.hid (And.intro hmz hm0)
  rw [hm] at hcv0 ⊢
  clear hm
  have c4 : wr.cell? ⟨w.heap.size, 4, none⟩ = some (.bool false) := (HB.out.cell (p := ⟨w.heap.size, 4, none⟩) HLT0.out).trans HC4.out
  clear hr hg HPOS
  have y0 : decide ((0 : Int) < (m : Int)) = true := decide_eq_true (by omega)
  have y0n : decide (0 < m) = true := decide_eq_true (by omega)
  go_loopw [6] (fun u wz => u = .int .i64 0 ∧ wz = wr) (fun _ _ => 0)
  case atStart => exact ⟨rfl, rfl⟩
  case round =>
    obtain ⟨rfl, rfl⟩ := hrel
    go_wp2
    go_ret
    exact ⟨congrArg (fun x => Ending.returned (.string x)) HF.out, HB2.out.trans (HB.out.mono HB2.out.size)⟩
set_option maxRecDepth 100000 in
set_option maxHeartbeats 8000000 in
theorem bytes_1_false (k u : Nat) (i : Int) (t : ByteArray) (w : World) (hk : k % 6 = 1) : Calls Tryd.prog 23 #[.agg #[.int .u8 (k : Int), .int .i64 i, .int .u64 (u : Int), .string t, .bool false]] w fun e w' => e = .returned (.string (itemS (.boo false) false)) ∧ Below w.heap.size w w' := by
  have x1 : (k : Int) % 6 = 1 := by omega
  have x2 : Int.tmod (k : Int) 6 = 1 := by rw [Int.tmod_eq_emod_of_nonneg (by omega)]; exact x1
  have hix : ∀ W, (Instr.index 63 (.agg #[.int .u8 16, .int .u8 32, .int .u8 33, .int .u8 48, .int .u8 64, .int .u8 80]) (.int .u8 1)).run Tryd.prog W = .ok (.int .u8 32) W := fun _ => by kernel_rfl
  have HB2 := Lib.hid (below_alloc (Below.refl w.heap.size w) (.cells #[.int .u8 (k : Int), .int .i64 i, .int .u64 (u : Int), .string t, .bool false] 24))
  have HN := Lib.hid (blk_new w (.cells #[.int .u8 (k : Int), .int .i64 i, .int .u64 (u : Int), .string t, .bool false] 24))
  clear hk
  go_enter Tryd.func23, Tryd.ntmps23
  go_wp2
  obtain ⟨W0, hW0⟩ : ∃ W0, w.alloc (.cells #[.int .u8 (k : Int), .int .i64 i, .int .u64 (u : Int), .string t, .bool false] 24) = W0 := ⟨_, rfl⟩
  have hz : W0.heap.size = w.heap.size + 1 := by rw [← hW0]; simp
  rw [hW0] at HB2 HN ⊢
  rw [← hz]
  have HC4 := Lib.hid ((blk_cell HN.out 4).trans (show _ = some (.bool false) from rfl))
  have HLT0 := Lib.hid (show w.heap.size < W0.heap.size by rw [hz]; exact Nat.lt_succ_self _)
  have HO0 := Lib.hid (byt_one (base := W0.heap.size) (b := 32) (blk_new W0 (.cells #[.int .u8 32] 5)) (Nat.le_refl _))
  have HB0 := Lib.hid (below_alloc (Below.refl W0.heap.size W0) (.cells #[.int .u8 32] 5))
  have HLT1 := Lib.hid (blk_lt (blk_new W0 (.cells #[.int .u8 32] 5)))
  clear hW0 hz
  generalize W0.alloc (.cells #[.int .u8 32] 5) = wr at *
  generalize Value.slice (some ⟨W0.heap.size, 0, none⟩) 1 1 = v at *
  have HO := HO0
  have HB := HB0
  obtain ⟨o, ho⟩ : ∃ o : List UInt8, [32] = o := ⟨_, rfl⟩
  have HE := Lib.hid (show o = bl (oneS (.boo false)) by rw [← ho]; rfl)
  have HPOS := Lib.hid (show 0 < o.length ∧ o.length ≤ 5000 by rw [← ho]; exact ⟨by decide, by decide⟩)
  rw [ho] at HO
  clear ho HO0 HB0 HLT1
  obtain ⟨g, cap, hv, hg0, hg, -⟩ := HO.out.form HPOS.out.1
  cases hv
  have hcv0 := HO.out.conv
  obtain ⟨hr, -, -, -⟩ := byt_row HO.out
  have HF := Lib.hid (item_str (d := false) HE.out)
  have HGE := Lib.hid hg0; clear hg0
  obtain ⟨m, hm⟩ : ∃ m, o.length = m := ⟨_, rfl⟩
  have HM := Lib.hid hm.symm
  have hmz : m ≤ 5000 := by have := HPOS.out.2; omega
  have hm0 : 0 < m := by have := HPOS.out.1; omega
  have HMZ := Lib.hid (And.intro hmz hm0)
  rw [hm] at hcv0 ⊢
  clear hm
  have c4 : wr.cell? ⟨w.heap.size, 4, none⟩ = some (.bool false) := (HB.out.cell (p := ⟨w.heap.size, 4, none⟩) HLT0.out).trans HC4.out
  clear hr hg HPOS
  have y0 : decide ((0 : Int) < (m : Int)) = true := decide_eq_true (by omega)
  have y0n : decide (0 < m) = true := decide_eq_true (by omega)
  go_loopw [6] (fun u wz => u = .int .i64 0 ∧ wz = wr) (fun _ _ => 0)
  case atStart => exact ⟨rfl, rfl⟩
  case round =>
    obtain ⟨rfl, rfl⟩ := hrel
    go_wp2
    go_ret
    exact ⟨congrArg (fun x => Ending.returned (.string x)) HF.out, HB2.out.trans (HB.out.mono HB2.out.size)⟩
set_option maxRecDepth 100000 in
set_option maxHeartbeats 8000000 in
theorem bytes_2_false (k u : Nat) (i : Int) (t : ByteArray) (w : World) (hk : k % 6 = 2) : Calls Tryd.prog 23 #[.agg #[.int .u8 (k : Int), .int .i64 i, .int .u64 (u : Int), .string t, .bool false]] w fun e w' => e = .returned (.string (itemS (.boo true) false)) ∧ Below w.heap.size w w' := by
  have x1 : (k : Int) % 6 = 2 := by omega
  have x2 : Int.tmod (k : Int) 6 = 2 := by rw [Int.tmod_eq_emod_of_nonneg (by omega)]; exact x1
  have hix : ∀ W, (Instr.index 63 (.agg #[.int .u8 16, .int .u8 32, .int .u8 33, .int .u8 48, .int .u8 64, .int .u8 80]) (.int .u8 2)).run Tryd.prog W = .ok (.int .u8 33) W := fun _ => by kernel_rfl
  have HB2 := Lib.hid (below_alloc (Below.refl w.heap.size w) (.cells #[.int .u8 (k : Int), .int .i64 i, .int .u64 (u : Int), .string t, .bool false] 24))
  have HN := Lib.hid (blk_new w (.cells #[.int .u8 (k : Int), .int .i64 i, .int .u64 (u : Int), .string t, .bool false] 24))
  clear hk
  go_enter Tryd.func23, Tryd.ntmps23
  go_wp2
  obtain ⟨W0, hW0⟩ : ∃ W0, w.alloc (.cells #[.int .u8 (k : Int), .int .i64 i, .int .u64 (u : Int), .string t, .bool false] 24) = W0 := ⟨_, rfl⟩
  have hz : W0.heap.size = w.heap.size + 1 := by rw [← hW0]; simp
  rw [hW0] at HB2 HN ⊢
  rw [← hz]
  have HC4 := Lib.hid ((blk_cell HN.out 4).trans (show _ = some (.bool false) from rfl))
  have HLT0 := Lib.hid (show w.heap.size < W0.heap.size by rw [hz]; exact Nat.lt_succ_self _)
  have HO0 := Lib.hid (byt_one (base := W0.heap.size) (b := 33) (blk_new W0 (.cells #[.int .u8 33] 5)) (Nat.le_refl _))
  have HB0 := Lib.hid (below_alloc (Below.refl W0.heap.size W0) (.cells #[.int .u8 33] 5))
  have HLT1 := Lib.hid (blk_lt (blk_new W0 (.cells #[.int .u8 33] 5)))
  clear hW0 hz
  generalize W0.alloc (.cells #[.int .u8 33] 5) = wr at *
  generalize Value.slice (some ⟨W0.heap.size, 0, none⟩) 1 1 = v at *
  have HO := HO0
  have HB := HB0
  obtain ⟨o, ho⟩ : ∃ o : List UInt8, [33] = o := ⟨_, rfl⟩
  have HE := Lib.hid (show o = bl (oneS (.boo true)) by rw [← ho]; rfl)
  have HPOS := Lib.hid (show 0 < o.length ∧ o.length ≤ 5000 by rw [← ho]; exact ⟨by decide, by decide⟩)
  rw [ho] at HO
  clear ho HO0 HB0 HLT1
  obtain ⟨g, cap, hv, hg0, hg, -⟩ := HO.out.form HPOS.out.1
  cases hv
  have hcv0 := HO.out.conv
  obtain ⟨hr, -, -, -⟩ := byt_row HO.out
  have HF := Lib.hid (item_str (d := false) HE.out)
  have HGE := Lib.hid hg0; clear hg0
  obtain ⟨m, hm⟩ : ∃ m, o.length = m := ⟨_, rfl⟩
  have HM := Lib.hid hm.symm
  have hmz : m ≤ 5000 := by have := HPOS.out.2; omega
  have hm0 : 0 < m := by have := HPOS.out.1; omega
  have HMZ := Lib.hid (And.intro hmz hm0)
  rw [hm] at hcv0 ⊢
  clear hm
  have c4 : wr.cell? ⟨w.heap.size, 4, none⟩ = some (.bool false) := (HB.out.cell (p := ⟨w.heap.size, 4, none⟩) HLT0.out).trans HC4.out
  clear hr hg HPOS
  have y0 : decide ((0 : Int) < (m : Int)) = true := decide_eq_true (by omega)
  have y0n : decide (0 < m) = true := decide_eq_true (by omega)
  go_loopw [6] (fun u wz => u = .int .i64 0 ∧ wz = wr) (fun _ _ => 0)
  case atStart => exact ⟨rfl, rfl⟩
  case round =>
    obtain ⟨rfl, rfl⟩ := hrel
    go_wp2
    go_ret
    exact ⟨congrArg (fun x => Ending.returned (.string x)) HF.out, HB2.out.trans (HB.out.mono HB2.out.size)⟩
set_option maxRecDepth 100000 in
set_option maxHeartbeats 8000000 in
theorem bytes_3_false (k u : Nat) (i : Int) (t : ByteArray) (w : World) (hk : k % 6 = 3) (hi : -9223372036854775808 ≤ i ∧ i < 9223372036854775808) : Calls Tryd.prog 23 #[.agg #[.int .u8 (k : Int), .int .i64 i, .int .u64 (u : Int), .string t, .bool false]] w fun e w' => e = .returned (.string (itemS (.i64 i) false)) ∧ Below w.heap.size w w' := by
  have x1 : (k : Int) % 6 = 3 := by omega
  have x2 : Int.tmod (k : Int) 6 = 3 := by rw [Int.tmod_eq_emod_of_nonneg (by omega)]; exact x1
  have hix : ∀ W, (Instr.index 63 (.agg #[.int .u8 16, .int .u8 32, .int .u8 33, .int .u8 48, .int .u8 64, .int .u8 80]) (.int .u8 3)).run Tryd.prog W = .ok (.int .u8 48) W := fun _ => by kernel_rfl
  have HB2 := Lib.hid (below_alloc (Below.refl w.heap.size w) (.cells #[.int .u8 (k : Int), .int .i64 i, .int .u64 (u : Int), .string t, .bool false] 24))
  have HN := Lib.hid (blk_new w (.cells #[.int .u8 (k : Int), .int .i64 i, .int .u64 (u : Int), .string t, .bool false] 24))
  clear hk
  have hup := up_i64 i hi
  obtain ⟨y, hy⟩ := Int.eq_ofNat_of_zero_le (show 0 ≤ i + 9223372036854775808 by omega)
  rw [hy] at hup
  have hyl : y < 18446744073709551616 := by omega
  have HE0 := Lib.hid (show (48 : UInt8) :: bl (strOfNums (fixedTo (y : Int) 8 true 8)) = bl (oneS (.i64 i)) by rw [fx_bl, bl_one, ← hy]; rfl)
  obtain ⟨q, hq⟩ : ∃ q, IntKind.u64.wrap i = q := ⟨_, rfl⟩
  rw [hq] at hup
  have RX := Lib.hid (fun w => rfixed_any y 8 true w hyl (by decide) (by decide))
  clear hi hy hyl
  have hsz8 : (strOfNums (fixedTo (y : Int) 8 true 8)).size = 8 := by rw [strOfNums_size, fixedTo_length]
  generalize strOfNums (fixedTo (y : Int) 8 true 8) = s8 at *
  rw [show ((8 : Nat) : Int) = 8 from rfl] at RX
  go_enter Tryd.func23, Tryd.ntmps23
  go_wp2_with fail
  obtain ⟨W0, hW0⟩ : ∃ W0, w.alloc (.cells #[.int .u8 (k : Int), .int .i64 i, .int .u64 (u : Int), .string t, .bool false] 24) = W0 := ⟨_, rfl⟩
  have hz : W0.heap.size = w.heap.size + 1 := by rw [← hW0]; simp
  rw [hW0] at HB2 HN ⊢
  rw [← hz]
  have HC4 := Lib.hid ((blk_cell HN.out 4).trans (show _ = some (.bool false) from rfl))
  have HLT0 := Lib.hid (show w.heap.size < W0.heap.size by rw [hz]; exact Nat.lt_succ_self _)
  have HO0 := Lib.hid (byt_one (base := W0.heap.size) (b := 48) (blk_new W0 (.cells #[.int .u8 48] 5)) (Nat.le_refl _))
  have HB0 := Lib.hid (below_alloc (Below.refl W0.heap.size W0) (.cells #[.int .u8 48] 5))
  have HLT1 := Lib.hid (blk_lt (blk_new W0 (.cells #[.int .u8 48] 5)))
  clear hW0 hz
  refine (RX.out _).mono ?_
  rintro e w1 ⟨rfl, hb⟩
  have HO1 := Lib.hid (HO0.out.below hb)
  have HB1 := Lib.hid (HB0.out.trans (hb.mono HB0.out.size))
  clear hb HO0 HB0
  have hl1 : [(48 : UInt8)].length + s8.size ≤ 140737488355328 := by rw [hsz8]; decide
  go_wp2_with (at_builtin; refine app_str (w0 := W0) W0.heap.size rfl (.tmp 22) (.tmp 24) _ [48] s8 rfl rfl rfl HO1.out HB1.out HB1.out.size hl1 ?_; intro v wr HO HB HGR; have ho1 := Lib.hid HO.out.slice_; obtain ⟨Av, mv, cv, hv⟩ := ho1.out; subst hv; clear ho1)
  obtain ⟨o, ho⟩ : ∃ o : List UInt8, [48] ++ s8.data.toList = o := ⟨_, rfl⟩
  have HE := Lib.hid (show o = bl (oneS (.i64 i)) by rw [← ho]; exact HE0.out)
  have HPOS := Lib.hid (show 0 < o.length ∧ o.length ≤ 5000 by rw [← ho, List.length_append, show s8.data.toList.length = s8.size from bl_length s8, hsz8]; exact ⟨by decide, by decide⟩)
  rw [ho] at HO
  clear ho HE0 HO1 HB1 HLT1 hsz8 hl1 HGR
  obtain ⟨g, cap, hv, hg0, hg, -⟩ := HO.out.form HPOS.out.1
  cases hv
  have hcv0 := HO.out.conv
  obtain ⟨hr, -, -, -⟩ := byt_row HO.out
  have HF := Lib.hid (item_str (d := false) HE.out)
  have HGE := Lib.hid hg0; clear hg0
  obtain ⟨m, hm⟩ : ∃ m, o.length = m := ⟨_, rfl⟩
  have HM := Lib.hid hm.symm
  have hmz : m ≤ 5000 := by have := HPOS.out.2; omega
  have hm0 : 0 < m := by have := HPOS.out.1; omega
  have HMZ := Lib.hid (And.intro hmz hm0)
  rw [hm] at hcv0 ⊢
  clear hm
  have c4 : wr.cell? ⟨w.heap.size, 4, none⟩ = some (.bool false) := (HB.out.cell (p := ⟨w.heap.size, 4, none⟩) HLT0.out).trans HC4.out
  clear hr hg HPOS
  have y0 : decide ((0 : Int) < (m : Int)) = true := decide_eq_true (by omega)
  have y0n : decide (0 < m) = true := decide_eq_true (by omega)
  go_loopw [6] (fun u wz => u = .int .i64 0 ∧ wz = wr) (fun _ _ => 0)
  case atStart => exact ⟨rfl, rfl⟩
  case round =>
    obtain ⟨rfl, rfl⟩ := hrel
    go_wp2
    go_ret
    exact ⟨congrArg (fun x => Ending.returned (.string x)) HF.out, HB2.out.trans (HB.out.mono HB2.out.size)⟩
set_option maxRecDepth 100000 in
set_option maxHeartbeats 8000000 in
theorem bytes_4_false (k u : Nat) (i : Int) (t : ByteArray) (w : World) (hk : k % 6 = 4) (hu : u < 18446744073709551616) : Calls Tryd.prog 23 #[.agg #[.int .u8 (k : Int), .int .i64 i, .int .u64 (u : Int), .string t, .bool false]] w fun e w' => e = .returned (.string (itemS (.u64 u) false)) ∧ Below w.heap.size w w' := by
  have x1 : (k : Int) % 6 = 4 := by omega
  have x2 : Int.tmod (k : Int) 6 = 4 := by rw [Int.tmod_eq_emod_of_nonneg (by omega)]; exact x1
  have hix : ∀ W, (Instr.index 63 (.agg #[.int .u8 16, .int .u8 32, .int .u8 33, .int .u8 48, .int .u8 64, .int .u8 80]) (.int .u8 4)).run Tryd.prog W = .ok (.int .u8 64) W := fun _ => by kernel_rfl
  have HB2 := Lib.hid (below_alloc (Below.refl w.heap.size w) (.cells #[.int .u8 (k : Int), .int .i64 i, .int .u64 (u : Int), .string t, .bool false] 24))
  have HN := Lib.hid (blk_new w (.cells #[.int .u8 (k : Int), .int .i64 i, .int .u64 (u : Int), .string t, .bool false] 24))
  clear hk
  have HE0 := Lib.hid (show (64 : UInt8) :: bl (strOfNums (fixedTo (u : Int) 8 true 8)) = bl (oneS (.u64 u)) by rw [fx_bl, bl_one]; rfl)
  have RX := Lib.hid (fun w => rfixed_any u 8 true w hu (by decide) (by decide))
  clear hu
  have hsz8 : (strOfNums (fixedTo (u : Int) 8 true 8)).size = 8 := by rw [strOfNums_size, fixedTo_length]
  generalize strOfNums (fixedTo (u : Int) 8 true 8) = s8 at *
  rw [show ((8 : Nat) : Int) = 8 from rfl] at RX
  go_enter Tryd.func23, Tryd.ntmps23
  go_wp2_with fail
  obtain ⟨W0, hW0⟩ : ∃ W0, w.alloc (.cells #[.int .u8 (k : Int), .int .i64 i, .int .u64 (u : Int), .string t, .bool false] 24) = W0 := ⟨_, rfl⟩
  have hz : W0.heap.size = w.heap.size + 1 := by rw [← hW0]; simp
  rw [hW0] at HB2 HN ⊢
  rw [← hz]
  have HC4 := Lib.hid ((blk_cell HN.out 4).trans (show _ = some (.bool false) from rfl))
  have HLT0 := Lib.hid (show w.heap.size < W0.heap.size by rw [hz]; exact Nat.lt_succ_self _)
  have HO0 := Lib.hid (byt_one (base := W0.heap.size) (b := 64) (blk_new W0 (.cells #[.int .u8 64] 5)) (Nat.le_refl _))
  have HB0 := Lib.hid (below_alloc (Below.refl W0.heap.size W0) (.cells #[.int .u8 64] 5))
  have HLT1 := Lib.hid (blk_lt (blk_new W0 (.cells #[.int .u8 64] 5)))
  clear hW0 hz
  refine (RX.out _).mono ?_
  rintro e w1 ⟨rfl, hb⟩
  have HO1 := Lib.hid (HO0.out.below hb)
  have HB1 := Lib.hid (HB0.out.trans (hb.mono HB0.out.size))
  clear hb HO0 HB0
  have hl1 : [(64 : UInt8)].length + s8.size ≤ 140737488355328 := by rw [hsz8]; decide
  go_wp2_with (at_builtin; refine app_str (w0 := W0) W0.heap.size rfl (.tmp 28) (.tmp 31) _ [64] s8 rfl rfl rfl HO1.out HB1.out HB1.out.size hl1 ?_; intro v wr HO HB HGR; have ho1 := Lib.hid HO.out.slice_; obtain ⟨Av, mv, cv, hv⟩ := ho1.out; subst hv; clear ho1)
  obtain ⟨o, ho⟩ : ∃ o : List UInt8, [64] ++ s8.data.toList = o := ⟨_, rfl⟩
  have HE := Lib.hid (show o = bl (oneS (.u64 u)) by rw [← ho]; exact HE0.out)
  have HPOS := Lib.hid (show 0 < o.length ∧ o.length ≤ 5000 by rw [← ho, List.length_append, show s8.data.toList.length = s8.size from bl_length s8, hsz8]; exact ⟨by decide, by decide⟩)
  rw [ho] at HO
  clear ho HE0 HO1 HB1 HLT1 hsz8 hl1 HGR
  obtain ⟨g, cap, hv, hg0, hg, -⟩ := HO.out.form HPOS.out.1
  cases hv
  have hcv0 := HO.out.conv
  obtain ⟨hr, -, -, -⟩ := byt_row HO.out
  have HF := Lib.hid (item_str (d := false) HE.out)
  have HGE := Lib.hid hg0; clear hg0
  obtain ⟨m, hm⟩ : ∃ m, o.length = m := ⟨_, rfl⟩
  have HM := Lib.hid hm.symm
  have hmz : m ≤ 5000 := by have := HPOS.out.2; omega
  have hm0 : 0 < m := by have := HPOS.out.1; omega
  have HMZ := Lib.hid (And.intro hmz hm0)
  rw [hm] at hcv0 ⊢
  clear hm
  have c4 : wr.cell? ⟨w.heap.size, 4, none⟩ = some (.bool false) := (HB.out.cell (p := ⟨w.heap.size, 4, none⟩) HLT0.out).trans HC4.out
  clear hr hg HPOS
  have y0 : decide ((0 : Int) < (m : Int)) = true := decide_eq_true (by omega)
  have y0n : decide (0 < m) = true := decide_eq_true (by omega)
  go_loopw [6] (fun u wz => u = .int .i64 0 ∧ wz = wr) (fun _ _ => 0)
  case atStart => exact ⟨rfl, rfl⟩
  case round =>
    obtain ⟨rfl, rfl⟩ := hrel
    go_wp2
    go_ret
    exact ⟨congrArg (fun x => Ending.returned (.string x)) HF.out, HB2.out.trans (HB.out.mono HB2.out.size)⟩
set_option maxRecDepth 100000 in
set_option maxHeartbeats 8000000 in
theorem bytes_0_true (k u : Nat) (i : Int) (t : ByteArray) (w : World) (hk : k % 6 = 0) : Calls Tryd.prog 23 #[.agg #[.int .u8 (k : Int), .int .i64 i, .int .u64 (u : Int), .string t, .bool true]] w fun e w' => e = .returned (.string (itemS (.nul) true)) ∧ Below w.heap.size w w' := by
  have x1 : (k : Int) % 6 = 0 := by omega
  have x2 : Int.tmod (k : Int) 6 = 0 := by rw [Int.tmod_eq_emod_of_nonneg (by omega)]; exact x1
  have hix : ∀ W, (Instr.index 63 (.agg #[.int .u8 16, .int .u8 32, .int .u8 33, .int .u8 48, .int .u8 64, .int .u8 80]) (.int .u8 0)).run Tryd.prog W = .ok (.int .u8 16) W := fun _ => by kernel_rfl
  have HB2 := Lib.hid (below_alloc (Below.refl w.heap.size w) (.cells #[.int .u8 (k : Int), .int .i64 i, .int .u64 (u : Int), .string t, .bool true] 24))
  have HN := Lib.hid (blk_new w (.cells #[.int .u8 (k : Int), .int .i64 i, .int .u64 (u : Int), .string t, .bool true] 24))
  clear hk
  go_enter Tryd.func23, Tryd.ntmps23
  go_wp2
  obtain ⟨W0, hW0⟩ : ∃ W0, w.alloc (.cells #[.int .u8 (k : Int), .int .i64 i, .int .u64 (u : Int), .string t, .bool true] 24) = W0 := ⟨_, rfl⟩
  have hz : W0.heap.size = w.heap.size + 1 := by rw [← hW0]; simp
  rw [hW0] at HB2 HN ⊢
  rw [← hz]
  have HC4 := Lib.hid ((blk_cell HN.out 4).trans (show _ = some (.bool true) from rfl))
  have HLT0 := Lib.hid (show w.heap.size < W0.heap.size by rw [hz]; exact Nat.lt_succ_self _)
  have HO0 := Lib.hid (byt_one (base := W0.heap.size) (b := 16) (blk_new W0 (.cells #[.int .u8 16] 5)) (Nat.le_refl _))
  have HB0 := Lib.hid (below_alloc (Below.refl W0.heap.size W0) (.cells #[.int .u8 16] 5))
  have HLT1 := Lib.hid (blk_lt (blk_new W0 (.cells #[.int .u8 16] 5)))
  clear hW0 hz
  generalize W0.alloc (.cells #[.int .u8 16] 5) = wr at *
  generalize Value.slice (some ⟨W0.heap.size, 0, none⟩) 1 1 = v at *
  have HO := HO0
  have HB := HB0
  obtain ⟨o, ho⟩ : ∃ o : List UInt8, [16] = o := ⟨_, rfl⟩
  have HE := Lib.hid (show o = bl (oneS (.nul)) by rw [← ho]; rfl)
  have HPOS := Lib.hid (show 0 < o.length ∧ o.length ≤ 5000 by rw [← ho]; exact ⟨by decide, by decide⟩)
  rw [ho] at HO
  clear ho HO0 HB0 HLT1
  obtain ⟨g, cap, hv, hg0, hg, -⟩ := HO.out.form HPOS.out.1
  cases hv
  have hcv0 := HO.out.conv
  obtain ⟨hr, -, -, -⟩ := byt_row HO.out
  have HF := Lib.hid (item_str (d := true) HE.out)
  have HGE := Lib.hid hg0; clear hg0
  obtain ⟨m, hm⟩ : ∃ m, o.length = m := ⟨_, rfl⟩
  have HM := Lib.hid hm.symm
  have hmz : m ≤ 5000 := by have := HPOS.out.2; omega
  have hm0 : 0 < m := by have := HPOS.out.1; omega
  have HMZ := Lib.hid (And.intro hmz hm0)
  rw [hm] at hcv0 ⊢
  clear hm
  have c4 : wr.cell? ⟨w.heap.size, 4, none⟩ = some (.bool true) := (HB.out.cell (p := ⟨w.heap.size, 4, none⟩) HLT0.out).trans HC4.out
  clear hcv0 c4 HPOS
  have HR0 := Lib.hid (show ByteRow wr g (mixB o 0) from hr)
  have HB0 := HB
  generalize hWR : wr = W9 at *
  clear hWR
  go_loopw [6] (fun u wr => ∃ j : Nat, u = .int .i64 j ∧ j ≤ m ∧ Hid (ByteRow wr g (mixB o j)) ∧ Hid (g < wr.heap.size) ∧ Hid (Below W0.heap.size W0 wr)) (fun u _ => m - (intOf u).toNat)
  case atStart => exact ⟨0, rfl, Nat.zero_le _, HR0, Lib.hid hg, HB⟩
  case round =>
    clear HR0 HB HB0
    obtain ⟨j, rfl, hj, HR, HGL, HB⟩ := hrel
    have c4 : wr.cell? ⟨w.heap.size, 4, none⟩ = some (.bool true) := (HB.out.cell (p := ⟨w.heap.size, 4, none⟩) HLT0.out).trans HC4.out
    by_cases hlt : j < m
    · have y1 : decide ((j : Int) < (m : Int)) = true := decide_eq_true (by omega)
      have hjl : j < o.length := by rw [← HM.out]; exact hlt
      have hm := mixB_len (l := o) (i := j) (by omega)
      obtain ⟨c1, f1⟩ := HR.out j (by omega)
      have hget := mixB_get hjl
      rw [List.getElem?_eq_getElem (by omega)] at hget
      injection hget with hget
      rw [hget] at c1
      obtain ⟨b, hb⟩ : ∃ b, o[j] = b := ⟨_, rfl⟩
      have hset := mixB_set hjl
      rw [hb] at c1 hset
      have HSET := Lib.hid hset; clear hset hget hb
      have HML := Lib.hid hm; clear hm
      have hsu := sub_u8 b
      have hw := succ_w' hlt (show m ≤ 140737488351232 by omega)
      have HX := Lib.hid (ByteRow.set HR.out j (notU b) ((notU b).toNat : Int) rfl (by rw [HML.out]; exact hjl))
      rw [HSET.out] at HX
      clear hjl
      go_wp2
      go_roundw
      case rel => exact ⟨j + 1, by go_num, hlt, HX, Lib.hid (by simpa [World.setCell] using HGL.out), Lib.hid (HB.out.setCell HGE.out _)⟩
      case measure => first | exact kup_w hlt hw | exact kup_n hlt
    · obtain rfl : j = m := by omega
      have y1 : decide ((j : Int) < (j : Int)) = false := decide_eq_false (by omega)
      have hcv := HR.out.str cap
      rw [mixB_len (by rw [HM.out]; exact Nat.le_refl _), ← HM.out, show mixB o j = turnL true o by unfold mixB turnL; rw [HM.out, List.take_length, List.drop_length, List.append_nil]; rfl] at hcv
      go_wp2
      go_ret
      exact ⟨congrArg (fun x => Ending.returned (.string x)) HF.out, HB2.out.trans (HB.out.mono HB2.out.size)⟩
set_option maxRecDepth 100000 in
set_option maxHeartbeats 8000000 in
theorem bytes_1_true (k u : Nat) (i : Int) (t : ByteArray) (w : World) (hk : k % 6 = 1) : Calls Tryd.prog 23 #[.agg #[.int .u8 (k : Int), .int .i64 i, .int .u64 (u : Int), .string t, .bool true]] w fun e w' => e = .returned (.string (itemS (.boo false) true)) ∧ Below w.heap.size w w' := by
  have x1 : (k : Int) % 6 = 1 := by omega
  have x2 : Int.tmod (k : Int) 6 = 1 := by rw [Int.tmod_eq_emod_of_nonneg (by omega)]; exact x1
  have hix : ∀ W, (Instr.index 63 (.agg #[.int .u8 16, .int .u8 32, .int .u8 33, .int .u8 48, .int .u8 64, .int .u8 80]) (.int .u8 1)).run Tryd.prog W = .ok (.int .u8 32) W := fun _ => by kernel_rfl
  have HB2 := Lib.hid (below_alloc (Below.refl w.heap.size w) (.cells #[.int .u8 (k : Int), .int .i64 i, .int .u64 (u : Int), .string t, .bool true] 24))
  have HN := Lib.hid (blk_new w (.cells #[.int .u8 (k : Int), .int .i64 i, .int .u64 (u : Int), .string t, .bool true] 24))
  clear hk
  go_enter Tryd.func23, Tryd.ntmps23
  go_wp2
  obtain ⟨W0, hW0⟩ : ∃ W0, w.alloc (.cells #[.int .u8 (k : Int), .int .i64 i, .int .u64 (u : Int), .string t, .bool true] 24) = W0 := ⟨_, rfl⟩
  have hz : W0.heap.size = w.heap.size + 1 := by rw [← hW0]; simp
  rw [hW0] at HB2 HN ⊢
  rw [← hz]
  have HC4 := Lib.hid ((blk_cell HN.out 4).trans (show _ = some (.bool true) from rfl))
  have HLT0 := Lib.hid (show w.heap.size < W0.heap.size by rw [hz]; exact Nat.lt_succ_self _)
  have HO0 := Lib.hid (byt_one (base := W0.heap.size) (b := 32) (blk_new W0 (.cells #[.int .u8 32] 5)) (Nat.le_refl _))
  have HB0 := Lib.hid (below_alloc (Below.refl W0.heap.size W0) (.cells #[.int .u8 32] 5))
  have HLT1 := Lib.hid (blk_lt (blk_new W0 (.cells #[.int .u8 32] 5)))
  clear hW0 hz
  generalize W0.alloc (.cells #[.int .u8 32] 5) = wr at *
  generalize Value.slice (some ⟨W0.heap.size, 0, none⟩) 1 1 = v at *
  have HO := HO0
  have HB := HB0
  obtain ⟨o, ho⟩ : ∃ o : List UInt8, [32] = o := ⟨_, rfl⟩
  have HE := Lib.hid (show o = bl (oneS (.boo false)) by rw [← ho]; rfl)
  have HPOS := Lib.hid (show 0 < o.length ∧ o.length ≤ 5000 by rw [← ho]; exact ⟨by decide, by decide⟩)
  rw [ho] at HO
  clear ho HO0 HB0 HLT1
  obtain ⟨g, cap, hv, hg0, hg, -⟩ := HO.out.form HPOS.out.1
  cases hv
  have hcv0 := HO.out.conv
  obtain ⟨hr, -, -, -⟩ := byt_row HO.out
  have HF := Lib.hid (item_str (d := true) HE.out)
  have HGE := Lib.hid hg0; clear hg0
  obtain ⟨m, hm⟩ : ∃ m, o.length = m := ⟨_, rfl⟩
  have HM := Lib.hid hm.symm
  have hmz : m ≤ 5000 := by have := HPOS.out.2; omega
  have hm0 : 0 < m := by have := HPOS.out.1; omega
  have HMZ := Lib.hid (And.intro hmz hm0)
  rw [hm] at hcv0 ⊢
  clear hm
  have c4 : wr.cell? ⟨w.heap.size, 4, none⟩ = some (.bool true) := (HB.out.cell (p := ⟨w.heap.size, 4, none⟩) HLT0.out).trans HC4.out
  clear hcv0 c4 HPOS
  have HR0 := Lib.hid (show ByteRow wr g (mixB o 0) from hr)
  have HB0 := HB
  generalize hWR : wr = W9 at *
  clear hWR
  go_loopw [6] (fun u wr => ∃ j : Nat, u = .int .i64 j ∧ j ≤ m ∧ Hid (ByteRow wr g (mixB o j)) ∧ Hid (g < wr.heap.size) ∧ Hid (Below W0.heap.size W0 wr)) (fun u _ => m - (intOf u).toNat)
  case atStart => exact ⟨0, rfl, Nat.zero_le _, HR0, Lib.hid hg, HB⟩
  case round =>
    clear HR0 HB HB0
    obtain ⟨j, rfl, hj, HR, HGL, HB⟩ := hrel
    have c4 : wr.cell? ⟨w.heap.size, 4, none⟩ = some (.bool true) := (HB.out.cell (p := ⟨w.heap.size, 4, none⟩) HLT0.out).trans HC4.out
    by_cases hlt : j < m
    · have y1 : decide ((j : Int) < (m : Int)) = true := decide_eq_true (by omega)
      have hjl : j < o.length := by rw [← HM.out]; exact hlt
      have hm := mixB_len (l := o) (i := j) (by omega)
      obtain ⟨c1, f1⟩ := HR.out j (by omega)
      have hget := mixB_get hjl
      rw [List.getElem?_eq_getElem (by omega)] at hget
      injection hget with hget
      rw [hget] at c1
      obtain ⟨b, hb⟩ : ∃ b, o[j] = b := ⟨_, rfl⟩
      have hset := mixB_set hjl
      rw [hb] at c1 hset
      have HSET := Lib.hid hset; clear hset hget hb
      have HML := Lib.hid hm; clear hm
      have hsu := sub_u8 b
      have hw := succ_w' hlt (show m ≤ 140737488351232 by omega)
      have HX := Lib.hid (ByteRow.set HR.out j (notU b) ((notU b).toNat : Int) rfl (by rw [HML.out]; exact hjl))
      rw [HSET.out] at HX
      clear hjl
      go_wp2
      go_roundw
      case rel => exact ⟨j + 1, by go_num, hlt, HX, Lib.hid (by simpa [World.setCell] using HGL.out), Lib.hid (HB.out.setCell HGE.out _)⟩
      case measure => first | exact kup_w hlt hw | exact kup_n hlt
    · obtain rfl : j = m := by omega
      have y1 : decide ((j : Int) < (j : Int)) = false := decide_eq_false (by omega)
      have hcv := HR.out.str cap
      rw [mixB_len (by rw [HM.out]; exact Nat.le_refl _), ← HM.out, show mixB o j = turnL true o by unfold mixB turnL; rw [HM.out, List.take_length, List.drop_length, List.append_nil]; rfl] at hcv
      go_wp2
      go_ret
      exact ⟨congrArg (fun x => Ending.returned (.string x)) HF.out, HB2.out.trans (HB.out.mono HB2.out.size)⟩
set_option maxRecDepth 100000 in
set_option maxHeartbeats 8000000 in
theorem bytes_2_true (k u : Nat) (i : Int) (t : ByteArray) (w : World) (hk : k % 6 = 2) : Calls Tryd.prog 23 #[.agg #[.int .u8 (k : Int), .int .i64 i, .int .u64 (u : Int), .string t, .bool true]] w fun e w' => e = .returned (.string (itemS (.boo true) true)) ∧ Below w.heap.size w w' := by
  have x1 : (k : Int) % 6 = 2 := by omega
  have x2 : Int.tmod (k : Int) 6 = 2 := by rw [Int.tmod_eq_emod_of_nonneg (by omega)]; exact x1
  have hix : ∀ W, (Instr.index 63 (.agg #[.int .u8 16, .int .u8 32, .int .u8 33, .int .u8 48, .int .u8 64, .int .u8 80]) (.int .u8 2)).run Tryd.prog W = .ok (.int .u8 33) W := fun _ => by kernel_rfl
  have HB2 := Lib.hid (below_alloc (Below.refl w.heap.size w) (.cells #[.int .u8 (k : Int), .int .i64 i, .int .u64 (u : Int), .string t, .bool true] 24))
  have HN := Lib.hid (blk_new w (.cells #[.int .u8 (k : Int), .int .i64 i, .int .u64 (u : Int), .string t, .bool true] 24))
  clear hk
  go_enter Tryd.func23, Tryd.ntmps23
  go_wp2
  obtain ⟨W0, hW0⟩ : ∃ W0, w.alloc (.cells #[.int .u8 (k : Int), .int .i64 i, .int .u64 (u : Int), .string t, .bool true] 24) = W0 := ⟨_, rfl⟩
  have hz : W0.heap.size = w.heap.size + 1 := by rw [← hW0]; simp
  rw [hW0] at HB2 HN ⊢
  rw [← hz]
  have HC4 := Lib.hid ((blk_cell HN.out 4).trans (show _ = some (.bool true) from rfl))
  have HLT0 := Lib.hid (show w.heap.size < W0.heap.size by rw [hz]; exact Nat.lt_succ_self _)
  have HO0 := Lib.hid (byt_one (base := W0.heap.size) (b := 33) (blk_new W0 (.cells #[.int .u8 33] 5)) (Nat.le_refl _))
  have HB0 := Lib.hid (below_alloc (Below.refl W0.heap.size W0) (.cells #[.int .u8 33] 5))
  have HLT1 := Lib.hid (blk_lt (blk_new W0 (.cells #[.int .u8 33] 5)))
  clear hW0 hz
  generalize W0.alloc (.cells #[.int .u8 33] 5) = wr at *
  generalize Value.slice (some ⟨W0.heap.size, 0, none⟩) 1 1 = v at *
  have HO := HO0
  have HB := HB0
  obtain ⟨o, ho⟩ : ∃ o : List UInt8, [33] = o := ⟨_, rfl⟩
  have HE := Lib.hid (show o = bl (oneS (.boo true)) by rw [← ho]; rfl)
  have HPOS := Lib.hid (show 0 < o.length ∧ o.length ≤ 5000 by rw [← ho]; exact ⟨by decide, by decide⟩)
  rw [ho] at HO
  clear ho HO0 HB0 HLT1
  obtain ⟨g, cap, hv, hg0, hg, -⟩ := HO.out.form HPOS.out.1
  cases hv
  have hcv0 := HO.out.conv
  obtain ⟨hr, -, -, -⟩ := byt_row HO.out
  have HF := Lib.hid (item_str (d := true) HE.out)
  have HGE := Lib.hid hg0; clear hg0
  obtain ⟨m, hm⟩ : ∃ m, o.length = m := ⟨_, rfl⟩
  have HM := Lib.hid hm.symm
  have hmz : m ≤ 5000 := by have := HPOS.out.2; omega
  have hm0 : 0 < m := by have := HPOS.out.1; omega
  have HMZ := Lib.hid (And.intro hmz hm0)
  rw [hm] at hcv0 ⊢
  clear hm
  have c4 : wr.cell? ⟨w.heap.size, 4, none⟩ = some (.bool true) := (HB.out.cell (p := ⟨w.heap.size, 4, none⟩) HLT0.out).trans HC4.out
  clear hcv0 c4 HPOS
  have HR0 := Lib.hid (show ByteRow wr g (mixB o 0) from hr)
  have HB0 := HB
  generalize hWR : wr = W9 at *
  clear hWR
  go_loopw [6] (fun u wr => ∃ j : Nat, u = .int .i64 j ∧ j ≤ m ∧ Hid (ByteRow wr g (mixB o j)) ∧ Hid (g < wr.heap.size) ∧ Hid (Below W0.heap.size W0 wr)) (fun u _ => m - (intOf u).toNat)
  case atStart => exact ⟨0, rfl, Nat.zero_le _, HR0, Lib.hid hg, HB⟩
  case round =>
    clear HR0 HB HB0
    obtain ⟨j, rfl, hj, HR, HGL, HB⟩ := hrel
    have c4 : wr.cell? ⟨w.heap.size, 4, none⟩ = some (.bool true) := (HB.out.cell (p := ⟨w.heap.size, 4, none⟩) HLT0.out).trans HC4.out
    by_cases hlt : j < m
    · have y1 : decide ((j : Int) < (m : Int)) = true := decide_eq_true (by omega)
      have hjl : j < o.length := by rw [← HM.out]; exact hlt
      have hm := mixB_len (l := o) (i := j) (by omega)
      obtain ⟨c1, f1⟩ := HR.out j (by omega)
      have hget := mixB_get hjl
      rw [List.getElem?_eq_getElem (by omega)] at hget
      injection hget with hget
      rw [hget] at c1
      obtain ⟨b, hb⟩ : ∃ b, o[j] = b := ⟨_, rfl⟩
      have hset := mixB_set hjl
      rw [hb] at c1 hset
      have HSET := Lib.hid hset; clear hset hget hb
      have HML := Lib.hid hm; clear hm
      have hsu := sub_u8 b
      have hw := succ_w' hlt (show m ≤ 140737488351232 by omega)
      have HX := Lib.hid (ByteRow.set HR.out j (notU b) ((notU b).toNat : Int) rfl (by rw [HML.out]; exact hjl))
      rw [HSET.out] at HX
      clear hjl
      go_wp2
      go_roundw
      case rel => exact ⟨j + 1, by go_num, hlt, HX, Lib.hid (by simpa [World.setCell] using HGL.out), Lib.hid (HB.out.setCell HGE.out _)⟩
      case measure => first | exact kup_w hlt hw | exact kup_n hlt
    · obtain rfl : j = m := by omega
      have y1 : decide ((j : Int) < (j : Int)) = false := decide_eq_false (by omega)
      have hcv := HR.out.str cap
      rw [mixB_len (by rw [HM.out]; exact Nat.le_refl _), ← HM.out, show mixB o j = turnL true o by unfold mixB turnL; rw [HM.out, List.take_length, List.drop_length, List.append_nil]; rfl] at hcv
      go_wp2
      go_ret
      exact ⟨congrArg (fun x => Ending.returned (.string x)) HF.out, HB2.out.trans (HB.out.mono HB2.out.size)⟩
set_option maxRecDepth 100000 in
set_option maxHeartbeats 8000000 in
theorem bytes_3_true (k u : Nat) (i : Int) (t : ByteArray) (w : World) (hk : k % 6 = 3) (hi : -9223372036854775808 ≤ i ∧ i < 9223372036854775808) : Calls Tryd.prog 23 #[.agg #[.int .u8 (k : Int), .int .i64 i, .int .u64 (u : Int), .string t, .bool true]] w fun e w' => e = .returned (.string (itemS (.i64 i) true)) ∧ Below w.heap.size w w' := by
  have x1 : (k : Int) % 6 = 3 := by omega
  have x2 : Int.tmod (k : Int) 6 = 3 := by rw [Int.tmod_eq_emod_of_nonneg (by omega)]; exact x1
  have hix : ∀ W, (Instr.index 63 (.agg #[.int .u8 16, .int .u8 32, .int .u8 33, .int .u8 48, .int .u8 64, .int .u8 80]) (.int .u8 3)).run Tryd.prog W = .ok (.int .u8 48) W := fun _ => by kernel_rfl
  have HB2 := Lib.hid (below_alloc (Below.refl w.heap.size w) (.cells #[.int .u8 (k : Int), .int .i64 i, .int .u64 (u : Int), .string t, .bool true] 24))
  have HN := Lib.hid (blk_new w (.cells #[.int .u8 (k : Int), .int .i64 i, .int .u64 (u : Int), .string t, .bool true] 24))
  clear hk
  have hup := up_i64 i hi
  obtain ⟨y, hy⟩ := Int.eq_ofNat_of_zero_le (show 0 ≤ i + 9223372036854775808 by omega)
  rw [hy] at hup
  have hyl : y < 18446744073709551616 := by omega
  have HE0 := Lib.hid (show (48 : UInt8) :: bl (strOfNums (fixedTo (y : Int) 8 true 8)) = bl (oneS (.i64 i)) by rw [fx_bl, bl_one, ← hy]; rfl)
  obtain ⟨q, hq⟩ : ∃ q, IntKind.u64.wrap i = q := ⟨_, rfl⟩
  rw [hq] at hup
  have RX := Lib.hid (fun w => rfixed_any y 8 true w hyl (by decide) (by decide))
  clear hi hy hyl
  have hsz8 : (strOfNums (fixedTo (y : Int) 8 true 8)).size = 8 := by rw [strOfNums_size, fixedTo_length]
  generalize strOfNums (fixedTo (y : Int) 8 true 8) = s8 at *
  rw [show ((8 : Nat) : Int) = 8 from rfl] at RX
  go_enter Tryd.func23, Tryd.ntmps23
  go_wp2_with fail
  obtain ⟨W0, hW0⟩ : ∃ W0, w.alloc (.cells #[.int .u8 (k : Int), .int .i64 i, .int .u64 (u : Int), .string t, .bool true] 24) = W0 := ⟨_, rfl⟩
  have hz : W0.heap.size = w.heap.size + 1 := by rw [← hW0]; simp
  rw [hW0] at HB2 HN ⊢
  rw [← hz]
  have HC4 := Lib.hid ((blk_cell HN.out 4).trans (show _ = some (.bool true) from rfl))
  have HLT0 := Lib.hid (show w.heap.size < W0.heap.size by rw [hz]; exact Nat.lt_succ_self _)
  have HO0 := Lib.hid (byt_one (base := W0.heap.size) (b := 48) (blk_new W0 (.cells #[.int .u8 48] 5)) (Nat.le_refl _))
  have HB0 := Lib.hid (below_alloc (Below.refl W0.heap.size W0) (.cells #[.int .u8 48] 5))
  have HLT1 := Lib.hid (blk_lt (blk_new W0 (.cells #[.int .u8 48] 5)))
  clear hW0 hz
  refine (RX.out _).mono ?_
  rintro e w1 ⟨rfl, hb⟩
  have HO1 := Lib.hid (HO0.out.below hb)
  have HB1 := Lib.hid (HB0.out.trans (hb.mono HB0.out.size))
  clear hb HO0 HB0
  have hl1 : [(48 : UInt8)].length + s8.size ≤ 140737488355328 := by rw [hsz8]; decide
  go_wp2_with (at_builtin; refine app_str (w0 := W0) W0.heap.size rfl (.tmp 22) (.tmp 24) _ [48] s8 rfl rfl rfl HO1.out HB1.out HB1.out.size hl1 ?_; intro v wr HO HB HGR; have ho1 := Lib.hid HO.out.slice_; obtain ⟨Av, mv, cv, hv⟩ := ho1.out; subst hv; clear ho1)
  obtain ⟨o, ho⟩ : ∃ o : List UInt8, [48] ++ s8.data.toList = o := ⟨_, rfl⟩
  have HE := Lib.hid (show o = bl (oneS (.i64 i)) by rw [← ho]; exact HE0.out)
  have HPOS := Lib.hid (show 0 < o.length ∧ o.length ≤ 5000 by rw [← ho, List.length_append, show s8.data.toList.length = s8.size from bl_length s8, hsz8]; exact ⟨by decide, by decide⟩)
  rw [ho] at HO
  clear ho HE0 HO1 HB1 HLT1 hsz8 hl1 HGR
  obtain ⟨g, cap, hv, hg0, hg, -⟩ := HO.out.form HPOS.out.1
  cases hv
  have hcv0 := HO.out.conv
  obtain ⟨hr, -, -, -⟩ := byt_row HO.out
  have HF := Lib.hid (item_str (d := true) HE.out)
  have HGE := Lib.hid hg0; clear hg0
  obtain ⟨m, hm⟩ : ∃ m, o.length = m := ⟨_, rfl⟩
  have HM := Lib.hid hm.symm
  have hmz : m ≤ 5000 := by have := HPOS.out.2; omega
  have hm0 : 0 < m := by have := HPOS.out.1; omega
  have HMZ := Lib.hid (And.intro hmz hm0)
  rw [hm] at hcv0 ⊢
  clear hm
  have c4 : wr.cell? ⟨w.heap.size, 4, none⟩ = some (.bool true) := (HB.out.cell (p := ⟨w.heap.size, 4, none⟩) HLT0.out).trans HC4.out
  clear hcv0 c4 HPOS
  have HR0 := Lib.hid (show ByteRow wr g (mixB o 0) from hr)
  have HB0 := HB
  generalize hWR : wr = W9 at *
  clear hWR
  go_loopw [6] (fun u wr => ∃ j : Nat, u = .int .i64 j ∧ j ≤ m ∧ Hid (ByteRow wr g (mixB o j)) ∧ Hid (g < wr.heap.size) ∧ Hid (Below W0.heap.size W0 wr)) (fun u _ => m - (intOf u).toNat)
  case atStart => exact ⟨0, rfl, Nat.zero_le _, HR0, Lib.hid hg, HB⟩
  case round =>
    clear HR0 HB HB0
    obtain ⟨j, rfl, hj, HR, HGL, HB⟩ := hrel
    have c4 : wr.cell? ⟨w.heap.size, 4, none⟩ = some (.bool true) := (HB.out.cell (p := ⟨w.heap.size, 4, none⟩) HLT0.out).trans HC4.out
    by_cases hlt : j < m
    · have y1 : decide ((j : Int) < (m : Int)) = true := decide_eq_true (by omega)
      have hjl : j < o.length := by rw [← HM.out]; exact hlt
      have hm := mixB_len (l := o) (i := j) (by omega)
      obtain ⟨c1, f1⟩ := HR.out j (by omega)
      have hget := mixB_get hjl
      rw [List.getElem?_eq_getElem (by omega)] at hget
      injection hget with hget
      rw [hget] at c1
      obtain ⟨b, hb⟩ : ∃ b, o[j] = b := ⟨_, rfl⟩
      have hset := mixB_set hjl
      rw [hb] at c1 hset
      have HSET := Lib.hid hset; clear hset hget hb
      have HML := Lib.hid hm; clear hm
      have hsu := sub_u8 b
      have hw := succ_w' hlt (show m ≤ 140737488351232 by omega)
      have HX := Lib.hid (ByteRow.set HR.out j (notU b) ((notU b).toNat : Int) rfl (by rw [HML.out]; exact hjl))
      rw [HSET.out] at HX
      clear hjl
      go_wp2
      go_roundw
      case rel => exact ⟨j + 1, by go_num, hlt, HX, Lib.hid (by simpa [World.setCell] using HGL.out), Lib.hid (HB.out.setCell HGE.out _)⟩
      case measure => first | exact kup_w hlt hw | exact kup_n hlt
    · obtain rfl : j = m := by omega
      have y1 : decide ((j : Int) < (j : Int)) = false := decide_eq_false (by omega)
      have hcv := HR.out.str cv
      rw [mixB_len (by rw [HM.out]; exact Nat.le_refl _), ← HM.out, show mixB o j = turnL true o by unfold mixB turnL; rw [HM.out, List.take_length, List.drop_length, List.append_nil]; rfl] at hcv
      go_wp2
      go_ret
      exact ⟨congrArg (fun x => Ending.returned (.string x)) HF.out, HB2.out.trans (HB.out.mono HB2.out.size)⟩
set_option maxRecDepth 100000 in
set_option maxHeartbeats 8000000 in
theorem bytes_4_true (k u : Nat) (i : Int) (t : ByteArray) (w : World) (hk : k % 6 = 4) (hu : u < 18446744073709551616) : Calls Tryd.prog 23 #[.agg #[.int .u8 (k : Int), .int .i64 i, .int .u64 (u : Int), .string t, .bool true]] w fun e w' => e = .returned (.string (itemS (.u64 u) true)) ∧ Below w.heap.size w w' := by
  have x1 : (k : Int) % 6 = 4 := by omega
  have x2 : Int.tmod (k : Int) 6 = 4 := by rw [Int.tmod_eq_emod_of_nonneg (by omega)]; exact x1
  have hix : ∀ W, (Instr.index 63 (.agg #[.int .u8 16, .int .u8 32, .int .u8 33, .int .u8 48, .int .u8 64, .int .u8 80]) (.int .u8 4)).run Tryd.prog W = .ok (.int .u8 64) W := fun _ => by kernel_rfl
  have HB2 := Lib.hid (below_alloc (Below.refl w.heap.size w) (.cells #[.int .u8 (k : Int), .int .i64 i, .int .u64 (u : Int), .string t, .bool true] 24))
  have HN := Lib.hid (blk_new w (.cells #[.int .u8 (k : Int), .int .i64 i, .int .u64 (u : Int), .string t, .bool true] 24))
  clear hk
  have HE0 := Lib.hid (show (64 : UInt8) :: bl (strOfNums (fixedTo (u : Int) 8 true 8)) = bl (oneS (.u64 u)) by rw [fx_bl, bl_one]; rfl)
  have RX := Lib.hid (fun w => rfixed_any u 8 true w hu (by decide) (by decide))
  clear hu
  have hsz8 : (strOfNums (fixedTo (u : Int) 8 true 8)).size = 8 := by rw [strOfNums_size, fixedTo_length]
  generalize strOfNums (fixedTo (u : Int) 8 true 8) = s8 at *
  rw [show ((8 : Nat) : Int) = 8 from rfl] at RX
  go_enter Tryd.func23, Tryd.ntmps23
  go_wp2_with fail
  obtain ⟨W0, hW0⟩ : ∃ W0, w.alloc (.cells #[.int .u8 (k : Int), .int .i64 i, .int .u64 (u : Int), .string t, .bool true] 24) = W0 := ⟨_, rfl⟩
  have hz : W0.heap.size = w.heap.size + 1 := by rw [← hW0]; simp
  rw [hW0] at HB2 HN ⊢
  rw [← hz]
  have HC4 := Lib.hid ((blk_cell HN.out 4).trans (show _ = some (.bool true) from rfl))
  have HLT0 := Lib.hid (show w.heap.size < W0.heap.size by rw [hz]; exact Nat.lt_succ_self _)
  have HO0 := Lib.hid (byt_one (base := W0.heap.size) (b := 64) (blk_new W0 (.cells #[.int .u8 64] 5)) (Nat.le_refl _))
  have HB0 := Lib.hid (below_alloc (Below.refl W0.heap.size W0) (.cells #[.int .u8 64] 5))
  have HLT1 := Lib.hid (blk_lt (blk_new W0 (.cells #[.int .u8 64] 5)))
  clear hW0 hz
  refine (RX.out _).mono ?_
  rintro e w1 ⟨rfl, hb⟩
  have HO1 := Lib.hid (HO0.out.below hb)
  have HB1 := Lib.hid (HB0.out.trans (hb.mono HB0.out.size))
  clear hb HO0 HB0
  have hl1 : [(64 : UInt8)].length + s8.size ≤ 140737488355328 := by rw [hsz8]; decide
  go_wp2_with (at_builtin; refine app_str (w0 := W0) W0.heap.size rfl (.tmp 28) (.tmp 31) _ [64] s8 rfl rfl rfl HO1.out HB1.out HB1.out.size hl1 ?_; intro v wr HO HB HGR; have ho1 := Lib.hid HO.out.slice_; obtain ⟨Av, mv, cv, hv⟩ := ho1.out; subst hv; clear ho1)
  obtain ⟨o, ho⟩ : ∃ o : List UInt8, [64] ++ s8.data.toList = o := ⟨_, rfl⟩
  have HE := Lib.hid (show o = bl (oneS (.u64 u)) by rw [← ho]; exact HE0.out)
  have HPOS := Lib.hid (show 0 < o.length ∧ o.length ≤ 5000 by rw [← ho, List.length_append, show s8.data.toList.length = s8.size from bl_length s8, hsz8]; exact ⟨by decide, by decide⟩)
  rw [ho] at HO
  clear ho HE0 HO1 HB1 HLT1 hsz8 hl1 HGR
  obtain ⟨g, cap, hv, hg0, hg, -⟩ := HO.out.form HPOS.out.1
  cases hv
  have hcv0 := HO.out.conv
  obtain ⟨hr, -, -, -⟩ := byt_row HO.out
  have HF := Lib.hid (item_str (d := true) HE.out)
  have HGE := Lib.hid hg0; clear hg0
  obtain ⟨m, hm⟩ : ∃ m, o.length = m := ⟨_, rfl⟩
  have HM := Lib.hid hm.symm
  have hmz : m ≤ 5000 := by have := HPOS.out.2; omega
  have hm0 : 0 < m := by have := HPOS.out.1; omega
  have HMZ := Lib.hid (And.intro hmz hm0)
  rw [hm] at hcv0 ⊢
  clear hm
  have c4 : wr.cell? ⟨w.heap.size, 4, none⟩ = some (.bool true) := (HB.out.cell (p := ⟨w.heap.size, 4, none⟩) HLT0.out).trans HC4.out
  clear hcv0 c4 HPOS
  have HR0 := Lib.hid (show ByteRow wr g (mixB o 0) from hr)
  have HB0 := HB
  generalize hWR : wr = W9 at *
  clear hWR
  go_loopw [6] (fun u wr => ∃ j : Nat, u = .int .i64 j ∧ j ≤ m ∧ Hid (ByteRow wr g (mixB o j)) ∧ Hid (g < wr.heap.size) ∧ Hid (Below W0.heap.size W0 wr)) (fun u _ => m - (intOf u).toNat)
  case atStart => exact ⟨0, rfl, Nat.zero_le _, HR0, Lib.hid hg, HB⟩
  case round =>
    clear HR0 HB HB0
    obtain ⟨j, rfl, hj, HR, HGL, HB⟩ := hrel
    have c4 : wr.cell? ⟨w.heap.size, 4, none⟩ = some (.bool true) := (HB.out.cell (p := ⟨w.heap.size, 4, none⟩) HLT0.out).trans HC4.out
    by_cases hlt : j < m
    · have y1 : decide ((j : Int) < (m : Int)) = true := decide_eq_true (by omega)
      have hjl : j < o.length := by rw [← HM.out]; exact hlt
      have hm := mixB_len (l := o) (i := j) (by omega)
      obtain ⟨c1, f1⟩ := HR.out j (by omega)
      have hget := mixB_get hjl
      rw [List.getElem?_eq_getElem (by omega)] at hget
      injection hget with hget
      rw [hget] at c1
      obtain ⟨b, hb⟩ : ∃ b, o[j] = b := ⟨_, rfl⟩
      have hset := mixB_set hjl
      rw [hb] at c1 hset
      have HSET := Lib.hid hset; clear hset hget hb
      have HML := Lib.hid hm; clear hm
      have hsu := sub_u8 b
      have hw := succ_w' hlt (show m ≤ 140737488351232 by omega)
      have HX := Lib.hid (ByteRow.set HR.out j (notU b) ((notU b).toNat : Int) rfl (by rw [HML.out]; exact hjl))
      rw [HSET.out] at HX
      clear hjl
      go_wp2
      go_roundw
      case rel => exact ⟨j + 1, by go_num, hlt, HX, Lib.hid (by simpa [World.setCell] using HGL.out), Lib.hid (HB.out.setCell HGE.out _)⟩
      case measure => first | exact kup_w hlt hw | exact kup_n hlt
    · obtain rfl : j = m := by omega
      have y1 : decide ((j : Int) < (j : Int)) = false := decide_eq_false (by omega)
      have hcv := HR.out.str cv
      rw [mixB_len (by rw [HM.out]; exact Nat.le_refl _), ← HM.out, show mixB o j = turnL true o by unfold mixB turnL; rw [HM.out, List.take_length, List.drop_length, List.append_nil]; rfl] at hcv
      go_wp2
      go_ret
      exact ⟨congrArg (fun x => Ending.returned (.string x)) HF.out, HB2.out.trans (HB.out.mono HB2.out.size)⟩
end Go.Proofs.YtbbjnnbabikefaaDoor.My
