/- isoglossref03: Item.Bytes of a string; Encode. -/
import Derived.Test.YtbbjnnbabikefaaDoorKeysG
namespace Go.Proofs.YtbbjnnbabikefaaDoor.My
set_option linter.unusedSimpArgs false
set_option linter.unusedVariables false
open Go.RowKit Go.Proofs.YtbbjnnbabikefaaDoorW.PrintWords Go.Proofs.YtbbjnnbabikefaaDoorW.PrintLast Go.Proofs.YtbbjnnbabikefaaDoor.Pm

set_option maxRecDepth 100000 in
set_option maxHeartbeats 8000000 in
theorem bytes_5_false (k u : Nat) (i : Int) (t : ByteArray) (w : World) (hk : k % 6 = 5) (ht : t.size ≤ 1000) : Calls Tryd.prog 23 #[.agg #[.int .u8 (k : Int), .int .i64 i, .int .u64 (u : Int), .string t, .bool false]] w fun e w' => e = .returned (.string (itemS (.str t) false)) ∧ Below w.heap.size w w' := by
  have x1 : (k : Int) % 6 = 5 := by omega
  have x2 : Int.tmod (k : Int) 6 = 5 := by rw [Int.tmod_eq_emod_of_nonneg (by omega)]; exact x1
  have hix : ∀ W, (Instr.index 63 (.agg #[.int .u8 16, .int .u8 32, .int .u8 33, .int .u8 48, .int .u8 64, .int .u8 80]) (.int .u8 5)).run Tryd.prog W = .ok (.int .u8 80) W := fun _ => by kernel_rfl
  have HB2 := Lib.hid (below_alloc (Below.refl w.heap.size w) (.cells #[.int .u8 (k : Int), .int .i64 i, .int .u64 (u : Int), .string t, .bool false] 24))
  have HN := Lib.hid (blk_new w (.cells #[.int .u8 (k : Int), .int .i64 i, .int .u64 (u : Int), .string t, .bool false] 24))
  clear hk
  have htz := ht; clear ht
  go_enter Tryd.func23, Tryd.ntmps23
  go_wp2
  obtain ⟨W0, hW0⟩ : ∃ W0, w.alloc (.cells #[.int .u8 (k : Int), .int .i64 i, .int .u64 (u : Int), .string t, .bool false] 24) = W0 := ⟨_, rfl⟩
  have hz : W0.heap.size = w.heap.size + 1 := by rw [← hW0]; simp
  rw [hW0] at HB2 HN ⊢
  rw [← hz]
  have HC4 := Lib.hid ((blk_cell HN.out 4).trans (show _ = some (.bool false) from rfl))
  have HLT0 := Lib.hid (show w.heap.size < W0.heap.size by rw [hz]; exact Nat.lt_succ_self _)
  have HO0 := Lib.hid (byt_one (base := W0.heap.size) (b := 80) (blk_new W0 (.cells #[.int .u8 80] 5)) (Nat.le_refl _))
  have HB0 := Lib.hid (below_alloc (Below.refl W0.heap.size W0) (.cells #[.int .u8 80] 5))
  have HLT1 := Lib.hid (blk_lt (blk_new W0 (.cells #[.int .u8 80] 5)))
  clear hW0 hz
  have HC3 := Lib.hid ((blk_cell HN.out 3).trans (show _ = some (.string t) from rfl))
  have HBL := Lib.hid (bl_length t)
  generalize W0.alloc (.cells #[.int .u8 80] 5) = wr0 at *
  generalize Value.slice (some ⟨W0.heap.size, 0, none⟩) 1 1 = v0 at *
  go_loopw [3, 5] (fun v u wr => ∃ n : Nat, u = .int .i64 n ∧ n ≤ t.size ∧ Hid (Byt wr W0.heap.size v (80 :: escB ((bl t).take n))) ∧ Hid (Below W0.heap.size W0 wr)) (fun _ u _ => t.size - (intOf u).toNat)
  case atStart => exact ⟨0, rfl, Nat.zero_le _, HO0, HB0⟩
  case round =>
    clear HO0 HB0 HLT1
    obtain ⟨n, rfl, hn, HO, HB⟩ := hrel
    have c3 : wr.cell? ⟨w.heap.size, 3, none⟩ = some (.string t) := (HB.out.cell (p := ⟨w.heap.size, 3, none⟩) HLT0.out).trans HC3.out
    have hol := escB_len ((bl t).take n)
    rw [List.length_take, HBL.out] at hol
    by_cases hlt : n < t.size
    · have y1 : decide ((n : Int) < (t.size : Int)) = true := decide_eq_true (by omega)
      obtain ⟨b, hbx⟩ : ∃ b, t[n]'hlt = b := ⟨_, rfl⟩
      have hxx : ∀ h : n < t.size, t[n]'h = b := fun _ => hbx
      have htk : (bl t).take (n + 1) = (bl t).take n ++ [b] := by
        rw [List.take_succ_eq_append_getElem (by rw [HBL.out]; exact hlt)]
        exact congrArg (fun x => (bl t).take n ++ [x]) hbx
      have hes := esc_snoc ((bl t).take n) b
      rw [← htk] at hes
      clear hbx htk
      have hw := succ_w' hlt (show t.size ≤ 140737488351232 by omega)
      have hol1 : (80 :: escB ((bl t).take n)).length + 1 ≤ 140737488355328 := by clear hw; simp only [List.length_cons]; omega
      have hol2 : (80 :: escB ((bl t).take n) ++ [(0 : UInt8)]).length + 1 ≤ 140737488355328 := by clear hw; simp only [List.length_cons, List.length_append, List.length_nil]; omega
      have HLT := Lib.hid hlt
      obtain ⟨o, ho⟩ : ∃ o, (80 :: escB ((bl t).take n)) = o := ⟨_, rfl⟩
      by_cases hb : b = 0
      · subst hb
        have HE := Lib.hid (show 80 :: escB ((bl t).take (n + 1)) = (o ++ [0]) ++ [255] by rw [hes, if_pos rfl, ← ho]; simp)
        rw [ho] at HO hol1 hol2
        clear ho hes hol
        go_wp2_with (first | (at_builtin; refine app_byteK (w0 := W0) W0.heap.size rfl (.tmp 42) (.tmp 47) _ o 0 rfl rfl rfl HO.out HB.out HB.out.size hol1 ?_; intro v1 w1 HO1 HB1; have c3a : w1.cell? ⟨w.heap.size, 3, none⟩ = some (.string t) := (HB1.out.cell (p := ⟨w.heap.size, 3, none⟩) HLT0.out).trans HC3.out) | (at_builtin; refine app_byteK (w0 := W0) W0.heap.size rfl (.tmp 54) (.tmp 55) _ (o ++ [0]) 255 rfl rfl rfl HO1.out HB1.out HB1.out.size hol2 ?_; intro v2 w2 HO2 HB2b) | fail)
        go_roundw
        case rel => exact ⟨n + 1, by go_num, HLT.out, by rw [HE.out]; exact HO2, HB2b⟩
        case measure => first | exact kup_w HLT.out hw | exact kup_n HLT.out
      · have z1 : ((b.toNat : Int) == 0) = false := by simp; intro h; exact hb (UInt8.toNat_inj.1 h)
        have HE := Lib.hid (show 80 :: escB ((bl t).take (n + 1)) = o ++ [b] by rw [hes, if_neg hb, ← ho]; rfl)
        rw [ho] at HO hol1
        clear ho hes hol hol2 hb
        go_wp2_with (at_builtin; refine app_byteK (w0 := W0) W0.heap.size rfl (.tmp 42) (.tmp 47) _ o b rfl rfl rfl HO.out HB.out HB.out.size hol1 ?_; intro v1 w1 HO1 HB1; have c3a : w1.cell? ⟨w.heap.size, 3, none⟩ = some (.string t) := (HB1.out.cell (p := ⟨w.heap.size, 3, none⟩) HLT0.out).trans HC3.out)
        go_roundw
        case rel => exact ⟨n + 1, by go_num, HLT.out, by rw [HE.out]; exact HO1, HB1⟩
        case measure => first | exact kup_w HLT.out hw | exact kup_n HLT.out
    · obtain rfl : n = t.size := by omega
      have y1 : decide ((t.size : Int) < (t.size : Int)) = false := decide_eq_false (by omega)
      rw [List.take_of_length_le (by rw [HBL.out]; exact Nat.le_refl _)] at HO hol
      obtain ⟨Av, c0, hv, -⟩ := (byt_own.1 HO.out).slice_
      obtain ⟨o1, ho1⟩ : ∃ o1, (80 :: escB (bl t)) = o1 := ⟨_, rfl⟩
      have HE1 := Lib.hid (show o1 ++ [0, 0] = bl (oneS (.str t)) by rw [← ho1, bl_one]; rfl)
      have hl1 : o1.length ≤ 2001 := by rw [← ho1, List.length_cons]; omega
      rw [ho1] at HO hv
      clear hol
      obtain ⟨v3, w3, hr3, ho3, hg3, -⟩ := run_app_rows (P := Tryd.prog) (W := wr.alloc (.cells #[.int .u8 0, .int .u8 0] 5)) 39 39 Tryd.underlying39 info_u8 rfl (by decide) (by decide) (fun _ => rfl) (fun x u hu => by simp at hu; subst hu; rfl) ((byt_own.1 HO.out).below (below_alloc (Below.refl _ wr) (.cells #[.int .u8 0, .int .u8 0] 5))) (c := 2) (byt_zeros (base := 0) (blk_new wr (.cells #[.int .u8 0, .int .u8 0] 5))) (Nat.le_trans HB.out.size (below_alloc (Below.refl _ wr) (.cells #[.int .u8 0, .int .u8 0] 5)).size) (by omega)
      have HB3 := Lib.hid ((below_alloc HB.out (.cells #[.int .u8 0, .int .u8 0] 5)).grown hg3 (Nat.le_trans HB.out.size (below_alloc (Below.refl _ wr) (.cells #[.int .u8 0, .int .u8 0] 5)).size) (fun q hq => ((byt_own.1 HO.out).block_ge q hq).1))
      have HO3 := Lib.hid (byt_own.2 ho3)
      subst hv
      clear ho3 hg3 HO HB
      obtain ⟨A3, c9, hv, -⟩ := (byt_own.1 HO3.out).slice_
      subst hv
      have hoo : ∃ n0, o1.length = n0 := ⟨_, rfl⟩
      obtain ⟨n0, hn0⟩ := hoo
      rw [hn0] at hr3 ⊢
      obtain ⟨o, ho⟩ : ∃ o, o1 ++ [0, 0] = o := ⟨_, rfl⟩
      rw [ho] at HO3 HE1 hr3
      have HE := HE1
      have HPOS := Lib.hid (show 0 < o.length ∧ o.length ≤ 5000 by rw [← ho, List.length_append]; simp only [List.length_cons, List.length_nil]; omega)
      obtain ⟨m9, hm9⟩ : ∃ m9, o.length = m9 := ⟨_, rfl⟩
      rw [hm9] at hr3 HO3
      clear ho hn0 hl1 ho1 HE1
      go_wp2_with (at_builtin; refine wpl_app rfl (.tmp 57) (.tmp 58) 39 rfl rfl rfl hr3 ?_)
      rw [← hm9] at HO3 ⊢
      clear hm9 hr3
      have HO := HO3
      have HB := HB3
      generalize hWW : w3 = wr at *
      clear hWW
  
      obtain ⟨g, cap, hv, hg0, hg, -⟩ := HO.out.form HPOS.out.1
      cases hv
      have hcv0 := HO.out.conv
      obtain ⟨hr, -, -, -⟩ := byt_row HO.out
      have HF := Lib.hid (item_str (d := false) HE.out)
      have HGE := Lib.hid hg0; clear hg0
      obtain ⟨m, hm⟩ : ∃ m, o.length = m := ⟨_, rfl⟩
      have HM := Lib.hid hm.symm
      have hmz : m ≤ 5000 := by have := HPOS.out.2; omega
      have hm0 : 0 < m := by have := HPOS.out.1; omega
      have HMZ := Lib.hid (And.intro hmz hm0)
      rw [hm] at hcv0 ⊢
      clear hm
      have c4 : wr.cell? ⟨w.heap.size, 4, none⟩ = some (.bool false) := (HB.out.cell (p := ⟨w.heap.size, 4, none⟩) HLT0.out).trans HC4.out
      clear hr hg HPOS
      have y0 : decide ((0 : Int) < (m : Int)) = true := decide_eq_true (by omega)
      have y0n : decide (0 < m) = true := decide_eq_true (by omega)
      go_loopw [6] (fun u wz => u = .int .i64 0 ∧ wz = wr) (fun _ _ => 0)
      case atStart => exact ⟨rfl, rfl⟩
      case round =>
        obtain ⟨rfl, rfl⟩ := hrel
        go_wp2
        go_ret
        exact ⟨congrArg (fun x => Ending.returned (.string x)) HF.out, HB2.out.trans (HB.out.mono HB2.out.size)⟩
set_option maxRecDepth 100000 in
set_option maxHeartbeats 8000000 in
theorem bytes_5_true (k u : Nat) (i : Int) (t : ByteArray) (w : World) (hk : k % 6 = 5) (ht : t.size ≤ 1000) : Calls Tryd.prog 23 #[.agg #[.int .u8 (k : Int), .int .i64 i, .int .u64 (u : Int), .string t, .bool true]] w fun e w' => e = .returned (.string (itemS (.str t) true)) ∧ Below w.heap.size w w' := by
  have x1 : (k : Int) % 6 = 5 := by omega
  have x2 : Int.tmod (k : Int) 6 = 5 := by rw [Int.tmod_eq_emod_of_nonneg (by omega)]; exact x1
  have hix : ∀ W, (Instr.index 63 (.agg #[.int .u8 16, .int .u8 32, .int .u8 33, .int .u8 48, .int .u8 64, .int .u8 80]) (.int .u8 5)).run Tryd.prog W = .ok (.int .u8 80) W := fun _ => by kernel_rfl
  have HB2 := Lib.hid (below_alloc (Below.refl w.heap.size w) (.cells #[.int .u8 (k : Int), .int .i64 i, .int .u64 (u : Int), .string t, .bool true] 24))
  have HN := Lib.hid (blk_new w (.cells #[.int .u8 (k : Int), .int .i64 i, .int .u64 (u : Int), .string t, .bool true] 24))
  clear hk
  have htz := ht; clear ht
  go_enter Tryd.func23, Tryd.ntmps23
  go_wp2
  obtain ⟨W0, hW0⟩ : ∃ W0, w.alloc (.cells #[.int .u8 (k : Int), .int .i64 i, .int .u64 (u : Int), .string t, .bool true] 24) = W0 := ⟨_, rfl⟩
  have hz : W0.heap.size = w.heap.size + 1 := by rw [← hW0]; simp
  rw [hW0] at HB2 HN ⊢
  rw [← hz]
  have HC4 := Lib.hid ((blk_cell HN.out 4).trans (show _ = some (.bool true) from rfl))
  have HLT0 := Lib.hid (show w.heap.size < W0.heap.size by rw [hz]; exact Nat.lt_succ_self _)
  have HO0 := Lib.hid (byt_one (base := W0.heap.size) (b := 80) (blk_new W0 (.cells #[.int .u8 80] 5)) (Nat.le_refl _))
  have HB0 := Lib.hid (below_alloc (Below.refl W0.heap.size W0) (.cells #[.int .u8 80] 5))
  have HLT1 := Lib.hid (blk_lt (blk_new W0 (.cells #[.int .u8 80] 5)))
  clear hW0 hz
  have HC3 := Lib.hid ((blk_cell HN.out 3).trans (show _ = some (.string t) from rfl))
  have HBL := Lib.hid (bl_length t)
  generalize W0.alloc (.cells #[.int .u8 80] 5) = wr0 at *
  generalize Value.slice (some ⟨W0.heap.size, 0, none⟩) 1 1 = v0 at *
  go_loopw [3, 5] (fun v u wr => ∃ n : Nat, u = .int .i64 n ∧ n ≤ t.size ∧ Hid (Byt wr W0.heap.size v (80 :: escB ((bl t).take n))) ∧ Hid (Below W0.heap.size W0 wr)) (fun _ u _ => t.size - (intOf u).toNat)
  case atStart => exact ⟨0, rfl, Nat.zero_le _, HO0, HB0⟩
  case round =>
    clear HO0 HB0 HLT1
    obtain ⟨n, rfl, hn, HO, HB⟩ := hrel
    have c3 : wr.cell? ⟨w.heap.size, 3, none⟩ = some (.string t) := (HB.out.cell (p := ⟨w.heap.size, 3, none⟩) HLT0.out).trans HC3.out
    have hol := escB_len ((bl t).take n)
    rw [List.length_take, HBL.out] at hol
    by_cases hlt : n < t.size
    · have y1 : decide ((n : Int) < (t.size : Int)) = true := decide_eq_true (by omega)
      obtain ⟨b, hbx⟩ : ∃ b, t[n]'hlt = b := ⟨_, rfl⟩
      have hxx : ∀ h : n < t.size, t[n]'h = b := fun _ => hbx
      have htk : (bl t).take (n + 1) = (bl t).take n ++ [b] := by
        rw [List.take_succ_eq_append_getElem (by rw [HBL.out]; exact hlt)]
        exact congrArg (fun x => (bl t).take n ++ [x]) hbx
      have hes := esc_snoc ((bl t).take n) b
      rw [← htk] at hes
      clear hbx htk
      have hw := succ_w' hlt (show t.size ≤ 140737488351232 by omega)
      have hol1 : (80 :: escB ((bl t).take n)).length + 1 ≤ 140737488355328 := by clear hw; simp only [List.length_cons]; omega
      have hol2 : (80 :: escB ((bl t).take n) ++ [(0 : UInt8)]).length + 1 ≤ 140737488355328 := by clear hw; simp only [List.length_cons, List.length_append, List.length_nil]; omega
      have HLT := Lib.hid hlt
      obtain ⟨o, ho⟩ : ∃ o, (80 :: escB ((bl t).take n)) = o := ⟨_, rfl⟩
      by_cases hb : b = 0
      · subst hb
        have HE := Lib.hid (show 80 :: escB ((bl t).take (n + 1)) = (o ++ [0]) ++ [255] by rw [hes, if_pos rfl, ← ho]; simp)
        rw [ho] at HO hol1 hol2
        clear ho hes hol
        go_wp2_with (first | (at_builtin; refine app_byteK (w0 := W0) W0.heap.size rfl (.tmp 42) (.tmp 47) _ o 0 rfl rfl rfl HO.out HB.out HB.out.size hol1 ?_; intro v1 w1 HO1 HB1; have c3a : w1.cell? ⟨w.heap.size, 3, none⟩ = some (.string t) := (HB1.out.cell (p := ⟨w.heap.size, 3, none⟩) HLT0.out).trans HC3.out) | (at_builtin; refine app_byteK (w0 := W0) W0.heap.size rfl (.tmp 54) (.tmp 55) _ (o ++ [0]) 255 rfl rfl rfl HO1.out HB1.out HB1.out.size hol2 ?_; intro v2 w2 HO2 HB2b) | fail)
        go_roundw
        case rel => exact ⟨n + 1, by go_num, HLT.out, by rw [HE.out]; exact HO2, HB2b⟩
        case measure => first | exact kup_w HLT.out hw | exact kup_n HLT.out
      · have z1 : ((b.toNat : Int) == 0) = false := by simp; intro h; exact hb (UInt8.toNat_inj.1 h)
        have HE := Lib.hid (show 80 :: escB ((bl t).take (n + 1)) = o ++ [b] by rw [hes, if_neg hb, ← ho]; rfl)
        rw [ho] at HO hol1
        clear ho hes hol hol2 hb
        go_wp2_with (at_builtin; refine app_byteK (w0 := W0) W0.heap.size rfl (.tmp 42) (.tmp 47) _ o b rfl rfl rfl HO.out HB.out HB.out.size hol1 ?_; intro v1 w1 HO1 HB1; have c3a : w1.cell? ⟨w.heap.size, 3, none⟩ = some (.string t) := (HB1.out.cell (p := ⟨w.heap.size, 3, none⟩) HLT0.out).trans HC3.out)
        go_roundw
        case rel => exact ⟨n + 1, by go_num, HLT.out, by rw [HE.out]; exact HO1, HB1⟩
        case measure => first | exact kup_w HLT.out hw | exact kup_n HLT.out
    · obtain rfl : n = t.size := by omega
      have y1 : decide ((t.size : Int) < (t.size : Int)) = false := decide_eq_false (by omega)
      rw [List.take_of_length_le (by rw [HBL.out]; exact Nat.le_refl _)] at HO hol
      obtain ⟨Av, c0, hv, -⟩ := (byt_own.1 HO.out).slice_
      obtain ⟨o1, ho1⟩ : ∃ o1, (80 :: escB (bl t)) = o1 := ⟨_, rfl⟩
      have HE1 := Lib.hid (show o1 ++ [0, 0] = bl (oneS (.str t)) by rw [← ho1, bl_one]; rfl)
      have hl1 : o1.length ≤ 2001 := by rw [← ho1, List.length_cons]; omega
      rw [ho1] at HO hv
      clear hol
      obtain ⟨v3, w3, hr3, ho3, hg3, -⟩ := run_app_rows (P := Tryd.prog) (W := wr.alloc (.cells #[.int .u8 0, .int .u8 0] 5)) 39 39 Tryd.underlying39 info_u8 rfl (by decide) (by decide) (fun _ => rfl) (fun x u hu => by simp at hu; subst hu; rfl) ((byt_own.1 HO.out).below (below_alloc (Below.refl _ wr) (.cells #[.int .u8 0, .int .u8 0] 5))) (c := 2) (byt_zeros (base := 0) (blk_new wr (.cells #[.int .u8 0, .int .u8 0] 5))) (Nat.le_trans HB.out.size (below_alloc (Below.refl _ wr) (.cells #[.int .u8 0, .int .u8 0] 5)).size) (by omega)
      have HB3 := Lib.hid ((below_alloc HB.out (.cells #[.int .u8 0, .int .u8 0] 5)).grown hg3 (Nat.le_trans HB.out.size (below_alloc (Below.refl _ wr) (.cells #[.int .u8 0, .int .u8 0] 5)).size) (fun q hq => ((byt_own.1 HO.out).block_ge q hq).1))
      have HO3 := Lib.hid (byt_own.2 ho3)
      subst hv
      clear ho3 hg3 HO HB
      obtain ⟨A3, c9, hv, -⟩ := (byt_own.1 HO3.out).slice_
      subst hv
      have hoo : ∃ n0, o1.length = n0 := ⟨_, rfl⟩
      obtain ⟨n0, hn0⟩ := hoo
      rw [hn0] at hr3 ⊢
      obtain ⟨o, ho⟩ : ∃ o, o1 ++ [0, 0] = o := ⟨_, rfl⟩
      rw [ho] at HO3 HE1 hr3
      have HE := HE1
      have HPOS := Lib.hid (show 0 < o.length ∧ o.length ≤ 5000 by rw [← ho, List.length_append]; simp only [List.length_cons, List.length_nil]; omega)
      obtain ⟨m9, hm9⟩ : ∃ m9, o.length = m9 := ⟨_, rfl⟩
      rw [hm9] at hr3 HO3
      clear ho hn0 hl1 ho1 HE1
      go_wp2_with (at_builtin; refine wpl_app rfl (.tmp 57) (.tmp 58) 39 rfl rfl rfl hr3 ?_)
      rw [← hm9] at HO3 ⊢
      clear hm9 hr3
      have HO := HO3
      have HB := HB3
      generalize hWW : w3 = wr at *
      clear hWW
  
      obtain ⟨g, cap, hv, hg0, hg, -⟩ := HO.out.form HPOS.out.1
      cases hv
      have hcv0 := HO.out.conv
      obtain ⟨hr, -, -, -⟩ := byt_row HO.out
      have HF := Lib.hid (item_str (d := true) HE.out)
      have HGE := Lib.hid hg0; clear hg0
      obtain ⟨m, hm⟩ : ∃ m, o.length = m := ⟨_, rfl⟩
      have HM := Lib.hid hm.symm
      have hmz : m ≤ 5000 := by have := HPOS.out.2; omega
      have hm0 : 0 < m := by have := HPOS.out.1; omega
      have HMZ := Lib.hid (And.intro hmz hm0)
      rw [hm] at hcv0 ⊢
      clear hm
      have c4 : wr.cell? ⟨w.heap.size, 4, none⟩ = some (.bool true) := (HB.out.cell (p := ⟨w.heap.size, 4, none⟩) HLT0.out).trans HC4.out
      clear hcv0 c4 HPOS
      have HR0 := Lib.hid (show ByteRow wr g (mixB o 0) from hr)
      have HB0 := HB
      generalize hWR : wr = W9 at *
      clear hWR
      go_loopw [6] (fun u wr => ∃ j : Nat, u = .int .i64 j ∧ j ≤ m ∧ Hid (ByteRow wr g (mixB o j)) ∧ Hid (g < wr.heap.size) ∧ Hid (Below W0.heap.size W0 wr)) (fun u _ => m - (intOf u).toNat)
      case atStart => exact ⟨0, rfl, Nat.zero_le _, HR0, Lib.hid hg, HB⟩
      case round =>
        clear HR0 HB HB0
        obtain ⟨j, rfl, hj, HR, HGL, HB⟩ := hrel
        have c4 : wr.cell? ⟨w.heap.size, 4, none⟩ = some (.bool true) := (HB.out.cell (p := ⟨w.heap.size, 4, none⟩) HLT0.out).trans HC4.out
        by_cases hlt : j < m
        · have y1 : decide ((j : Int) < (m : Int)) = true := decide_eq_true (by omega)
          have hjl : j < o.length := by rw [← HM.out]; exact hlt
          have hm := mixB_len (l := o) (i := j) (by omega)
          obtain ⟨c1, f1⟩ := HR.out j (by omega)
          have hget := mixB_get hjl
          rw [List.getElem?_eq_getElem (by omega)] at hget
          injection hget with hget
          rw [hget] at c1
          obtain ⟨b, hb⟩ : ∃ b, o[j] = b := ⟨_, rfl⟩
          have hset := mixB_set hjl
          rw [hb] at c1 hset
          have HSET := Lib.hid hset; clear hset hget hb
          have HML := Lib.hid hm; clear hm
          have hsu := sub_u8 b
          have hw := succ_w' hlt (show m ≤ 140737488351232 by omega)
          have HX := Lib.hid (ByteRow.set HR.out j (notU b) ((notU b).toNat : Int) rfl (by rw [HML.out]; exact hjl))
          rw [HSET.out] at HX
          clear hjl
          go_wp2
          go_roundw
          case rel => exact ⟨j + 1, by go_num, hlt, HX, Lib.hid (by simpa [World.setCell] using HGL.out), Lib.hid (HB.out.setCell HGE.out _)⟩
          case measure => first | exact kup_w hlt hw | exact kup_n hlt
        · obtain rfl : j = m := by omega
          have y1 : decide ((j : Int) < (j : Int)) = false := decide_eq_false (by omega)
          have hcv := HR.out.str c9
          rw [mixB_len (by rw [HM.out]; exact Nat.le_refl _), ← HM.out, show mixB o j = turnL true o by unfold mixB turnL; rw [HM.out, List.take_length, List.drop_length, List.append_nil]; rfl] at hcv
          go_wp2
          go_ret
          exact ⟨congrArg (fun x => Ending.returned (.string x)) HF.out, HB2.out.trans (HB.out.mono HB2.out.size)⟩
end Go.Proofs.YtbbjnnbabikefaaDoor.My
