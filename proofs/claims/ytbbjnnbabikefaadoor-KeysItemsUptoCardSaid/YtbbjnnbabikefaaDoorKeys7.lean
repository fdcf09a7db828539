/- The law KeysFirst walked. -/
import Derived.Test.YtbbjnnbabikefaaDoorKeys6
import Derived.Test.YtbbjnnbabikefaaDoorWGuard
namespace Go.Proofs.YtbbjnnbabikefaaDoor.My
set_option linter.unusedSimpArgs false
set_option linter.unusedVariables false
open Go.RowKit Go.Proofs.YtbbjnnbabikefaaDoorW.PrintWords Go.Proofs.YtbbjnnbabikefaaDoorW.PrintLast Go.Proofs.YtbbjnnbabikefaaDoor.Pm

theorem str_eqb (a b : ByteArray) : (a.toList == b.toList) = decide (a = b) := by
  rw [ByteArray.toList_eq, ByteArray.toList_eq]
  by_cases h : a = b
  · simp [h]
  · rw [decide_eq_false h]
    exact beq_eq_false_iff_ne.2 (fun e => h (Go.WideShapes.bytes_inj e))
theorem row_two {W : World} {g : Nat} {T : TypeId} (x y : IR) (hn : W.heap[g]? = some (.cells (x.arr ++ y.arr) T (0, 0))) : RowF W 5 irC (some ⟨g, 0, none⟩) 2 [x, y] := by
  refine ⟨rfl, fun _ => ⟨g, 0, rfl, blk_lt hn, fun j hj => ?_⟩⟩
  intro q v hv
  match j, hj with
  | 0, _ =>
    match q, hv with
    | 0, hv => exact by cases hv; have h0 := blk_cell hn 0; exact h0.trans rfl
    | 1, hv => exact by cases hv; have h0 := blk_cell hn 1; exact h0.trans rfl
    | 2, hv => exact by cases hv; have h0 := blk_cell hn 2; exact h0.trans rfl
    | 3, hv => exact by cases hv; have h0 := blk_cell hn 3; exact h0.trans rfl
    | 4, hv => exact by cases hv; have h0 := blk_cell hn 4; exact h0.trans rfl
  | 1, _ =>
    match q, hv with
    | 0, hv => exact by cases hv; have h0 := blk_cell hn 5; exact h0.trans rfl
    | 1, hv => exact by cases hv; have h0 := blk_cell hn 6; exact h0.trans rfl
    | 2, hv => exact by cases hv; have h0 := blk_cell hn 7; exact h0.trans rfl
    | 3, hv => exact by cases hv; have h0 := blk_cell hn 8; exact h0.trans rfl
    | 4, hv => exact by cases hv; have h0 := blk_cell hn 9; exact h0.trans rfl
theorem row_item {W : World} {g : Nat} {T : TypeId} (x : ItX) (hn : W.heap[g]? = some (.cells #[itV x.1 x.2] T (0, 0))) : RowF W 1 itC (some ⟨g, 0, none⟩) 1 [x] := by
  refine ⟨rfl, fun _ => ⟨g, 0, rfl, blk_lt hn, fun j hj => ?_⟩⟩
  intro q v hv
  match j, hj, q, hv with
  | 0, _, 0, hv => exact by cases hv; have h0 := blk_cell hn 0; exact h0.trans rfl
theorem encL_one (x : ItX) : encL [x] = itemS x.1 x.2 := by
  show (⟨#[]⟩ : ByteArray) ++ itemS x.1 x.2 = _
  exact bl_ext ((bl_append _ _).trans rfl)
theorem build_item (p : PIt) (d : Bool) (W : World) : (Instr.buildSlice 36 1 #[(0, itV p d)]).run Tryd.prog W = .ok (.slice (some ⟨W.heap.size, 0, none⟩) 1 1) (W.alloc (.cells #[itV p d] 20)) := by
  cases d <;> cases p <;> kernel_rfl
theorem wpl_build {P : Program} {o : Oper} {a : Act} {W w1 : World} {ops : Array Oper} {Q : Exit → Act → World → Prop} {v v1 : Value} {rest : List Oper} (hg : o.guard = none) (t : TypeId) (n : Nat) (x : Operand) (ho : o.op = .buildSlice t n #[(0, x)]) (hx : a.eval x = v)
    (hr : (Instr.buildSlice t n #[(0, v)]).run P W = .ok v1 w1) (h : wpList P ops Q rest (a.put o.dst v1) w1) : wpList P ops Q (o :: rest) a W := by
  refine wpList_plain hg fun K hK => ?_
  unfold Oper.wp execOp
  simp only [ho, Sem.run_bind, Sem.run_pure, Result.andThen_ok, List.map_toArray, List.map_cons, List.map_nil, hx, hr]
  exact hK _ _ h
theorem itV_one (p : PIt) (d : Bool) : (itV p d).oneCell' = true ∧ (itV p d).cells = #[itV p d] := by
  cases d <;> cases p <;> exact ⟨rfl, rfl⟩
theorem info_item : (Tryd.prog.info? 24).map (·.size) = some 5 := by kernel_rfl
set_option maxRecDepth 100000 in
set_option maxHeartbeats 16000000 in
theorem keys_first_walk (x y : IR) (w : World) (hx : x.In) (hy : y.In) (hxt : x.t.size ≤ 140737488351232) (hyt : y.t.size ≤ 140737488351232) (hg : Glob w) :
    Calls Tryd.prog 3 #[.agg x.arr, .agg y.arr] w fun e w' => e = .returned (.bool true) ∧ Below w.heap.size w w' := by
  have FW := Lib.hid (fun (w : World) (A : Option Addr) (c : Nat) (h : RowF w 5 irC A 2 [x, y]) => few03_any A 2 c [x, y] w h (by decide))
  have AW := Lib.hid (fun w (hg : Glob w) => awake03 w hg)
  have VX := Lib.hid (fun w => value_any x w)
  have VY := Lib.hid (fun w => value_any y w)
  have OX := Lib.hid (fun (h : x.t.size ≤ 100) => IR.ok hx h)
  have OY := Lib.hid (fun (h : y.t.size ≤ 100) => IR.ok hy h)
  have EX := Lib.hid (fun (w : World) (A : Option Addr) (c : Nat) (h : RowF w 1 itC A 1 [(x.p, x.d)]) (ho : x.p.ok) (hg : Glob w) => encode_any A 1 c [(x.p, x.d)] w h (by decide) (fun z hz => by simp at hz; subst hz; exact ho) hg)
  have EY := Lib.hid (fun (w : World) (A : Option Addr) (c : Nat) (h : RowF w 1 itC A 1 [(y.p, y.d)]) (ho : y.p.ok) (hg : Glob w) => encode_any A 1 c [(y.p, y.d)] w h (by decide) (fun z hz => by simp at hz; subst hz; exact ho) hg)
  rw [encL_one] at EX EY
  have RX := Lib.hid (fun (W : World) (g : Nat) (T : TypeId) (h : W.heap[g]? = some (.cells #[itV x.p x.d] T (0, 0))) => row_item (x.p, x.d) h)
  have RY := Lib.hid (fun (W : World) (g : Nat) (T : TypeId) (h : W.heap[g]? = some (.cells #[itV y.p y.d] T (0, 0))) => row_item (y.p, y.d) h)
  have FST := Lib.hid (bytes_first (x.p, x.d) (y.p, y.d))
  have SX := Lib.hid (itemS_size (x := (x.p, x.d)))
  have SY := Lib.hid (itemS_size (x := (y.p, y.d)))
  have BX := Lib.hid (build_item x.p x.d)
  have BY := Lib.hid (build_item y.p y.d)
  have RT := Lib.hid (fun (W : World) (g : Nat) (T : TypeId) (h : W.heap[g]? = some (.cells (x.arr ++ y.arr) T (0, 0))) => row_two x y h)
  generalize itV x.p x.d = vx at *
  generalize itV y.p y.d = vy at *
  simp only at FST SX SY
  generalize itemS x.p x.d = sx at *
  generalize itemS y.p y.d = sy at *
  have HG := Lib.hid hg; clear hg
  have IM := Lib.hid info_item
  clear hx hy
  generalize hpx : x.p = px at *
  generalize hpy : y.p = py at *
  clear hpx hpy
  obtain ⟨k1, i1, u1, t1, d1⟩ := x
  obtain ⟨k2, i2, u2, t2, d2⟩ := y
  simp only [IR.arr] at *
  have H1 := Lib.hid (blk_new w (.cells #[.int .u8 (k1 : Int), .int .i64 i1, .int .u64 (u1 : Int), .string t1, .bool d1] 24))
  have hb1 := below_alloc (Below.refl _ w) (.cells #[.int .u8 (k1 : Int), .int .i64 i1, .int .u64 (u1 : Int), .string t1, .bool d1] 24)
  replace H1 := Lib.hid (blk_below H1.out (below_alloc (Below.refl _ _) (.cells #[.int .u8 (k2 : Int), .int .i64 i2, .int .u64 (u2 : Int), .string t2, .bool d2] 24)))
  have H2 := Lib.hid (row_new (w.alloc (.cells #[.int .u8 (k1 : Int), .int .i64 i1, .int .u64 (u1 : Int), .string t1, .bool d1] 24)) (.cells #[.int .u8 (k2 : Int), .int .i64 i2, .int .u64 (u2 : Int), .string t2, .bool d2] 24) (n := w.heap.size + 1) (by first | rfl | exact Array.size_push _ | exact (Array.size_push _).symm))
  have HB := Lib.hid (below_alloc hb1 (.cells #[.int .u8 (k2 : Int), .int .i64 i2, .int .u64 (u2 : Int), .string t2, .bool d2] 24))
  clear hb1 hxt hyt
  go_enter Tryd.func3, Tryd.ntmps3
  go_wp2_with fail
  refine (AW.out _ (HG.out.below HB.out)).mono ?_
  rintro e w1 ⟨rfl, hb⟩
  replace HB := Lib.hid (HB.out.trans (hb.mono HB.out.size)); replace H1 := Lib.hid (blk_below H1.out hb); replace H2 := Lib.hid (blk_below H2.out hb); clear hb
  obtain ⟨pp, hpp⟩ : ∃ pp, w.heap.size = pp := ⟨_, rfl⟩
  have HPP := Lib.hid hpp
  rw [hpp] at H1 H2 ⊢
  obtain ⟨qq, hqq⟩ : ∃ qq, pp + 1 = qq := ⟨_, rfl⟩
  rw [hqq] at H2 ⊢
  clear hpp hqq
  go_wp2_with (first | refine gate_guard (by rfl) (wpList_load_row rfl 24 _ rfl pp rfl 24 #[.int .u8 (k1 : Int), .int .i64 i1, .int .u64 (u1 : Int), .string t1, .bool d1] (0, 0) _ H1.out Tryd.underlying24 rfl IM.out ?_) | refine gate_guard (by rfl) (wpList_load_row rfl 24 _ rfl qq rfl 24 #[.int .u8 (k2 : Int), .int .i64 i2, .int .u64 (u2 : Int), .string t2, .bool d2] (0, 0) _ H2.out Tryd.underlying24 rfl IM.out ?_) | refine wpList_load_row rfl 24 _ rfl pp rfl 24 #[.int .u8 (k1 : Int), .int .i64 i1, .int .u64 (u1 : Int), .string t1, .bool d1] (0, 0) _ H1.out Tryd.underlying24 rfl IM.out ?_ | refine wpList_load_row rfl 24 _ rfl qq rfl 24 #[.int .u8 (k2 : Int), .int .i64 i2, .int .u64 (u2 : Int), .string t2, .bool d2] (0, 0) _ H2.out Tryd.underlying24 rfl IM.out ?_ | fail)
  have hn2 := RT.out _ _ _ (blk_new w1 (.cells (#[.int .u8 (k1 : Int), .int .i64 i1, .int .u64 (u1 : Int), .string t1, .bool d1] ++ #[.int .u8 (k2 : Int), .int .i64 i2, .int .u64 (u2 : Int), .string t2, .bool d2]) 24))
  have hb := below_alloc (Below.refl _ w1) (.cells (#[.int .u8 (k1 : Int), .int .i64 i1, .int .u64 (u1 : Int), .string t1, .bool d1] ++ #[.int .u8 (k2 : Int), .int .i64 i2, .int .u64 (u2 : Int), .string t2, .bool d2]) 24)
  refine (FW.out _ _ _ hn2).mono ?_
  rintro e w2 ⟨b, rfl, hfit, hw2⟩
  have hb : Below w1.heap.size w1 w2 := by rw [hw2]; exact hb
  clear hw2 hn2
  replace HB := Lib.hid (HB.out.trans (hb.mono HB.out.size)); replace H1 := Lib.hid (blk_below H1.out hb); replace H2 := Lib.hid (blk_below H2.out hb); clear hb
  cases b with
  | false =>
    go_wp2_with fail
    refine (AW.out _ (HG.out.below HB.out)).mono ?_
    rintro e w3 ⟨rfl, hb⟩
    replace HB := Lib.hid (HB.out.trans (hb.mono HB.out.size))
    go_wp2
    go_ret
    exact ⟨rfl, HB.out⟩
  | true =>
    have hfit := (hfit rfl).2
    have OX := Lib.hid (OX.out (hfit ⟨k1, i1, u1, t1, d1⟩ (by simp)))
    have OY := Lib.hid (OY.out (hfit ⟨k2, i2, u2, t2, d2⟩ (by simp)))
    clear hfit
    have HB2 := Lib.hid HB.out
    go_wp2_with (first | refine gate_guard (by rfl) (wpList_load_row rfl 24 _ rfl pp rfl 24 #[.int .u8 (k1 : Int), .int .i64 i1, .int .u64 (u1 : Int), .string t1, .bool d1] (0, 0) _ H1.out Tryd.underlying24 rfl IM.out ?_) | refine gate_guard (by rfl) (wpList_load_row rfl 24 _ rfl qq rfl 24 #[.int .u8 (k2 : Int), .int .i64 i2, .int .u64 (u2 : Int), .string t2, .bool d2] (0, 0) _ H2.out Tryd.underlying24 rfl IM.out ?_) | refine wpList_load_row rfl 24 _ rfl pp rfl 24 #[.int .u8 (k1 : Int), .int .i64 i1, .int .u64 (u1 : Int), .string t1, .bool d1] (0, 0) _ H1.out Tryd.underlying24 rfl IM.out ?_ | refine wpList_load_row rfl 24 _ rfl qq rfl 24 #[.int .u8 (k2 : Int), .int .i64 i2, .int .u64 (u2 : Int), .string t2, .bool d2] (0, 0) _ H2.out Tryd.underlying24 rfl IM.out ?_ | fail)
    refine (VX.out _).mono ?_
    rintro e w3 ⟨rfl, hb⟩
    replace HB := Lib.hid (HB.out.trans (hb.mono HB.out.size)); replace H1 := Lib.hid (blk_below H1.out hb); replace H2 := Lib.hid (blk_below H2.out hb); clear hb
    go_wp2_with (first | refine wpl_build (v := vx) rfl 36 1 (.tmp 21) rfl (by rfl) (BX.out _) ?_ | fail)
    have hb := below_alloc (Below.refl _ w3) (.cells #[vx] 20)
    refine (EX.out _ _ _ (RX.out _ _ _ (blk_new w3 (.cells #[vx] 20))) OX.out (HG.out.below (HB.out.trans (hb.mono HB.out.size)))).mono ?_
    replace HB := Lib.hid (HB.out.trans (hb.mono HB.out.size)); replace H1 := Lib.hid (blk_below H1.out hb); replace H2 := Lib.hid (blk_below H2.out hb); clear hb
    rintro e w4 ⟨rfl, hb⟩
    replace HB := Lib.hid (HB.out.trans (hb.mono HB.out.size)); replace H1 := Lib.hid (blk_below H1.out hb); replace H2 := Lib.hid (blk_below H2.out hb); clear hb
    go_wp2_with (first | refine gate_guard (by rfl) (wpList_load_row rfl 24 _ rfl pp rfl 24 #[.int .u8 (k1 : Int), .int .i64 i1, .int .u64 (u1 : Int), .string t1, .bool d1] (0, 0) _ H1.out Tryd.underlying24 rfl IM.out ?_) | refine gate_guard (by rfl) (wpList_load_row rfl 24 _ rfl qq rfl 24 #[.int .u8 (k2 : Int), .int .i64 i2, .int .u64 (u2 : Int), .string t2, .bool d2] (0, 0) _ H2.out Tryd.underlying24 rfl IM.out ?_) | refine wpList_load_row rfl 24 _ rfl pp rfl 24 #[.int .u8 (k1 : Int), .int .i64 i1, .int .u64 (u1 : Int), .string t1, .bool d1] (0, 0) _ H1.out Tryd.underlying24 rfl IM.out ?_ | refine wpList_load_row rfl 24 _ rfl qq rfl 24 #[.int .u8 (k2 : Int), .int .i64 i2, .int .u64 (u2 : Int), .string t2, .bool d2] (0, 0) _ H2.out Tryd.underlying24 rfl IM.out ?_ | fail)
    refine (VY.out _).mono ?_
    rintro e w5 ⟨rfl, hb⟩
    replace HB := Lib.hid (HB.out.trans (hb.mono HB.out.size)); replace H1 := Lib.hid (blk_below H1.out hb); replace H2 := Lib.hid (blk_below H2.out hb); clear hb
    go_wp2_with (first | refine wpl_build (v := vy) rfl 36 1 (.tmp 28) rfl (by rfl) (BY.out _) ?_ | fail)
    have hb := below_alloc (Below.refl _ w5) (.cells #[vy] 20)
    refine (EY.out _ _ _ (RY.out _ _ _ (blk_new w5 (.cells #[vy] 20))) OY.out (HG.out.below (HB.out.trans (hb.mono HB.out.size)))).mono ?_
    replace HB := Lib.hid (HB.out.trans (hb.mono HB.out.size)); replace H1 := Lib.hid (blk_below H1.out hb); replace H2 := Lib.hid (blk_below H2.out hb); clear hb
    rintro e w6 ⟨rfl, hb⟩
    replace HB := Lib.hid (HB.out.trans (hb.mono HB.out.size)); replace H1 := Lib.hid (blk_below H1.out hb); replace H2 := Lib.hid (blk_below H2.out hb); clear hb
    have sx1 := SX.out OX.out
    have sy1 := SY.out OY.out
    have he := str_eqb sx sy
    by_cases hxy : sx = sy
    · subst hxy
      rw [decide_eq_true rfl] at he
      go_wp2
      go_ret
      exact ⟨rfl, HB.out⟩
    · rw [decide_eq_false hxy] at he
      by_cases hsz : sy.size < sx.size
      · have hd : decide ((sy.size : Int) < (sx.size : Int)) = true := decide_eq_true (by omega)
        have hdn : decide (sy.size < sx.size) = true := decide_eq_true hsz
        go_wp2
        go_ret
        exact ⟨rfl, HB.out⟩
      · have hd : decide ((sy.size : Int) < (sx.size : Int)) = false := decide_eq_false (by omega)
        have hdn : decide (sy.size < sx.size) = false := decide_eq_false hsz
        have hne : ¬ sy.extract 0 sx.size = sx := fun h => hxy (FST.out (by omega) h)
        have he2 := str_eqb (sy.extract 0 sx.size) sx
        rw [decide_eq_false hne] at he2
        have z0 : sx.size ≤ sy.size := by omega
        clear hsz hne
        go_wp2
        go_ret
        exact ⟨rfl, HB.out⟩
end Go.Proofs.YtbbjnnbabikefaaDoor.My
