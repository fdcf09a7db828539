/- keys.Decode. -/
import Derived.Test.YtbbjnnbabikefaaDoorKeysC
namespace Go.Proofs.YtbbjnnbabikefaaDoor.My
set_option linter.unusedSimpArgs false
set_option linter.unusedVariables false
open Go.RowKit Go.Proofs.YtbbjnnbabikefaaDoorW.PrintWords Go.Proofs.YtbbjnnbabikefaaDoorW.PrintLast Go.Proofs.YtbbjnnbabikefaaDoor.Pm

def strV : Value → ByteArray
  | .string s => s
  | _ => ⟨#[]⟩
def turnL (d : Bool) (l : List UInt8) : List UInt8 := if d then l.map notU else l
def highL (l : List UInt8) : Bool := match l with | [] => false | c :: _ => decide (128 ≤ c.toNat)
/-- The items that bytes are. -/
def decL : Nat → List UInt8 → Option (List ItX)
  | _, [] => some []
  | 0, _ :: _ => none
  | k + 1, c :: r => match plainL (turnL (highL (c :: r)) (c :: r)) with
    | none => none
    | some (p, n) => (decL k ((c :: r).drop n)).map ((p, highL (c :: r)) :: ·)
theorem plainL_len {l : List UInt8} {p : PIt} {n : Nat} (h : plainL l = some (p, n)) : 1 ≤ n ∧ n ≤ l.length := by
  cases l with
  | nil => cases h
  | cons c r =>
    rw [plainL] at h
    split at h
    · cases h; simp
    split at h
    · cases h; simp
    split at h
    · cases h; simp
    split at h
    · split at h
      · cases h; simp only [List.length_cons]; omega
      · cases h
    split at h
    · split at h
      · cases h; simp only [List.length_cons]; omega
      · cases h
    split at h
    · obtain ⟨⟨o, m⟩, h1, h2⟩ := Option.map_eq_some_iff.1 h
      have := textL_len _ r (Nat.le_refl _) o m h1
      simp only [Prod.mk.injEq] at h2
      simp only [List.length_cons]
      omega
    · cases h
theorem turnL_len (d : Bool) (l : List UInt8) : (turnL d l).length = l.length := by unfold turnL; split <;> simp
theorem down_built (p : PIt) : Tryd.prog.built 41 [(0, p.val)] = some #[p.val] := by cases p <;> kernel_rfl
theorem wpList_build' {P : Program} {ops : Array Oper} {rest : List Oper} {o : Oper} {a : Act} {w : World} {Q : Exit → Act → World → Prop} (hgd : o.guard = none) (t : TypeId) (parts : Array (Nat × Operand)) (ho : o.op = .build t parts) (cells : Array Value)
    (hf : P.built t (parts.map fun (i, x) => (i, a.eval x)).toList = some cells) (h : wpList P ops Q rest (a.put o.dst (.agg cells)) w) : wpList P ops Q (o :: rest) a w :=
  wpList_plain hgd fun _ hK => wp_build t parts ho (by rw [hf]; rfl) (hK _ _ (by rw [hf]; exact h))
def decV (b : ByteArray) (w w' : World) (e : Ending) : Prop := match decL b.size (bl b) with
  | none => e = .returned (.tuple #[.slice none 0 0, .int .i64 2])
  | some l => ∃ v, e = .returned (.tuple #[v, .int .i64 0]) ∧ OwnF w' w.heap.size 20 1 itC v l
theorem decV_none {b : ByteArray} {w w' : World} {e : Ending} (h : decL b.size (bl b) = none) (he : e = .returned (.tuple #[.slice none 0 0, .int .i64 2])) : decV b w w' e := by unfold decV; rw [h]; exact he
theorem decV_some {b : ByteArray} {w w' : World} {e : Ending} {l : List ItX} {v : Value} (h : decL b.size (bl b) = some l) (he : e = .returned (.tuple #[v, .int .i64 0])) (ho : OwnF w' w.heap.size 20 1 itC v l) : decV b w w' e := by unfold decV; rw [h]; exact ⟨v, he, ho⟩
theorem decL_nil (k : Nat) : decL k [] = some [] := by cases k <;> rfl
theorem bl_ne {b : ByteArray} (h : b.size ≠ 0) : bl b ≠ [] := fun e => h (by rw [← bl_length, e]; rfl)
theorem bl_nil {b : ByteArray} (h : b.size = 0) : bl b = [] := List.eq_nil_of_length_eq_zero (by rw [bl_length]; exact h)
theorem drop_size (b : ByteArray) (n : Nat) (hn : n ≤ b.size) : (b.extract n b.size).size = b.size - n := by rw [ByteArray.size_extract]; omega
theorem bl_drop (b : ByteArray) (n : Nat) : bl (b.extract n b.size) = (bl b).drop n := by rw [bl_extract, List.take_of_length_le (by rw [bl_length]; exact Nat.le_refl _)]
theorem decL_step {k : Nat} {l : List UInt8} (h : l ≠ []) : decL (k + 1) l = match plainL (turnL (highL l) l) with
    | none => none
    | some (p, n) => (decL k (l.drop n)).map ((p, highL l) :: ·) := by
  cases l with
  | nil => exact absurd rfl h
  | cons c r => rfl
set_option maxRecDepth 100000 in
set_option maxHeartbeats 16000000 in
theorem decode_any (b0 : ByteArray) (w : World) (hs : b0.size ≤ 100000) :
    Calls Tryd.prog 15 #[.string b0] w fun e w' => decV b0 w w' e ∧ Below w.heap.size w w' := by
  go_enter Tryd.func15, Tryd.ntmps15
  go_wp2
  go_loopw [0, 4] (fun u v wr => ∃ (b : ByteArray) (out : List ItX) (k : Nat), u = .string b ∧ b.size ≤ k ∧ b.size ≤ 100000 ∧ Hid (out.length + b.size ≤ 100000) ∧ Hid (decL b0.size (bl b0) = (decL k (bl b)).map (out ++ ·)) ∧ Hid (OwnF wr w.heap.size 20 1 itC v out) ∧ Hid (Below w.heap.size w wr)) (fun u _ _ => (strV u).size)
  case atStart => exact ⟨b0, [], b0.size, rfl, Nat.le_refl _, hs, Lib.hid (by simpa using hs), Lib.hid (by simp), Lib.hid (OwnF.nil ..), Lib.hid (Below.refl _ _)⟩
  case round =>
    obtain ⟨b, out, k, rfl, hk, hbz, HZ, HT, HO, HB⟩ := hrel
    by_cases hb0 : b.size = 0
    · have he : b.toList.isEmpty = true := by rw [str_e]; exact decide_eq_true hb0
      have HF := Lib.hid (show decL b0.size (bl b0) = some out by rw [HT.out, bl_nil hb0, decL_nil]; simp)
      clear hb0
      go_wp2
      first | go_ret2 | go_ret
      exact ⟨decV_some HF.out rfl HO.out, HB.out⟩
    have he : b.toList.isEmpty = false := by rw [str_e]; exact decide_eq_false hb0
    have hne := bl_ne hb0
    have hpos : 0 < b.size := by omega
    obtain ⟨k, rfl⟩ : ∃ j, k = j + 1 := ⟨k - 1, by omega⟩
    obtain ⟨c, r, hcr⟩ : ∃ c r, bl b = c :: r := by
      cases h : bl b with
      | nil => exact absurd h hne
      | cons c r => exact ⟨c, r, rfl⟩
    have hxx : ∀ h : 0 < b.size, b[0]'h = c := fun h => by
      have e : (bl b)[0]'(by rw [bl_length]; exact h) = c := by simp [hcr]
      exact e
    have hst := decL_step (k := k) hne
    have hml : out.length ≤ 100000 := by have := HZ.out; omega
    by_cases hh : 128 ≤ c.toNat
    · have y1 : decide (128 ≤ (c.toNat : Int)) = true := decide_eq_true (by omega)
      have y1n : decide (128 ≤ c.toNat) = true := decide_eq_true hh
      have y2 : decide ((c.toNat : Int) < 128) = false := decide_eq_false (by omega)
      have hhi : highL (bl b) = true := by rw [hcr]; exact decide_eq_true hh
      rw [hhi] at hst
      rw [hst] at HT
      clear hh hhi
      have HT2 := Lib.hid HT.out; clear hst HT
      have PL := Lib.hid (fun w => plain_any (notB b) w (by rw [notB_size]; omega) (by rw [bl_notB]; intro h; exact hne (List.map_eq_nil_iff.1 h)))
      rw [show bl (notB b) = turnL true (bl b) from rfl] at PL
      have TN := Lib.hid (fun w => turned_any b w (by omega))
      generalize notB b = nbx at *
      clear hne
      cases hp : plainL (turnL true (bl b)) with
      | none =>
        rw [hp] at PL HT2
        have e1 : plainV none = .tuple #[.nilIface, .int .i64 0] := rfl
        rw [e1] at PL
        have HF := Lib.hid (show decL b0.size (bl b0) = none from HT2.out)
        clear hp HT2 hcr e1
        go_wp2_with fail
        refine (TN.out _).mono ?_
        rintro e w2 ⟨rfl, hb⟩
        replace HB := Lib.hid (HB.out.trans (hb.mono HB.out.size))
        replace HO := Lib.hid (HO.out.below hb); clear hb
        go_wp2_with fail
        refine (PL.out _).mono ?_
        rintro e w3 ⟨rfl, hb⟩
        replace HB := Lib.hid (HB.out.trans (hb.mono HB.out.size)); clear hb
        go_wp2
        first | go_ret2 | go_ret
        exact ⟨decV_none HF.out rfl, HB.out⟩
      | some pn =>
        obtain ⟨p, n⟩ := pn
        rw [hp] at PL HT2
        obtain ⟨hn1, hn2⟩ := plainL_len hp
        rw [turnL_len, bl_length] at hn2
        have e1 : plainV (some (p, n)) = .tuple #[p.val, .int .i64 (n : Int)] := rfl
        rw [e1] at PL
        have e2 : decL b0.size (bl b0) = ((decL k ((bl b).drop n)).map ((p, true) :: ·)).map (out ++ ·) := HT2.out
        have hzn := drop_size b n hn2
        have HF := Lib.hid (show decL b0.size (bl b0) = (decL k (bl (b.extract n b.size))).map ((out ++ [(p, true)]) ++ ·) by
          rw [e2, bl_drop, Option.map_map]
          congr 1
          funext x
          simp only [Function.comp, List.append_assoc, List.singleton_append])
        have q1 : ((n : Int) == 0) = false := by simp; omega
        have q2 : (n : Int) ≤ (b.size : Int) := by omega
        have HZN := Lib.hid (show (b.extract n b.size).size < b.size by omega)
        have HZ2 := Lib.hid (show (out ++ [(p, true)]).length + (b.extract n b.size).size ≤ 100000 by have := HZ.out; rw [List.length_append, List.length_singleton]; omega)
        have HKK := Lib.hid (show (b.extract n b.size).size ≤ k by omega)
        have HBZ := Lib.hid (show (b.extract n b.size).size ≤ 100000 by omega)
        clear e1 e2 hp HT2 hcr hzn HZ
        cases p with
        | nul =>
          have e1 : itV (.nul) true = .iface 41 (.agg #[.nilIface]) := rfl
          have HV := Lib.hid (itV_one (.nul) true)
          have BD := Lib.hid (down_built (.nul))
          have RI := Lib.hid (fun (W : World) (g : Nat) (h : W.heap[g]? = some (.cells #[itV (.nul) true] 20 (0, 0))) => row_item (.nul, true) h)
          have BV := Lib.hid (build_item (.nul) true)
          rw [e1] at RI BV HV
          rw [show (PIt.val (.nul)) = .nilIface from rfl] at PL
          clear e1 BD
          go_wp2_with fail
          refine (TN.out _).mono ?_
          rintro e w2 ⟨rfl, hb⟩
          replace HB := Lib.hid (HB.out.trans (hb.mono HB.out.size))
          replace HO := Lib.hid (HO.out.below hb); clear hb
          go_wp2_with fail
          refine (PL.out _).mono ?_
          rintro e w3 ⟨rfl, hb⟩
          replace HB := Lib.hid (HB.out.trans (hb.mono HB.out.size))
          replace HO := Lib.hid (HO.out.below hb); clear hb
          obtain ⟨oA, oc, rfl, hoc⟩ := HO.out.slice_
          obtain ⟨m, hm⟩ : ∃ m, out.length = m := ⟨_, rfl⟩
          rw [hm] at hml hoc HO ⊢
          obtain ⟨v3, w4, hr3, ho3, hg3, -⟩ := run_app_rows (P := Tryd.prog) (W := w3.alloc (.cells #[.iface 41 (.agg #[.nilIface])] 20)) 36 36 Tryd.underlying36 info_any rfl (by decide) (by decide) itC_len itC_one (HO.out.below (below_alloc (Below.refl _ w3) (.cells #[.iface 41 (.agg #[.nilIface])] 20))) (c := 1) (RI.out _ _ (blk_new w3 (.cells #[.iface 41 (.agg #[.nilIface])] 20))) (Nat.le_trans HB.out.size (below_alloc (Below.refl _ w3) (.cells #[.iface 41 (.agg #[.nilIface])] 20)).size) (by omega)
          have HB3 := Lib.hid ((below_alloc HB.out (.cells #[.iface 41 (.agg #[.nilIface])] 20)).grown hg3 (Nat.le_trans HB.out.size (below_alloc (Below.refl _ w3) (.cells #[.iface 41 (.agg #[.nilIface])] 20)).size) (fun q hq => (HO.out.block_ge q hq).1))
          have HO3 := Lib.hid ho3; clear ho3 hg3
          have ho1 := HO3.out.one_cell
          clear hm hoc hml
          go_wp2_with (first | refine wpl_build (v := .iface 41 (.agg #[.nilIface])) rfl 36 1 (.tmp 30) rfl (by rfl) (BV.out _) ?_ | (at_builtin; refine wpl_app rfl (.tmp 29) (.tmp 31) 36 rfl rfl rfl hr3 ?_)| fail)
          go_roundw
          case rel => exact ⟨b.extract n b.size, out ++ [(.nul, true)], k, by first | rfl | (congr 1), HKK.out, HBZ.out, HZ2, HF, HO3, HB3⟩
          case measure => exact HZN.out
        | boo x =>
          have e1 : itV (.boo x) true = .iface 41 (.agg #[.iface 4 (.bool x)]) := rfl
          have HV := Lib.hid (itV_one (.boo x) true)
          have BD := Lib.hid (down_built (.boo x))
          have RI := Lib.hid (fun (W : World) (g : Nat) (h : W.heap[g]? = some (.cells #[itV (.boo x) true] 20 (0, 0))) => row_item (.boo x, true) h)
          have BV := Lib.hid (build_item (.boo x) true)
          rw [e1] at RI BV HV
          rw [show (PIt.val (.boo x)) = .iface 4 (.bool x) from rfl] at PL
          clear e1 BD
          go_wp2_with fail
          refine (TN.out _).mono ?_
          rintro e w2 ⟨rfl, hb⟩
          replace HB := Lib.hid (HB.out.trans (hb.mono HB.out.size))
          replace HO := Lib.hid (HO.out.below hb); clear hb
          go_wp2_with fail
          refine (PL.out _).mono ?_
          rintro e w3 ⟨rfl, hb⟩
          replace HB := Lib.hid (HB.out.trans (hb.mono HB.out.size))
          replace HO := Lib.hid (HO.out.below hb); clear hb
          obtain ⟨oA, oc, rfl, hoc⟩ := HO.out.slice_
          obtain ⟨m, hm⟩ : ∃ m, out.length = m := ⟨_, rfl⟩
          rw [hm] at hml hoc HO ⊢
          obtain ⟨v3, w4, hr3, ho3, hg3, -⟩ := run_app_rows (P := Tryd.prog) (W := w3.alloc (.cells #[.iface 41 (.agg #[.iface 4 (.bool x)])] 20)) 36 36 Tryd.underlying36 info_any rfl (by decide) (by decide) itC_len itC_one (HO.out.below (below_alloc (Below.refl _ w3) (.cells #[.iface 41 (.agg #[.iface 4 (.bool x)])] 20))) (c := 1) (RI.out _ _ (blk_new w3 (.cells #[.iface 41 (.agg #[.iface 4 (.bool x)])] 20))) (Nat.le_trans HB.out.size (below_alloc (Below.refl _ w3) (.cells #[.iface 41 (.agg #[.iface 4 (.bool x)])] 20)).size) (by omega)
          have HB3 := Lib.hid ((below_alloc HB.out (.cells #[.iface 41 (.agg #[.iface 4 (.bool x)])] 20)).grown hg3 (Nat.le_trans HB.out.size (below_alloc (Below.refl _ w3) (.cells #[.iface 41 (.agg #[.iface 4 (.bool x)])] 20)).size) (fun q hq => (HO.out.block_ge q hq).1))
          have HO3 := Lib.hid ho3; clear ho3 hg3
          have ho1 := HO3.out.one_cell
          clear hm hoc hml
          go_wp2_with (first | refine wpl_build (v := .iface 41 (.agg #[.iface 4 (.bool x)])) rfl 36 1 (.tmp 30) rfl (by rfl) (BV.out _) ?_ | (at_builtin; refine wpl_app rfl (.tmp 29) (.tmp 31) 36 rfl rfl rfl hr3 ?_)| fail)
          go_roundw
          case rel => exact ⟨b.extract n b.size, out ++ [(.boo x, true)], k, by first | rfl | (congr 1), HKK.out, HBZ.out, HZ2, HF, HO3, HB3⟩
          case measure => exact HZN.out
        | i64 x =>
          have e1 : itV (.i64 x) true = .iface 41 (.agg #[.iface 2 (.int .i64 x)]) := rfl
          have HV := Lib.hid (itV_one (.i64 x) true)
          have BD := Lib.hid (down_built (.i64 x))
          have RI := Lib.hid (fun (W : World) (g : Nat) (h : W.heap[g]? = some (.cells #[itV (.i64 x) true] 20 (0, 0))) => row_item (.i64 x, true) h)
          have BV := Lib.hid (build_item (.i64 x) true)
          rw [e1] at RI BV HV
          rw [show (PIt.val (.i64 x)) = .iface 2 (.int .i64 x) from rfl] at PL
          clear e1 BD
          go_wp2_with fail
          refine (TN.out _).mono ?_
          rintro e w2 ⟨rfl, hb⟩
          replace HB := Lib.hid (HB.out.trans (hb.mono HB.out.size))
          replace HO := Lib.hid (HO.out.below hb); clear hb
          go_wp2_with fail
          refine (PL.out _).mono ?_
          rintro e w3 ⟨rfl, hb⟩
          replace HB := Lib.hid (HB.out.trans (hb.mono HB.out.size))
          replace HO := Lib.hid (HO.out.below hb); clear hb
          obtain ⟨oA, oc, rfl, hoc⟩ := HO.out.slice_
          obtain ⟨m, hm⟩ : ∃ m, out.length = m := ⟨_, rfl⟩
          rw [hm] at hml hoc HO ⊢
          obtain ⟨v3, w4, hr3, ho3, hg3, -⟩ := run_app_rows (P := Tryd.prog) (W := w3.alloc (.cells #[.iface 41 (.agg #[.iface 2 (.int .i64 x)])] 20)) 36 36 Tryd.underlying36 info_any rfl (by decide) (by decide) itC_len itC_one (HO.out.below (below_alloc (Below.refl _ w3) (.cells #[.iface 41 (.agg #[.iface 2 (.int .i64 x)])] 20))) (c := 1) (RI.out _ _ (blk_new w3 (.cells #[.iface 41 (.agg #[.iface 2 (.int .i64 x)])] 20))) (Nat.le_trans HB.out.size (below_alloc (Below.refl _ w3) (.cells #[.iface 41 (.agg #[.iface 2 (.int .i64 x)])] 20)).size) (by omega)
          have HB3 := Lib.hid ((below_alloc HB.out (.cells #[.iface 41 (.agg #[.iface 2 (.int .i64 x)])] 20)).grown hg3 (Nat.le_trans HB.out.size (below_alloc (Below.refl _ w3) (.cells #[.iface 41 (.agg #[.iface 2 (.int .i64 x)])] 20)).size) (fun q hq => (HO.out.block_ge q hq).1))
          have HO3 := Lib.hid ho3; clear ho3 hg3
          have ho1 := HO3.out.one_cell
          clear hm hoc hml
          go_wp2_with (first | refine wpl_build (v := .iface 41 (.agg #[.iface 2 (.int .i64 x)])) rfl 36 1 (.tmp 30) rfl (by rfl) (BV.out _) ?_ | (at_builtin; refine wpl_app rfl (.tmp 29) (.tmp 31) 36 rfl rfl rfl hr3 ?_)| fail)
          go_roundw
          case rel => exact ⟨b.extract n b.size, out ++ [(.i64 x, true)], k, by first | rfl | (congr 1), HKK.out, HBZ.out, HZ2, HF, HO3, HB3⟩
          case measure => exact HZN.out
        | u64 x =>
          have e1 : itV (.u64 x) true = .iface 41 (.agg #[.iface 22 (.int .u64 (x : Int))]) := rfl
          have HV := Lib.hid (itV_one (.u64 x) true)
          have BD := Lib.hid (down_built (.u64 x))
          have RI := Lib.hid (fun (W : World) (g : Nat) (h : W.heap[g]? = some (.cells #[itV (.u64 x) true] 20 (0, 0))) => row_item (.u64 x, true) h)
          have BV := Lib.hid (build_item (.u64 x) true)
          rw [e1] at RI BV HV
          rw [show (PIt.val (.u64 x)) = .iface 22 (.int .u64 (x : Int)) from rfl] at PL
          clear e1 BD
          go_wp2_with fail
          refine (TN.out _).mono ?_
          rintro e w2 ⟨rfl, hb⟩
          replace HB := Lib.hid (HB.out.trans (hb.mono HB.out.size))
          replace HO := Lib.hid (HO.out.below hb); clear hb
          go_wp2_with fail
          refine (PL.out _).mono ?_
          rintro e w3 ⟨rfl, hb⟩
          replace HB := Lib.hid (HB.out.trans (hb.mono HB.out.size))
          replace HO := Lib.hid (HO.out.below hb); clear hb
          obtain ⟨oA, oc, rfl, hoc⟩ := HO.out.slice_
          obtain ⟨m, hm⟩ : ∃ m, out.length = m := ⟨_, rfl⟩
          rw [hm] at hml hoc HO ⊢
          obtain ⟨v3, w4, hr3, ho3, hg3, -⟩ := run_app_rows (P := Tryd.prog) (W := w3.alloc (.cells #[.iface 41 (.agg #[.iface 22 (.int .u64 (x : Int))])] 20)) 36 36 Tryd.underlying36 info_any rfl (by decide) (by decide) itC_len itC_one (HO.out.below (below_alloc (Below.refl _ w3) (.cells #[.iface 41 (.agg #[.iface 22 (.int .u64 (x : Int))])] 20))) (c := 1) (RI.out _ _ (blk_new w3 (.cells #[.iface 41 (.agg #[.iface 22 (.int .u64 (x : Int))])] 20))) (Nat.le_trans HB.out.size (below_alloc (Below.refl _ w3) (.cells #[.iface 41 (.agg #[.iface 22 (.int .u64 (x : Int))])] 20)).size) (by omega)
          have HB3 := Lib.hid ((below_alloc HB.out (.cells #[.iface 41 (.agg #[.iface 22 (.int .u64 (x : Int))])] 20)).grown hg3 (Nat.le_trans HB.out.size (below_alloc (Below.refl _ w3) (.cells #[.iface 41 (.agg #[.iface 22 (.int .u64 (x : Int))])] 20)).size) (fun q hq => (HO.out.block_ge q hq).1))
          have HO3 := Lib.hid ho3; clear ho3 hg3
          have ho1 := HO3.out.one_cell
          clear hm hoc hml
          go_wp2_with (first | refine wpl_build (v := .iface 41 (.agg #[.iface 22 (.int .u64 (x : Int))])) rfl 36 1 (.tmp 30) rfl (by rfl) (BV.out _) ?_ | (at_builtin; refine wpl_app rfl (.tmp 29) (.tmp 31) 36 rfl rfl rfl hr3 ?_)| fail)
          go_roundw
          case rel => exact ⟨b.extract n b.size, out ++ [(.u64 x, true)], k, by first | rfl | (congr 1), HKK.out, HBZ.out, HZ2, HF, HO3, HB3⟩
          case measure => exact HZN.out
        | str x =>
          have e1 : itV (.str x) true = .iface 41 (.agg #[.iface 9 (.string x)]) := rfl
          have HV := Lib.hid (itV_one (.str x) true)
          have BD := Lib.hid (down_built (.str x))
          have RI := Lib.hid (fun (W : World) (g : Nat) (h : W.heap[g]? = some (.cells #[itV (.str x) true] 20 (0, 0))) => row_item (.str x, true) h)
          have BV := Lib.hid (build_item (.str x) true)
          rw [e1] at RI BV HV
          rw [show (PIt.val (.str x)) = .iface 9 (.string x) from rfl] at PL
          clear e1 BD
          go_wp2_with fail
          refine (TN.out _).mono ?_
          rintro e w2 ⟨rfl, hb⟩
          replace HB := Lib.hid (HB.out.trans (hb.mono HB.out.size))
          replace HO := Lib.hid (HO.out.below hb); clear hb
          go_wp2_with fail
          refine (PL.out _).mono ?_
          rintro e w3 ⟨rfl, hb⟩
          replace HB := Lib.hid (HB.out.trans (hb.mono HB.out.size))
          replace HO := Lib.hid (HO.out.below hb); clear hb
          obtain ⟨oA, oc, rfl, hoc⟩ := HO.out.slice_
          obtain ⟨m, hm⟩ : ∃ m, out.length = m := ⟨_, rfl⟩
          rw [hm] at hml hoc HO ⊢
          obtain ⟨v3, w4, hr3, ho3, hg3, -⟩ := run_app_rows (P := Tryd.prog) (W := w3.alloc (.cells #[.iface 41 (.agg #[.iface 9 (.string x)])] 20)) 36 36 Tryd.underlying36 info_any rfl (by decide) (by decide) itC_len itC_one (HO.out.below (below_alloc (Below.refl _ w3) (.cells #[.iface 41 (.agg #[.iface 9 (.string x)])] 20))) (c := 1) (RI.out _ _ (blk_new w3 (.cells #[.iface 41 (.agg #[.iface 9 (.string x)])] 20))) (Nat.le_trans HB.out.size (below_alloc (Below.refl _ w3) (.cells #[.iface 41 (.agg #[.iface 9 (.string x)])] 20)).size) (by omega)
          have HB3 := Lib.hid ((below_alloc HB.out (.cells #[.iface 41 (.agg #[.iface 9 (.string x)])] 20)).grown hg3 (Nat.le_trans HB.out.size (below_alloc (Below.refl _ w3) (.cells #[.iface 41 (.agg #[.iface 9 (.string x)])] 20)).size) (fun q hq => (HO.out.block_ge q hq).1))
          have HO3 := Lib.hid ho3; clear ho3 hg3
          have ho1 := HO3.out.one_cell
          clear hm hoc hml
          go_wp2_with (first | refine wpl_build (v := .iface 41 (.agg #[.iface 9 (.string x)])) rfl 36 1 (.tmp 30) rfl (by rfl) (BV.out _) ?_ | (at_builtin; refine wpl_app rfl (.tmp 29) (.tmp 31) 36 rfl rfl rfl hr3 ?_)| fail)
          go_roundw
          case rel => exact ⟨b.extract n b.size, out ++ [(.str x, true)], k, by first | rfl | (congr 1), HKK.out, HBZ.out, HZ2, HF, HO3, HB3⟩
          case measure => exact HZN.out
    · have y1 : decide (128 ≤ (c.toNat : Int)) = false := decide_eq_false (by omega)
      have y1n : decide (128 ≤ c.toNat) = false := decide_eq_false hh
      have y2 : decide ((c.toNat : Int) < 128) = true := decide_eq_true (by omega)
      have hhi : highL (bl b) = false := by rw [hcr]; exact decide_eq_false hh
      rw [hhi] at hst
      rw [hst] at HT
      clear hh hhi
      have HT2 := Lib.hid HT.out; clear hst HT
      have PL := Lib.hid (fun w => plain_any b w (by omega) (by exact hne))
      rw [show bl b = turnL false (bl b) from rfl] at PL
      clear hne
      cases hp : plainL (turnL false (bl b)) with
      | none =>
        rw [hp] at PL HT2
        have e1 : plainV none = .tuple #[.nilIface, .int .i64 0] := rfl
        rw [e1] at PL
        have HF := Lib.hid (show decL b0.size (bl b0) = none from HT2.out)
        clear hp HT2 hcr e1
        go_wp2_with fail
        refine (PL.out _).mono ?_
        rintro e w3 ⟨rfl, hb⟩
        replace HB := Lib.hid (HB.out.trans (hb.mono HB.out.size)); clear hb
        go_wp2
        first | go_ret2 | go_ret
        exact ⟨decV_none HF.out rfl, HB.out⟩
      | some pn =>
        obtain ⟨p, n⟩ := pn
        rw [hp] at PL HT2
        obtain ⟨hn1, hn2⟩ := plainL_len hp
        rw [turnL_len, bl_length] at hn2
        have e1 : plainV (some (p, n)) = .tuple #[p.val, .int .i64 (n : Int)] := rfl
        rw [e1] at PL
        have e2 : decL b0.size (bl b0) = ((decL k ((bl b).drop n)).map ((p, false) :: ·)).map (out ++ ·) := HT2.out
        have hzn := drop_size b n hn2
        have HF := Lib.hid (show decL b0.size (bl b0) = (decL k (bl (b.extract n b.size))).map ((out ++ [(p, false)]) ++ ·) by
          rw [e2, bl_drop, Option.map_map]
          congr 1
          funext x
          simp only [Function.comp, List.append_assoc, List.singleton_append])
        have q1 : ((n : Int) == 0) = false := by simp; omega
        have q2 : (n : Int) ≤ (b.size : Int) := by omega
        have HZN := Lib.hid (show (b.extract n b.size).size < b.size by omega)
        have HZ2 := Lib.hid (show (out ++ [(p, false)]).length + (b.extract n b.size).size ≤ 100000 by have := HZ.out; rw [List.length_append, List.length_singleton]; omega)
        have HKK := Lib.hid (show (b.extract n b.size).size ≤ k by omega)
        have HBZ := Lib.hid (show (b.extract n b.size).size ≤ 100000 by omega)
        have HV := Lib.hid (itV_one p false)
        have BD := Lib.hid (down_built p)
        have RI := Lib.hid (fun (W : World) (g : Nat) (h : W.heap[g]? = some (.cells #[itV p false] 20 (0, 0))) => row_item (p, false) h)
        have BV := Lib.hid (build_item p false)
        clear BD e1 e2 hp HT2 hcr hzn HZ
        have hv1 : p.val = itV p false := rfl
        rw [hv1] at PL
        generalize itV p false = V at *
        go_wp2_with fail
        refine (PL.out _).mono ?_
        rintro e w3 ⟨rfl, hb⟩
        replace HB := Lib.hid (HB.out.trans (hb.mono HB.out.size))
        replace HO := Lib.hid (HO.out.below hb); clear hb
        obtain ⟨oA, oc, rfl, hoc⟩ := HO.out.slice_
        obtain ⟨m, hm⟩ : ∃ m, out.length = m := ⟨_, rfl⟩
        rw [hm] at hml hoc HO ⊢
        obtain ⟨v3, w4, hr3, ho3, hg3, -⟩ := run_app_rows (P := Tryd.prog) (W := w3.alloc (.cells #[V] 20)) 36 36 Tryd.underlying36 info_any rfl (by decide) (by decide) itC_len itC_one (HO.out.below (below_alloc (Below.refl _ w3) (.cells #[V] 20))) (c := 1) (RI.out _ _ (blk_new w3 (.cells #[V] 20))) (Nat.le_trans HB.out.size (below_alloc (Below.refl _ w3) (.cells #[V] 20)).size) (by omega)
        have HB3 := Lib.hid ((below_alloc HB.out (.cells #[V] 20)).grown hg3 (Nat.le_trans HB.out.size (below_alloc (Below.refl _ w3) (.cells #[V] 20)).size) (fun q hq => (HO.out.block_ge q hq).1))
        have HO3 := Lib.hid ho3; clear ho3 hg3
        have ho1 := HO3.out.one_cell
        clear hm hoc hml
        go_wp2_with (first | refine wpl_build (v := V) rfl 36 1 (.tmp 30) rfl (by rfl) (BV.out _) ?_ | (at_builtin; refine wpl_app rfl (.tmp 29) (.tmp 31) 36 rfl rfl rfl hr3 ?_) | fail)
        go_roundw
        case rel => exact ⟨b.extract n b.size, out ++ [(p, false)], k, by first | rfl | (congr 1), HKK.out, HBZ.out, HZ2, HF, HO3, HB3⟩
        case measure => exact HZN.out
end Go.Proofs.YtbbjnnbabikefaaDoor.My
