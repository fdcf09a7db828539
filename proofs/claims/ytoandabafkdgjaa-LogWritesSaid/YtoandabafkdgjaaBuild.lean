/- strings.Builder: one text written, and told. -/
import Derived.Test.YtoandabafkdgjaaKit
import Derived.Test.YtoandabafkdgjaaRes
import Derived.Test.YtoandabafkdgjaaByt
import Derived.Test.YtoandabafkdgjaaPrim
import Derived.Test.YtoandabafkdgjaaCode
import Derived.Lib.UnsafeStr
import Derived.Lib.Builder
import Derived.RegionTactic
namespace Go.Proofs.Ytoandabafkdgjaa.My
set_option linter.unusedSimpArgs false
set_option linter.unusedVariables false
open Go.RowKit Go.Proofs.YtoandabafkdgjaaW.PrintWords Go.Proofs.YtoandabafkdgjaaW.PrintLast Go.Proofs.Ytoandabafkdgjaa.Pm
def IsBd (w : World) (b : Nat) (p : Option Addr) (v : Value) : Prop := w.heap[b]? = some (.cells #[.pointer p, v] 90 (0, 0))
theorem IsBd.c0 {w : World} {b : Nat} {p : Option Addr} {v : Value} (k : IsBd w b p v) : w.cell? ⟨b, 0, none⟩ = some (.pointer p) := (blk_cell k 0).trans rfl
theorem IsBd.c1 {w : World} {b : Nat} {p : Option Addr} {v : Value} (k : IsBd w b p v) : w.cell? ⟨b, 1, none⟩ = some v := (blk_cell k 1).trans rfl
theorem IsBd.f {w : World} {b : Nat} {p : Option Addr} {v : Value} (k : IsBd w b p v) (i : Nat) : w.frozen? ⟨b, i, none⟩ = false := blk_frozen k i
theorem IsBd.set0 {w : World} {b : Nat} {p : Option Addr} {v : Value} (k : IsBd w b p v) (q : Option Addr) : IsBd (w.setCell ⟨b, 0, none⟩ (.pointer q)) b q v := blk_set k 0 _
theorem IsBd.set1 {w : World} {b : Nat} {p : Option Addr} {v : Value} (k : IsBd w b p v) (u : Value) : IsBd (w.setCell ⟨b, 1, none⟩ u) b p u := blk_set k 1 _
set_option maxRecDepth 100000 in
set_option maxHeartbeats 4000000 in
theorem bd_check (w : World) (b base : Nat) (v : Value) (k : IsBd w b none v) (hb : base ≤ b) :
    Calls Try.prog 56 #[.pointer (some ⟨b, 0, none⟩)] w fun e w' => e = .returned (.tuple #[]) ∧ w' = w.setCell ⟨b, 0, none⟩ (.pointer (some ⟨b, 0, none⟩)) := by
  have c0 := k.c0
  have f0 := k.f 0
  have d0 := (k.set0 (some ⟨b, 0, none⟩)).c0
  obtain ⟨j, hj⟩ := Option.isSome_iff_exists.1 (show (Try.prog.info? 90).isSome = true by kernel_rfl)
  have hjs : j.size ≠ 0 := by
    have : (Try.prog.info? 90).map (·.size) = some 2 := by kernel_rfl
    rw [hj] at this
    simp at this
    omega
  have hsh : w.shape? b = some (90, 2) := by simp [World.shape?, show w.heap[b]? = _ from k]
  have q1 := Lib.run_to_unsafe (P := Try.prog) w ⟨b, 0, none⟩ Try.underlying88 Try.underlying114 hj hjs hsh (by simp)
  have q2 := Lib.run_from_unsafe (P := Try.prog) w ⟨b, 0, none⟩ Try.underlying114 Try.underlying88 hj hsh (by kernel_rfl)
  have q3 := Lib.run_neq_ptr_same (P := Try.prog) (w.setCell ⟨b, 0, none⟩ (.pointer (some ⟨b, 0, none⟩))) ⟨b, 0, none⟩ Try.underlying88 hj
  clear hsh hjs hj
  go_enter Try.func56, Try.ntmps56
  go_wp2
  rw [run_callFunc_extern Try.func65 (by kernel_rfl) (by kernel_rfl) (by kernel_rfl) (e := Extern.AbiNoEscape.same) (by kernel_rfl), Lib.run_noEscape]
  simp only [Result.andThen]
  rw [Oper.upon_value]
  go_wp2
  go_end0
  exact ⟨rfl, rfl⟩
set_option maxRecDepth 100000 in
set_option maxHeartbeats 4000000 in
theorem bd_write (w : World) (b base : Nat) (s : ByteArray) (k : IsBd w b none (.slice none 0 0)) (hb : base ≤ b) (hbw : base ≤ w.heap.size) (hs : s.size ≤ 140737488355328) :
    Calls Try.prog 45 #[.pointer (some ⟨b, 0, none⟩), .string s] w fun e w' => (∃ v, e = .returned v) ∧ ∃ v, IsBd w' b (some ⟨b, 0, none⟩) v ∧ Byt w' base v (bl s) ∧ Below base w w' := by
  have HK := Lib.hid k; clear k
  go_enter Try.func45, Try.ntmps45
  go_wp2_with fail
  refine (bd_check w b base _ HK.out hb).mono ?_
  rintro e w1 ⟨rfl, rfl⟩
  have HK := Lib.hid (HK.out.set0 (some ⟨b, 0, none⟩))
  have HB := Lib.hid (below_setc (p := ⟨b, 0, none⟩) (Below.refl base w) hb (.pointer (some ⟨b, 0, none⟩)))
  have hbs : base ≤ (w.setCell ⟨b, 0, none⟩ (.pointer (some ⟨b, 0, none⟩))).heap.size := Nat.le_trans hbw HB.out.size
  generalize w.setCell ⟨b, 0, none⟩ (.pointer (some ⟨b, 0, none⟩)) = w1 at *
  have c1 := HK.out.c1
  have HO := Lib.hid (Byt.none_ w1 base)
  go_wp2_with (at_builtin; refine app_str (w0 := w) base rfl (.tmp 12) (.tmp 13) (.slice none 0 0) [] s rfl rfl rfl HO.out HB.out hbs (by simpa using hs) ?_; intro v1 w3 HO1 HB1 HG1; have hx : IsBd w3 b (some ⟨b, 0, none⟩) (.slice none 0 0) := blk_grown HK.out HG1.out (by simp [Value.ownBlock]); have kc1 := hx.c1; have kf1 := hx.f 1; have HX := Lib.hid hx; clear hx; obtain ⟨A1, m1, c1, rfl⟩ := HO1.out.slice_)
  go_ret2
  exact ⟨⟨_, rfl⟩, _, HX.out.set1 _, HO1.out.set HX.out (by decide) 1 _, below_setc (p := ⟨b, 1, none⟩) HB1.out hb _⟩
set_option maxRecDepth 100000 in
set_option maxHeartbeats 4000000 in
theorem bd_string (w : World) (b base : Nat) (p : Option Addr) (v : Value) (l : List UInt8) (k : IsBd w b p v) (ho : Byt w base v l) (h0 : l ≠ []) (hl : l.length ≤ 100000) :
    Calls Try.prog 46 #[.pointer (some ⟨b, 0, none⟩)] w fun e w' => e = .returned (.string ⟨l.toArray⟩) ∧ Below base w w' := by
  have hp : 0 < l.length := by
    cases l with
    | nil => exact absurd rfl h0
    | cons a l => simp
  obtain ⟨g, cap, cur, rfl, hbg, hg, hnc, hcm, hcs, htake⟩ : ∃ g cap cur, v = .slice (some ⟨g, 0, none⟩) l.length cap ∧ base ≤ g ∧ w.heap[g]? = some (.cells cur 5 (0, 0)) ∧ l.length ≤ cap ∧ cap ≤ maxLen ∧ cur.size = cap * 1 ∧ cur.toList.take (l.length * 1) = nums .u8 (nb l) := by
    rcases ho.2 with ⟨_, hz⟩ | ⟨g, cap, cur, hv, r⟩
    · exact absurd hz (by omega)
    · exact ⟨g, cap, cur, hv, r⟩
  have c1 : w.drew.cell? ⟨b, 1, none⟩ = some (.slice (some ⟨g, 0, none⟩) l.length cap) := k.c1
  have hSD : (Builtin.unsafeSliceData_ #[30] 104 #[.slice (some ⟨g, 0, none⟩) l.length cap]).run Try.prog w.drew = .ok (.pointer (some ⟨g, 0, none⟩)) w.drew :=
    Lib.run_unsafeSliceData_row _ _ _ _ _ _ (by omega)
  have hUS : (Builtin.unsafeString_ #[104, 3] 9 #[.pointer (some ⟨g, 0, none⟩), .int .i64 l.length]).run Try.prog w.drew = .ok (.string ⟨l.toArray⟩) (w.drew.freeze ⟨g, 0, none⟩ l.length) := by
    refine Lib.run_unsafeString_row w.drew 104 3 9 5 Try.underlying104 (by kernel_rfl) g cur.size (by have hg' : w.drew.heap[g]? = some (.cells cur 5 (0, 0)) := hg; simp [World.shape?, hg']) l h0 (by omega) (by omega) ?_
    intro j x hx
    have hj := (List.getElem?_eq_some_iff.1 hx)
    obtain ⟨hj1, hj2⟩ := hj
    obtain ⟨g', cap', e, _, _, hcell⟩ := ho.form hp
    cases e
    have := hcell j hj1
    rw [hj2] at this
    rw [Go.WideShapes.add_plain, Nat.zero_add]
    exact this
  clear ho hcs htake hg
  go_enter Try.func46, Try.ntmps46
  go_wp2
  go_region
  all_goals (go_wp2; go_ret; exact ⟨rfl, Lib.below_freeze (Below.drew (Below.refl base w)) (p := ⟨g, 0, none⟩) hbg _⟩)
end Go.Proofs.Ytoandabafkdgjaa.My
