/- crc: the table, and sums by it. -/
import Derived.Test.YtoandabafkdgjaaKit
import Derived.Test.YtoandabafkdgjaaPm
namespace Go.Proofs.Ytoandabafkdgjaa.My
open Go.RowKit Go.Proofs.YtoandabafkdgjaaW.PrintWords Go.Proofs.YtoandabafkdgjaaW.PrintLast Go.Proofs.Ytoandabafkdgjaa.Pm

/-- One step of a number; so many. -/
def step (c : Nat) : Nat := (c / 2) ^^^ (if c % 2 = 1 then 2197175160 else 0)
def steps : Nat → Nat → Nat
  | 0, c => c
  | k + 1, c => steps k (step c)
theorem steps_succ (k c : Nat) : steps (k + 1) c = step (steps k c) := by
  induction k generalizing c with
  | zero => rfl
  | succ k ih => rw [steps, ih]; rfl
theorem step_lt {c : Nat} (h : c < 4294967296) : step c < 4294967296 := by
  unfold step
  have h1 : c / 2 < 2 ^ 32 := by omega
  have h2 : (if c % 2 = 1 then 2197175160 else 0) < 2 ^ 32 := by split <;> omega
  exact Nat.xor_lt_two_pow h1 h2
theorem steps_lt (k : Nat) {c : Nat} (h : c < 4294967296) : steps k c < 4294967296 := by
  induction k generalizing c with
  | zero => exact h
  | succ k ih => exact ih (step_lt h)
/-- The table, as far as it is made. -/
def tabTo (i : Nat) : Array Value := ((List.range 256).map fun j => Value.int .u32 (if j < i then (steps 8 j : Int) else 0)).toArray
theorem tabTo_size (i : Nat) : (tabTo i).size = 256 := by simp [tabTo]
theorem tabTo_set (i : Nat) : (tabTo i).setIfInBounds i (.int .u32 (steps 8 i)) = tabTo (i + 1) := by
  unfold tabTo
  rw [List.setIfInBounds_toArray]
  congr 1
  apply List.ext_getElem
  · simp
  · intro j h1 h2
    rw [List.getElem_set, List.getElem_map, List.getElem_map, List.getElem_range]
    by_cases e : i = j
    · subst e; simp
    · rw [if_neg e]
      by_cases hj : j < i
      · rw [if_pos hj, if_pos (by omega)]
      · rw [if_neg hj, if_neg (by omega)]
def tab : Array Value := tabTo 256
theorem tab_get (i : Nat) (h : i < 256) : tab[i]? = some (.int .u32 (steps 8 i)) := by
  unfold tab tabTo
  simp [h]
theorem tabTo_one (i : Nat) : (tabTo i).all (·.oneCell') = true := by
  unfold tabTo
  simp [Value.oneCell']
theorem zeroTable (w : World) : (zeroValue 53).run Try.prog w = .ok (.agg (tabTo 0)) w := by kernel_rfl

/-- What the walk makes of one step. -/
theorem step_and (c : Nat) (h : c < 4294967296) : Go.bits .and .u32 (c : Int) 1 = ((c % 2 : Nat) : Int) := by
  have := u32_and_nat c 1 h (by omega)
  rw [Nat.and_one_is_mod] at this
  exact this
theorem xor_ones' (w x : Nat) (h : x < 2 ^ w) : x &&& (2 ^ w - 1) = x := by rw [Nat.and_two_pow_sub_one_eq_mod, Nat.mod_eq_of_lt h]
theorem step_val (c : Nat) (h : c < 4294967296) : ∃ o m p : Int, Go.bits .and .u32 (c : Int) 1 = o ∧ IntKind.u32.wrap (-o) = m ∧ Go.bits .and .u32 2197175160 m = p ∧ Go.bits .xor .u32 ((c : Int) / 2) p = (step c : Int) := by
  refine ⟨((c % 2 : Nat) : Int), ((if c % 2 = 1 then 4294967295 else 0 : Nat) : Int), ((if c % 2 = 1 then 2197175160 else 0 : Nat) : Int), step_and c h, ?_, ?_, ?_⟩
  · rw [IntKind.wrap_u32]
    split <;> omega
  · split
    · have := u32_and_nat 2197175160 4294967295 (by omega) (by omega)
      rw [show (2197175160 : Nat) &&& 4294967295 = 2197175160 from by decide] at this
      exact this
    · have := u32_and_nat 2197175160 0 (by omega) (by omega)
      rw [show (2197175160 : Nat) &&& 0 = 0 from by decide] at this
      exact this
  · have := u32_xor_nat (c / 2) (if c % 2 = 1 then 2197175160 else 0) (by omega) (by split <;> omega)
    rw [show ((c : Int) / 2) = ((c / 2 : Nat) : Int) from by omega]
    exact this

set_option maxHeartbeats 2000000 in
set_option maxRecDepth 100000 in
theorem crc_make (w : World) : Calls Try.prog 23 #[] w fun e w' => e = .returned (.agg tab) ∧ Below w.heap.size w w' := by
  have hz := zeroTable
  have h0 := tabTo_size 0
  obtain ⟨T0, hT0⟩ : ∃ T0, tabTo 0 = T0 := ⟨_, rfl⟩
  rw [hT0] at h0
  simp only [hT0] at hz
  have HT := Lib.hid hT0; clear hT0
  have H0 := Lib.hid h0; clear h0
  go_enter Try.func23, Try.ntmps23
  go_wp2
  obtain ⟨g, hg⟩ : ∃ g, w.heap.size + 1 = g := ⟨_, rfl⟩
  rw [hg]
  have hgl : w.heap.size < g := by omega
  have b0 : ((w.alloc (.cells T0 53)).alloc (.cells T0 53)).heap[w.heap.size]? = some (.cells T0 53 (0, 0)) := blk_alloc (blk_new _ _) _
  have b1 : ((w.alloc (.cells T0 53)).alloc (.cells T0 53)).heap[g]? = some (.cells T0 53 (0, 0)) := by
    have := blk_new (w.alloc (.cells T0 53)) (.cells T0 53)
    rwa [show (w.alloc (.cells T0 53)).heap.size = g from by rw [← hg]; simp] at this
  have hB : Below w.heap.size w ((w.alloc (.cells T0 53)).alloc (.cells T0 53)) := below_alloc (below_alloc (Below.refl _ _) _) _
  have HG := Lib.hid hg; clear hg
  have B0 := Lib.hid b0; clear b0
  have B1 := Lib.hid b1; clear b1
  have HB := Lib.hid hB; clear hB
  go_loopw [5] (fun v5 wr => ∃ i : Nat, v5 = .int .i64 i ∧ i ≤ 256 ∧ wr.heap[g]? = some (.cells (tabTo i) 53 (0, 0)) ∧ wr.heap[w.heap.size]? = some (.cells T0 53 (0, 0)) ∧ Below w.heap.size w wr) (fun v5 _ => 256 - (intOf v5).toNat)
  case atStart => exact ⟨0, rfl, by omega, by rw [HT.out]; exact B1.out, B0.out, HB.out⟩
  case round =>
    obtain ⟨i, rfl, hi, b1, b0, hB⟩ := hrel
    clear B0 B1 HB
    have HB := Lib.hid hB; clear hB
    by_cases hlt : i < 256
    · have hc : wr.cell? ⟨g, i, none⟩ = some (.int .u32 0) := by
        rw [blk_cell b1]
        unfold tabTo
        simp [hlt]
      have hf : wr.frozen? ⟨g, i, none⟩ = false := blk_frozen b1 i
      have hiw : IntKind.u32.wrap (i : Int) = (i : Int) := IntWalk.u32_in _ (by omega)
      have B0 := Lib.hid b0; clear b0
      have B1 := Lib.hid b1; clear b1
      go_wp2
      go_loop [3, 10] (fun v3 v10 => ∃ k : Nat, v10 = .int .i64 k ∧ k ≤ 8 ∧ v3 = .int .u32 (steps k i)) (fun _ v10 => 8 - (intOf v10).toNat)
      case atStart => exact ⟨0, rfl, by omega, rfl⟩
      case round =>
        obtain ⟨k, rfl, hk, rfl⟩ := hrel
        by_cases hk8 : k < 8
        · have hs := steps_lt k (show i < 4294967296 by omega)
          have hss := steps_succ k i
          obtain ⟨o, m, p, q1, q2, q3, q4⟩ := step_val _ hs
          rw [← hss] at q4
          have HS := Lib.hid hss; clear hss
          go_wp2
          go_round
          case rel => exact ⟨k + 1, by go_num, by omega, rfl⟩
          case measure => simp [intOf]; omega
        · obtain rfl : k = 8 := by omega
          go_wp2
          go_roundw
          case rel => exact ⟨i + 1, by go_num, by omega, by rw [← tabTo_set]; exact blk_set B1.out i _, blk_far B0.out (by simp; omega) _, HB.out.setCell (by simp; omega) _⟩
          case measure => simp [intOf]; omega
    · obtain rfl : i = 256 := by omega
      have hi1 : (Try.prog.info? 53).map (·.size) = some (tabTo 256).size := by rw [tabTo_size]; kernel_rfl
      have hone : (tabTo 256).all (·.oneCell') = true := tabTo_one 256
      have hsz : T0.size = (tabTo 256).size := by rw [H0.out, tabTo_size]
      have hb0 := setRow_heap wr w.heap.size T0 (tabTo 256) _ _ b0
      have HX := Lib.hid b1; clear b1
      have HY := Lib.hid b0; clear b0
      have HZ := Lib.hid hsz; clear hsz
      have HI := Lib.hid hi1; clear hi1
      have HO := Lib.hid hone; clear hone
      have HW := Lib.hid hb0; clear hb0
      have HT' : Hid (tabTo 256 = tab) := rfl
      generalize tabTo 256 = T1 at *
      go_wp2_with (first | refine wpList_load_row rfl 53 _ rfl g rfl 53 T1 (0, 0) _ HX.out Try.underlying53 rfl HI.out ?_ | refine wpList_store_row rfl 53 _ _ rfl w.heap.size T1 rfl rfl 53 T0 HY.out HI.out HZ.out HO.out ?_)
      exact bodyPost_ret (results_cell_row rfl _ _ w.heap.size _ _ _ _ rfl HW.out Try.underlying53 rfl HI.out) rfl ⟨by rw [HT'.out], below_setRow HB.out (Nat.le_refl _) _⟩
end Go.Proofs.Ytoandabafkdgjaa.My
