/- crc: More, Begin, End, Sum. -/
import Derived.Test.YtoandabafkdgjaaCrc
namespace Go.Proofs.Ytoandabafkdgjaa.My
open Go.RowKit Go.Proofs.YtoandabafkdgjaaW.PrintWords Go.Proofs.YtoandabafkdgjaaW.PrintLast Go.Proofs.Ytoandabafkdgjaa.Pm

/-- The state behind one byte more, by the table; behind many. -/
def tabStep (s : Nat) (b : UInt8) : Nat := steps 8 ((s % 256) ^^^ b.toNat) ^^^ (s / 256)
def more (s : Nat) (l : List UInt8) : Nat := l.foldl tabStep s
theorem tabStep_lt {s : Nat} (b : UInt8) (h : s < 4294967296) : tabStep s b < 4294967296 := by
  have h1 : (s % 256) ^^^ b.toNat < 2 ^ 8 := Nat.xor_lt_two_pow (by omega) b.toNat_lt
  have h2 : steps 8 ((s % 256) ^^^ b.toNat) < 4294967296 := steps_lt 8 (by omega)
  exact Nat.xor_lt_two_pow (n := 32) h2 (by omega)
theorem more_lt {s : Nat} (l : List UInt8) (h : s < 4294967296) : more s l < 4294967296 := by
  unfold more
  induction l generalizing s with
  | nil => exact h
  | cons b l ih => exact ih (tabStep_lt b h)
theorem more_snoc (s : Nat) (l : List UInt8) (b : UInt8) : more s (l ++ [b]) = tabStep (more s l) b := by simp [more]

set_option maxHeartbeats 2000000 in
theorem crc_more (s : Nat) (b : ByteArray) (w : World) (hs : s < 4294967296) (hb : b.size ≤ 140737488355328) :
    Calls Try.prog 58 #[.agg tab, .int .u32 s, .string b] w fun e w' => e = .returned (.int .u32 (more s b.data.toList)) ∧ Below w.heap.size w w' := by
  have htab := tab_get
  have HTAB := Lib.hid htab; clear htab
  generalize tab = T at *
  go_enter Try.func58, Try.ntmps58
  go_wp2
  have bx := blk_new w (.cells T 53)
  have HX := Lib.hid bx; clear bx
  go_loop [1, 10] (fun v1 v10 => ∃ k : Nat, v10 = .int .i64 k ∧ k ≤ b.size ∧ v1 = .int .u32 (more s (b.data.toList.take k))) (fun _ v10 => b.size - (intOf v10).toNat)
  case atStart => exact ⟨0, rfl, by omega, rfl⟩
  case round =>
    obtain ⟨k, rfl, hk, rfl⟩ := hrel
    by_cases hlt : k < b.size
    · have hsn : more s (b.data.toList.take (k + 1)) = tabStep (more s (b.data.toList.take k)) (b[k]) := by
        rw [List.take_succ_eq_append_getElem (by simpa using hlt), more_snoc]
        rfl
      have hml := more_lt (b.data.toList.take k) hs
      generalize more s (b.data.toList.take k) = m at *
      generalize hc : b[k] = c at *
      have hcc : ∀ h : k < b.size, b[k]'h = c := fun _ => hc
      clear hc
      obtain ⟨x, hx⟩ : ∃ x, (m % 256) ^^^ c.toNat = x := ⟨_, rfl⟩
      have hx256 : x < 256 := by rw [← hx]; exact Nat.xor_lt_two_pow (n := 8) (by omega) c.toNat_lt
      have q1 := u8_xor_nat (m % 256) c.toNat (by omega) c.toNat_lt
      rw [hx] at q1
      rw [show ((m % 256 : Nat) : Int) = (m : Int) % 256 from by omega] at q1
      have hcell : (w.alloc (.cells T 53)).cell? ⟨w.heap.size, x, none⟩ = some (.int .u32 (steps 8 x)) := by
        rw [blk_cell HX.out, HTAB.out x hx256]
      have q2 := u32_xor_nat (steps 8 x) (m / 256) (steps_lt 8 (by omega)) (by omega)
      rw [show steps 8 x ^^^ m / 256 = more s (b.data.toList.take (k + 1)) from by rw [hsn, tabStep, hx], show ((m / 256 : Nat) : Int) = (m : Int) / 256 from by omega] at q2
      generalize steps 8 x = y at *
      generalize hm' : more s (b.data.toList.take (k + 1)) = m' at *
      have HM := Lib.hid hm'; clear hm'
      clear hx hsn
      go_wp2
      go_round
      case rel => exact ⟨k + 1, by go_num, by omega, by rw [HM.out]⟩
      case measure => simp [intOf]; omega
    · go_wp2
      go_ret
      rw [List.take_of_length_le (by simp; omega)]
      exact ⟨rfl, below_alloc (Below.refl _ _) _⟩

theorem crc_begin (w : World) : Calls Try.prog 59 #[] w fun e w' => e = .returned (.int .u32 4294967295) ∧ w = w' := by
  go_enter Try.func59, Try.ntmps59
  go_wp2
  go_ret
  exact ⟨rfl, rfl⟩
def ends (s : Nat) : Nat := 4294967295 - s
theorem xor_ones32 (x : Nat) (h : x < 4294967296) : Go.bits .xor .u32 (x : Int) 4294967295 = (ends x : Int) := by
  have := u32_xor_nat x 4294967295 h (by omega)
  have e : x ^^^ 4294967295 = 4294967295 - x := by
    have := congrArg BitVec.toNat (BitVec.xor_allOnes (x := BitVec.ofNat 32 x))
    rw [BitVec.toNat_xor, BitVec.toNat_not, BitVec.toNat_ofNat, BitVec.toNat_allOnes, Nat.mod_eq_of_lt h] at this
    exact this
  rw [e] at this
  exact this
theorem crc_end (s : Nat) (w : World) (h : s < 4294967296) : Calls Try.prog 57 #[.int .u32 s] w fun e w' => e = .returned (.int .u32 (ends s)) ∧ w = w' := by
  have hx := xor_ones32 s h
  generalize ends s = q at *
  go_enter Try.func57, Try.ntmps57
  go_wp2
  go_ret
  exact ⟨rfl, rfl⟩
/-- A text's sum. -/
def sumL (l : List UInt8) : Nat := ends (more 4294967295 l)
set_option maxRecDepth 100000 in
theorem crc_sum (b : ByteArray) (w : World) (hb : b.size ≤ 140737488355328) :
    Calls Try.prog 48 #[.agg tab, .string b] w fun e w' => e = .returned (.int .u32 (sumL b.data.toList)) ∧ Below w.heap.size w w' := by
  unfold sumL
  go_enter Try.func48, Try.ntmps48
  go_wp2
  have U := Lib.hid (fun w => crc_more 4294967295 b w (by omega) hb)
  have hx := blk_new w (.cells tab 53)
  have HX := Lib.hid hx; clear hx
  have hi1 : (Try.prog.info? 53).map (·.size) = some tab.size := by unfold tab; rw [tabTo_size]; kernel_rfl
  have HI := Lib.hid hi1; clear hi1
  generalize tab = T at *
  refine wp_region_still_tail 3 (by kernel_rfl) (by kernel_rfl) ?_
  simp only [List.take_succ_cons, List.take_zero, List.drop_succ_cons, List.drop_zero]
  refine still_row rfl 53 _ rfl w.heap.size rfl 53 T (0, 0) _ HX.out Try.underlying53 rfl HI.out ?_
  still_call ((crc_begin _).mono (fun _ _ h => ⟨h.1, h.2.symm⟩))
  still_step
  refine wpStill_nil ?_
  change wpList _ _ _ _ _ (World.drew _)
  have hB := below_drew (below_alloc (Below.refl w.heap.size w) (.cells T 53))
  generalize World.drew _ = w2 at *
  have HB := Lib.hid hB; clear hB
  have hm := more_lt b.data.toList (show 4294967295 < 4294967296 by omega)
  go_wp2_with fail
  refine (U.out _).mono ?_
  rintro e wq1 ⟨rfl, hb⟩
  have HB := Lib.hid (HB.out.trans (hb.mono HB.out.size)); clear hb
  go_wp2_with fail
  refine (crc_end _ _ hm).mono ?_
  rintro e wq2 ⟨rfl, rfl⟩
  go_wp2
  go_ret
  exact ⟨rfl, HB.out⟩
end Go.Proofs.Ytoandabafkdgjaa.My
