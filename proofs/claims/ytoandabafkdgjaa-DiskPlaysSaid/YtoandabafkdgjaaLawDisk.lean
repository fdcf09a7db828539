/- isoglosslaw07.full, awake. -/
import Derived.Test.YtoandabafkdgjaaDisk3
import Derived.Test.YtoandabafkdgjaaFill
namespace Go.Proofs.Ytoandabafkdgjaa.My
set_option linter.unusedSimpArgs false
set_option linter.unusedVariables false
open Go.RowKit Go.Proofs.YtoandabafkdgjaaW.PrintWords Go.Proofs.YtoandabafkdgjaaW.PrintLast Go.Proofs.Ytoandabafkdgjaa.Pm

/-- A sector of one byte. -/
def fullB (c : UInt8) : ByteArray := ⟨(List.replicate 64 c).toArray⟩
theorem fullB_size (c : UInt8) : (fullB c).size = 64 := by unfold fullB; exact List.size_toArray.trans List.length_replicate
theorem fullB_zero : fullB 0 = nought := rfl
set_option maxRecDepth 100000 in
set_option maxHeartbeats 4000000 in
theorem full_any (c : UInt8) (w : World) : Calls Try.prog 11 #[.int .u8 (c.toNat : Int)] w fun e w' => e = .returned (.string (fullB c)) ∧ Below w.heap.size w w' := by
  have HB := Lib.hid (Below.refl w.heap.size w)
  have hS : strOfNums (List.replicate 64 (c.toNat : Int)) = fullB c := by
    unfold strOfNums fullB
    rw [List.map_replicate]
    congr 2
    rw [show UInt8.ofNat (c.toNat : Int).toNat = c from by simp]
  generalize fullB c = S at *
  obtain ⟨n, hn⟩ : ∃ n : Int, (c.toNat : Int) = n := ⟨_, rfl⟩
  rw [hn] at hS ⊢
  have HS := Lib.hid hS; clear hS hn
  go_enter Try.func11, Try.ntmps11
  go_wp2_with ((with_reducible refine gate_dst (N := 5) rfl ?_); refine Kd.R_make (Kd.int .u8) _ 5 rfl (N := 5) rfl 30 _ _ rfl ((64 : Nat) : Int) rfl rfl Try.underlying30 (.int .u8 0) 1 info_u8 rfl (by decide) (by omega) 0 (ok := fun _ => True) (okp := fun _ => True) rfl (fun _ hk => hk) trivial (by omega) (by decide) HB.out HB.out.size ?_; intro v1 w1 hR hB hG hN; clear hG hN; have HR := Lib.hid hR; have HB1 := Lib.hid hB; clear hR hB; obtain ⟨g, cap, HRR, hg⟩ := make_form HR.out (by decide); obtain ⟨rfl, HR⟩ := HRR)
  have HR := Lib.hid (show Kd.R (Kd.int .u8) 5 w1 w.heap.size (fun _ => True) (.slice (some ⟨g, 0, none⟩) 64 cap) (fillI n 64 0) from HR.out)
  go_loopw [4] (fun v4 wr => ∃ i : Nat, v4 = .int .i64 i ∧ i ≤ 64 ∧ Hid (Kd.R (Kd.int .u8) 5 wr w.heap.size (fun _ => True) (.slice (some ⟨g, 0, none⟩) 64 cap) (fillI n 64 i)) ∧ Hid (Below w.heap.size w wr)) (fun v4 _ => 64 - (intOf v4).toNat)
  case atStart => exact ⟨0, rfl, Nat.zero_le _, HR, HB1⟩
  case round =>
    clear HR HB1 HB
    obtain ⟨i, rfl, hi, HR, HB⟩ := hrel
    by_cases hlt : i < 64
    · have hl := fillI_len n hi
      have HR' := Lib.hid (show Kd.R (Kd.int .u8) 5 wr w.heap.size (fun _ => True) (.slice (some ⟨g, 0, none⟩) (fillI n 64 i).length cap) (fillI n 64 i) from by rw [hl]; exact HR.out)
      obtain ⟨hx, hf⟩ := Kd.R_celln 0 HR'.out (i : Int) (by omega) (by omega)
      rw [Int.toNat_natCast] at hx hf
      have hw := succ_w hlt (show 64 ≤ 140737488351232 by decide)
      have x1 : decide ((i : Int) < 64) = true := by clear hw; simp; omega
      have HP := Lib.hid ((Kd.R_putg HR'.out (i : Int) n).1)
      rw [Int.toNat_natCast, fillI_set n hlt, hl] at HP
      have HL := Lib.hid hl; clear hl
      go_wp2
      go_roundw
      case rel => exact ⟨i + 1, by go_num, hlt, HP, Lib.hid (HB.out.setCell hg _)⟩
      case measure => first | exact up_w hlt hw | exact up_w2 hlt
    · obtain rfl : i = 64 := by omega
      have hcv := own_string (P := Try.prog) Try.underlying30 Try.underlying5 Try.underlying9 (Kd.own_of_R HR.out)
      rw [show fillI n 64 64 = List.replicate 64 n from by simp [fillI], HS.out] at hcv
      have x1 : decide (((64 : Nat) : Int) < 64) = false := by decide
      go_wp2
      go_ret
      exact ⟨rfl, HB.out⟩
theorem awake07 (w : World) : Calls Try.prog 9 #[] w fun e w' => e = .returned (.bool true) ∧ Below w.heap.size w w' := by
  have HB := Lib.hid (Below.refl w.heap.size w)
  go_enter Try.func9, Try.ntmps9
  go_wp2_with fail
  refine (dk_new 2 _).mono ?_
  rintro e w1 ⟨h, V, W, rfl, hk, hb⟩
  have HK := Lib.hid hk
  have HB := Lib.hid (HB.out.trans hb)
  clear hk hb
  go_wp2_with fail
  refine (dk_sectors HK.out).mono ?_
  rintro e wq ⟨rfl, rfl⟩
  rw [show ((newS 2).sure.length : Int) = 2 from by decide]
  go_wp2_with fail
  refine (full_any 5 _).mono ?_
  rintro e w2 ⟨rfl, hb⟩
  have HK := Lib.hid (HK.out.below hb)
  have HB := Lib.hid (HB.out.trans (hb.mono HB.out.size))
  clear hb
  go_wp2_with fail
  refine (dk_write HK.out (newS_ok 2) 1 (fullB 5) (by decide) (fullB_size 5) (by decide) HB.out.size).mono ?_
  rintro e w3 ⟨rfl, ⟨W', hk⟩, hb⟩
  have HK := Lib.hid hk
  have HB := Lib.hid (HB.out.trans hb)
  clear hk hb
  go_wp2_with fail
  refine (dk_waits HK.out).mono ?_
  rintro e wq ⟨rfl, rfl⟩
  rw [show ((writeS (newS 2) 1 (fullB 5)).waits.length : Int) = 1 from rfl]
  go_wp2
  go_ret
  exact ⟨rfl, HB.out⟩
end Go.Proofs.Ytoandabafkdgjaa.My
