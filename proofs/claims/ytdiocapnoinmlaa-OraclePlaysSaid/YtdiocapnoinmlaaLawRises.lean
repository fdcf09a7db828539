/- The law OracleRises walked: over all lives no time comes twice. -/
import Derived.Test.YtdiocapnoinmlaaOra
namespace Go.Proofs.Ytdiocapnoinmlaa.My
set_option linter.unusedSimpArgs false
set_option linter.unusedVariables false
open Go.RowKit Go.Proofs.YtdiocapnoinmlaaW.PrintWords Go.Proofs.YtdiocapnoinmlaaW.PrintLast Go.Proofs.Ytdiocapnoinmlaa.Pm

theorem awake12 (w : World) : Calls Try.prog 10 #[] w fun e w' => e = .returned (.bool true) ∧ Below w.heap.size w w' := by
  have hw : wantO 7 7 = (107, true) := by decide
  have HW := Lib.hid hw; clear hw
  go_enter Try.func10, Try.ntmps10
  go_wp2_with fail
  refine (ora_new 7 _).mono ?_
  rintro e w1 ⟨g, rfl, hg, hi, hb⟩
  have HB := Lib.hid hb; clear hb
  have HI := Lib.hid hi; clear hi
  go_wp2_with fail
  refine (ora_want 7 7 g _ HI.out (by decide)).mono ?_
  rintro e w2 ⟨rfl, hb⟩
  have HB := Lib.hid (HB.out.trans (hb.mono HB.out.size)); clear hb
  rw [HW.out]
  go_wp2
  go_ret
  exact ⟨rfl, HB.out⟩

/-- A slice of bytes that came in. -/
def ArgBytes (w : World) (A : Option Addr) (len : Nat) (xs : List Nat) : Prop :=
  xs.length = len ∧ (∀ x ∈ xs, x < 256) ∧ (0 < len → ∃ b off, A = some ⟨b, off, none⟩ ∧ b < w.heap.size ∧ ∀ j, j < len → w.cell? ⟨b, off + j, none⟩ = some (.int .u8 ((xs.getD j 0 : Nat) : Int)))

theorem rises_big (A : Option Addr) (len cap : Nat) (w : World) (h : 20 < len) (hlen : len ≤ 140737488355328) :
    Calls Try.prog 3 #[.slice A len cap] w fun e w' => e = .returned (.bool true) ∧ Below w.heap.size w w' := by
  have b1 : decide (20 < (len : Int)) = true := by simp; omega
  have HB := Lib.hid (Below.refl w.heap.size w)
  go_enter Try.func3, Try.ntmps3
  go_wp2_with fail
  refine (awake12 _).mono ?_
  rintro e wq1 ⟨rfl, hb⟩
  have HB := Lib.hid (HB.out.trans (hb.mono HB.out.size)); clear hb
  go_wp2_with fail
  refine (awake12 _).mono ?_
  rintro e wq2 ⟨rfl, hb⟩
  have HB := Lib.hid (HB.out.trans (hb.mono HB.out.size)); clear hb
  go_wp2
  go_ret
  exact ⟨rfl, HB.out⟩

set_option maxHeartbeats 4000000 in
theorem rises (A : Option Addr) (len cap : Nat) (xs : List Nat) (w : World) (hA : ArgBytes w A len xs) (hlen : len ≤ 20) :
    Calls Try.prog 3 #[.slice A len cap] w fun e w' => e = .returned (.bool true) ∧ Below w.heap.size w w' := by
  have b1 : decide (20 < (len : Int)) = false := by simp; omega
  have HB := Lib.hid (Below.refl w.heap.size w)
  have HA := Lib.hid hA; clear hA
  go_enter Try.func3, Try.ntmps3
  go_wp2_with fail
  refine (awake12 _).mono ?_
  rintro e wq3 ⟨rfl, hb⟩
  have HB := Lib.hid (HB.out.trans (hb.mono HB.out.size)); clear hb
  go_wp2
  go_loopw [3, 4, 5] (fun v3 v4 v5 wr => ∃ i nt la : Nat, v5 = .int .i64 i ∧ i ≤ len ∧ v3 = .int .u64 nt ∧ v4 = .int .u64 la ∧ la ≤ nt ∧ nt ≤ 25500 * i ∧ Below w.heap.size w wr) (fun _ _ v5 _ => len - (intOf v5).toNat)
  case atStart => exact ⟨0, 0, 0, rfl, by omega, rfl, rfl, by omega, by omega, HB.out⟩
  case round =>
    obtain ⟨i, nt, la, rfl, hi, rfl, rfl, hla, hnt, hB⟩ := hrel
    clear HB
    have HB := Lib.hid hB; clear hB
    by_cases hlt : i < len
    · obtain ⟨b, off, rfl, hb, hcell⟩ := HA.out.2.2 (by omega)
      obtain ⟨x, hx⟩ : ∃ x, xs.getD i 0 = x := ⟨_, rfl⟩
      have hx256 : x < 256 := by
        rw [← hx, List.getD_eq_getElem?_getD, List.getElem?_eq_getElem (by rw [HA.out.1]; exact hlt)]
        exact HA.out.2.1 _ (List.getElem_mem _)
      have hc := hcell i hlt
      rw [hx] at hc
      have HC := Lib.hid hc; clear hc hx hcell
      go_wp2_with fail
      refine (ora_new nt _).mono ?_
      rintro e w1 ⟨g, rfl, hg, hi1, hb1⟩
      have hg : w.heap.size ≤ g := Nat.le_trans HB.out.size hg
      have HB := Lib.hid (HB.out.trans (hb1.mono HB.out.size)); clear hb1
      have HI := Lib.hid hi1; clear hi1
      go_wp2
      go_loopw [3, 4, 7] (fun v3 v4 v7 wr => ∃ k nt la ol : Nat, v7 = .int .i64 k ∧ k ≤ x ∧ v3 = .int .u64 nt ∧ v4 = .int .u64 la ∧ la ≤ ol ∧ ol ≤ nt ∧ nt ≤ 25500 * i + 100 * k ∧ IsOra wr g ol nt ∧ Below w.heap.size w wr) (fun _ _ v7 _ => x - (intOf v7).toNat)
      case atStart => exact ⟨0, nt, la, nt, rfl, by omega, rfl, rfl, hla, by omega, by omega, HI.out, HB.out⟩
      case round =>
        clear hla hnt HI HB
        obtain ⟨k, nt, la, ol, rfl, hk, rfl, rfl, hla, hol, hnt, hI, hB⟩ := hrel
        have HI := Lib.hid hI; clear hI
        have HB := Lib.hid hB; clear hB
        have hc : World.cell? _ ⟨b, off + i, none⟩ = some (.int .u8 (x : Int)) := (HB.out.cell (p := ⟨b, off + i, none⟩) hb).trans HC.out
        by_cases hkx : k < x
        · have htop : nt ≤ topU := by unfold topU; omega
          by_cases hon : ol < nt
          · have hw : wantO ol nt = (0, false) := by unfold wantO; rw [if_pos (.inl hon)]
            have hn : nextO ol nt = (ol + 1, true, ol + 1) := by unfold nextO; rw [if_neg (by omega)]
            obtain ⟨t, ht⟩ : ∃ t, ol + 1 = t := ⟨_, rfl⟩
            rw [ht] at hn
            have c1 : decide (t ≤ la) = false := by simp; omega
            have c2 : decide (nt < t) = false := by simp; omega
            have HW := Lib.hid hw; clear hw
            have HN := Lib.hid hn; clear hn
            go_wp2_with fail
            refine (ora_want ol nt g _ HI.out htop).mono ?_
            rintro e w2 ⟨rfl, hb⟩
            have HI := Lib.hid (HI.out.below hb)
            have HB := Lib.hid (HB.out.trans (hb.mono HB.out.size)); clear hb
            rw [HW.out]
            go_wp2_with fail
            refine (ora_next ol nt g _ HI.out htop).mono ?_
            rintro e w3 ⟨rfl, hi3, hk3⟩
            rw [HN.out] at hi3 ⊢
            have HB := Lib.hid (below_keeps HB.out hk3 HB.out.size (fun i hi => by cases hi; exact hg)); clear hk3
            have HI := Lib.hid hi3; clear hi3
            go_wp2
            go_roundw
            case rel => exact ⟨k + 1, nt, t, t, by go_num, by omega, rfl, rfl, by omega, by omega, by omega, HI.out, HB.out⟩
            case measure => simp [intOf]; omega
          · obtain rfl : ol = nt := by omega
            have hw : wantO ol ol = (ol + 100, true) := by unfold wantO topU; rw [if_neg (by omega), if_neg (by omega)]
            have hm : max ol (ol + 100) = ol + 100 := by omega
            have hn : nextO ol (ol + 100) = (ol + 1, true, ol + 1) := by unfold nextO; rw [if_neg (by omega)]
            obtain ⟨t, ht⟩ : ∃ t, ol + 1 = t := ⟨_, rfl⟩
            obtain ⟨m, hm'⟩ : ∃ m, ol + 100 = m := ⟨_, rfl⟩
            rw [ht] at hn
            rw [hm'] at hw hm hn
            have c1 : decide (t ≤ la) = false := by simp; omega
            have c2 : decide (m < t) = false := by simp; omega
            have hmtop : m ≤ topU := by unfold topU; omega
            have HW := Lib.hid hw; clear hw
            have HN := Lib.hid hn; clear hn
            have HM := Lib.hid hm; clear hm
            go_wp2_with fail
            refine (ora_want ol ol g _ HI.out htop).mono ?_
            rintro e w2 ⟨rfl, hb⟩
            have HI := Lib.hid (HI.out.below hb)
            have HB := Lib.hid (HB.out.trans (hb.mono HB.out.size)); clear hb
            rw [HW.out]
            go_wp2_with fail
            refine (ora_noted ol ol m g _ HI.out).mono ?_
            rintro e w3 ⟨rfl, hi3, hk3⟩
            rw [HM.out] at hi3
            have HB := Lib.hid (below_keeps HB.out hk3 HB.out.size (fun i hi => by cases hi; exact hg)); clear hk3
            have HI := Lib.hid hi3; clear hi3
            go_wp2_with fail
            refine (ora_next ol m g _ HI.out hmtop).mono ?_
            rintro e w4 ⟨rfl, hi3, hk3⟩
            rw [HN.out] at hi3 ⊢
            have HB := Lib.hid (below_keeps HB.out hk3 HB.out.size (fun i hi => by cases hi; exact hg)); clear hk3
            have HI := Lib.hid hi3; clear hi3
            go_wp2
            go_roundw
            case rel => exact ⟨k + 1, m, t, t, by go_num, by omega, rfl, rfl, by omega, by omega, by omega, HI.out, HB.out⟩
            case measure => simp [intOf]; omega
        · obtain rfl : k = x := by omega
          go_wp2
          go_roundw
          case rel => exact ⟨i + 1, nt, la, by go_num, by omega, rfl, rfl, by omega, by omega, HB.out⟩
          case measure => simp [intOf]; omega
    · go_wp2
      go_ret
      exact ⟨rfl, HB.out⟩
end Go.Proofs.Ytdiocapnoinmlaa.My
