/- api.Version: rows of versions that come in; isoglossref09.Few, Right, At. -/
import Derived.Test.YtcnehponkgofiaaRes
import Derived.Test.YtcnehponkgofiaaOpens
import Derived.Test.YtcnehponkgofiaaPm
namespace Go.Proofs.Ytcnehponkgofiaa.My
set_option linter.unusedSimpArgs false
set_option linter.unusedVariables false
open Go.RowKit Go.Proofs.YtcnehponkgofiaaW.PrintWords Go.Proofs.YtcnehponkgofiaaW.PrintLast Go.Proofs.Ytcnehponkgofiaa.Pm

abbrev VerT := Nat × Bool × ByteArray
/-- A slice of versions that came in. -/
def ArgVers (w : World) (A : Option Addr) (len : Nat) (ps : List VerT) : Prop :=
  ps.length = len ∧ (∀ p ∈ ps, p.1 < 18446744073709551616 ∧ p.2.2.size ≤ 140737488351232) ∧ (0 < len → ∃ b off, A = some ⟨b, off, none⟩ ∧ b < w.heap.size ∧
    ∀ j (h : j < ps.length), w.cell? ⟨b, off + j * 3, none⟩ = some (.int .u64 (ps[j].1 : Int)) ∧ w.cell? ⟨b, off + j * 3 + 1, none⟩ = some (.bool ps[j].2.1) ∧ w.cell? ⟨b, off + j * 3 + 2, none⟩ = some (.string ps[j].2.2))
theorem ArgVers.below {w w' : World} {A : Option Addr} {len : Nat} {ps : List VerT} (h : ArgVers w A len ps) (hb : Below w.heap.size w w') : ArgVers w' A len ps :=
  ⟨h.1, h.2.1, fun h0 => by
    obtain ⟨b, off, e, hlt, hc⟩ := h.2.2 h0
    refine ⟨b, off, e, Nat.lt_of_lt_of_le hlt hb.size, fun j hj => ?_⟩
    obtain ⟨h1, h2, h3⟩ := hc j hj
    exact ⟨(hb.cell (p := ⟨b, off + j * 3, none⟩) hlt).trans h1, (hb.cell (p := ⟨b, off + j * 3 + 1, none⟩) hlt).trans h2, (hb.cell (p := ⟨b, off + j * 3 + 2, none⟩) hlt).trans h3⟩⟩
theorem ArgVers.get {w : World} {A : Option Addr} {len : Nat} {ps : List VerT} (h : ArgVers w A len ps) (j : Nat) (hj : j < len) : ∃ b off t g v, ∃ hj' : j < ps.length, A = some ⟨b, off, none⟩ ∧ b < w.heap.size ∧ ps[j] = (t, g, v) ∧
    t < 18446744073709551616 ∧ v.size ≤ 140737488351232 ∧ w.cell? ⟨b, off + j * 3, none⟩ = some (.int .u64 (t : Int)) ∧ w.cell? ⟨b, off + j * 3 + 1, none⟩ = some (.bool g) ∧ w.cell? ⟨b, off + j * 3 + 2, none⟩ = some (.string v) := by
  obtain ⟨b, off, e, hlt, hc⟩ := h.2.2 (by omega)
  have hj' : j < ps.length := by rw [h.1]; exact hj
  obtain ⟨h1, h2, h3⟩ := hc j hj'
  have h4 := h.2.1 _ (List.getElem_mem hj')
  exact ⟨b, off, _, _, _, hj', e, hlt, rfl, h4.1, h4.2, h1, h2, h3⟩
/-- A few versions of a size that is looked at. -/
def fewV (ps : List VerT) (n : Nat) : Prop := (∀ j (h : j < ps.length), j < 500 → ps[j].2.2.size ≤ 500) ∧ ps.length ≤ n
/-- A chain. -/
def rightV (ps : List VerT) : Prop :=
  (∀ j (h : j < ps.length), ps[j].1 ≠ 0 ∧ (∀ h0 : 0 < j, ps[j - 1].1 < ps[j].1) ∧ (ps[j].2.1 = true → ps[j].2.2.size = 0)) ∧ ps.length ≤ 200

theorem str_loop (s : ByteArray) : ∀ (k i : Nat) (r : List UInt8), s.size - i = k → (ByteArray.toList.loop s i r).length = k + r.length := by
  intro k
  induction k with
  | zero => intro i r h; unfold ByteArray.toList.loop; rw [if_neg (by omega)]; simp
  | succ k ih => intro i r h; unfold ByteArray.toList.loop; rw [if_pos (by omega), ih (i + 1) _ (by omega)]; simp; omega
theorem str_none (s : ByteArray) : s.toList.isEmpty = decide (s.size = 0) := by
  have h := str_loop s s.size 0 [] rfl
  change s.toList.length = _ at h
  cases hl : s.toList with
  | nil => rw [hl] at h; simp at h; simp [← h]
  | cons a l => rw [hl] at h; simp at h; exact (decide_eq_false (by omega)).symm
theorem pred_wrap {i len : Nat} (h : 0 < i) (hi : i < len) (hl : len ≤ 140737488351232) : wrap64 ((i : Int) - 1) = ((i - 1 : Nat) : Int) := by
  rw [wrap64_id (by omega) (by omega)]
  omega
theorem succ_wrap {i len : Nat} (hi : i < len) (hl : len ≤ 140737488351232) : wrap64 ((i : Int) + 1) = ((i + 1 : Nat) : Int) := wrap64_id (by omega) (by omega)
set_option maxRecDepth 100000 in
set_option maxHeartbeats 2000000 in
theorem rfew_any (A : Option Addr) (len cap n : Nat) (ps : List VerT) (w : World) (hA : ArgVers w A len ps) (hlen : len ≤ 140737488351232) (hn : n ≤ 1000) :
    Calls Try.prog 38 #[.slice A len cap, .int .i64 n] w fun e w' => ∃ b : Bool, e = .returned (.bool b) ∧ (b = true ↔ fewV ps n) ∧ w' = w := by
  have HA := Lib.hid hA; clear hA
  go_enter Try.func38, Try.ntmps38
  go_wp2
  go_loopw [5] (fun v5 wr => ∃ i : Nat, v5 = .int .i64 i ∧ i ≤ len ∧ i ≤ 500 ∧ Hid (∀ j (h : j < ps.length), j < i → ps[j].2.2.size ≤ 500) ∧ wr = w) (fun v5 _ => len - (intOf v5).toNat)
  case atStart => exact ⟨0, rfl, by omega, by omega, Lib.hid (fun j _ h => absurd h (by omega)), rfl⟩
  case round =>
    obtain ⟨i, rfl, hi, hi5, HS, rfl⟩ := hrel
    by_cases hlt : i < len
    · by_cases h5 : i < 500
      · obtain ⟨b0, off, t, g, v, hj, rfl, hb0, hp, ht, hv, c0, c1, c2⟩ := HA.out.get i hlt
        have HP := Lib.hid hp; clear hp c0 c1
        by_cases hv5 : v.size ≤ 500
        · have x1 : decide (500 < (v.size : Int)) = false := by simp; omega
          have hx1 : ¬ 500 < v.size := by omega
          have hw : wrap64 ((i : Int) + 1) = ((i + 1 : Nat) : Int) := wrap64_id (by omega) (by omega)
          go_wp2
          go_roundw
          case rel => exact ⟨i + 1, by go_num, by omega, by omega, Lib.hid (fun j h hji => by
            by_cases e : j = i
            · subst e; rw [HP.out]; exact hv5
            · exact HS.out j h (by omega)), by first | rfl | trivial⟩
          case measure => simp [intOf]; omega
        · have x1 : decide (500 < (v.size : Int)) = true := by simp; omega
          have hx1 : 500 < v.size := by omega
          go_wp2
          go_ret
          exact ⟨false, rfl, by
            refine ⟨fun h => absurd h (by decide), fun h => ?_⟩
            have := h.1 i hj h5
            rw [HP.out] at this
            simp only at this
            omega, rfl⟩
      · obtain rfl : i = 500 := by omega
        go_wp2
        go_ret
        refine ⟨_, rfl, ?_, rfl⟩
        simp only [decide_eq_true_eq]
        exact ⟨fun h => ⟨fun j hj h5 => HS.out j hj h5, by rw [HA.out.1]; omega⟩, fun h => by have := h.2; rw [HA.out.1] at this; omega⟩
    · obtain rfl : i = len := by omega
      go_wp2
      go_ret
      refine ⟨_, rfl, ?_, rfl⟩
      simp only [decide_eq_true_eq]
      exact ⟨fun h => ⟨fun j hj h5 => HS.out j hj (by rw [← HA.out.1]; exact hj), by rw [HA.out.1]; omega⟩, fun h => by have := h.2; rw [HA.out.1] at this; omega⟩
set_option maxRecDepth 100000 in
set_option maxHeartbeats 4000000 in
theorem rright_any (A : Option Addr) (len cap : Nat) (ps : List VerT) (w : World) (hA : ArgVers w A len ps) (hlen : len ≤ 140737488351232) :
    Calls Try.prog 39 #[.slice A len cap] w fun e w' => ∃ b : Bool, e = .returned (.bool b) ∧ (b = true ↔ rightV ps) ∧ Below w.heap.size w w' := by
  have HA := Lib.hid hA; clear hA
  have HB := Lib.hid (Below.refl w.heap.size w)
  go_enter Try.func39, Try.ntmps39
  go_wp2
  go_loopw [3] (fun v3 wr => ∃ i : Nat, v3 = .int .i64 i ∧ i ≤ len ∧ Hid (∀ j (h : j < ps.length), j < i → ps[j].1 ≠ 0 ∧ (∀ h0 : 0 < j, ps[j - 1].1 < ps[j].1) ∧ (ps[j].2.1 = true → ps[j].2.2.size = 0)) ∧ Below w.heap.size w wr) (fun v3 _ => len - (intOf v3).toNat)
  case atStart => exact ⟨0, rfl, by omega, Lib.hid (fun j _ h => absurd h (by omega)), HB.out⟩
  case round =>
    clear HB
    obtain ⟨i, rfl, hi, HS, hb⟩ := hrel
    have HB := Lib.hid hb; clear hb
    have HR := Lib.hid (HA.out.below HB.out)
    by_cases hlt : i < len
    · obtain ⟨b0, off, t, g, v, hj, rfl, hb0, hp, ht, hv, c0, c1, c2⟩ := HR.out.get i hlt
      have HP := Lib.hid hp; clear hp hb0 hv
      have hdn := str_none v
      by_cases ht0 : t = 0
      · have x0 : ((t : Int) == 0) = true := by simp; omega
        have HF := Lib.hid (show ¬ rightV ps from fun h => (h.1 i hj).1 (by rw [HP.out]; exact ht0))
        clear ht0
        go_wp2
        go_quiet (fail)
        have HB := Lib.hid (pw_below_drewN HB.out nq)
        go_wp2
        go_ret
        exact ⟨false, rfl, ⟨fun h => absurd h (by decide), fun h => absurd h HF.out⟩, HB.out⟩
      have x0 : ((t : Int) == 0) = false := by simp; omega
      by_cases hi0 : 0 < i
      · skip
        have xi : decide (0 < (i : Int)) = true := by simp; omega
        obtain ⟨k, hk⟩ : ∃ k, i - 1 = k := ⟨_, rfl⟩
        have hpw := pred_wrap hi0 hlt hlen
        rw [hk] at hpw
        have hpw2 : IntKind.i64.wrap ((i : Int) - 1) = (k : Int) := (i64_w _).trans hpw
        have hkl : k < len := by omega
        obtain ⟨b1, off1, t1, g1, v1, hj1, e1, hb1, hp1, ht1, hv1, d0, d1, d2⟩ := HR.out.get k hkl
        cases e1
        have HK := Lib.hid (And.intro hk hp1); clear hk hp1 hb1 hv1 d1 d2 ht1
        by_cases hle : t ≤ t1
        · have x1 : decide ((t : Int) ≤ (t1 : Int)) = true := by simp; omega
          have HF := Lib.hid (show ¬ rightV ps from fun h => by
            have := (h.1 i hj).2.1 hi0
            rw [HP.out] at this
            simp only [HK.out.1] at this
            rw [HK.out.2] at this
            simp only at this
            omega)
          clear ht0
          go_wp2
          go_quiet (fail)
          have HB := Lib.hid (pw_below_drewN HB.out nq)
          go_wp2
          go_ret
          exact ⟨false, rfl, ⟨fun h => absurd h (by decide), fun h => absurd h HF.out⟩, HB.out⟩
        have x1 : decide ((t : Int) ≤ (t1 : Int)) = false := by simp; omega
        have HT := Lib.hid (show t1 < t by omega)
        have hnle := hle
        clear hle
        cases g with
        | false =>
          have hw := succ_wrap hlt hlen
          have HG := Lib.hid (show ∀ j (h : j < ps.length), j < i + 1 → ps[j].1 ≠ 0 ∧ (∀ h0 : 0 < j, ps[j - 1].1 < ps[j].1) ∧ (ps[j].2.1 = true → ps[j].2.2.size = 0) from fun j h hji => by
            by_cases e : j = i
            · subst e
              refine ⟨by rw [HP.out]; exact ht0, fun h0 => by rw [HP.out]; simp only [HK.out.1]; rw [HK.out.2]; exact HT.out, by rw [HP.out]; exact fun h => absurd h (by simp)⟩
            · exact HS.out j h (by omega))
          clear ht0 HS
          go_wp2
          go_quiet (fail)
          have HB := Lib.hid (pw_below_drewN HB.out nq)
          go_wp2
          go_roundw
          case rel => exact ⟨i + 1, by go_num, hlt, HG, HB.out⟩
          case measure => simp [intOf]; omega
        | true =>
          by_cases hv0 : v.size = 0
          · rw [decide_eq_true hv0] at hdn
            have HV := Lib.hid hv0; clear hv0
            have hw := succ_wrap hlt hlen
            have HG := Lib.hid (show ∀ j (h : j < ps.length), j < i + 1 → ps[j].1 ≠ 0 ∧ (∀ h0 : 0 < j, ps[j - 1].1 < ps[j].1) ∧ (ps[j].2.1 = true → ps[j].2.2.size = 0) from fun j h hji => by
              by_cases e : j = i
              · subst e
                refine ⟨by rw [HP.out]; exact ht0, fun h0 => by rw [HP.out]; simp only [HK.out.1]; rw [HK.out.2]; exact HT.out, by rw [HP.out]; exact fun _ => HV.out⟩
              · exact HS.out j h (by omega))
            clear ht0 HS
            go_wp2
            go_quiet (fail)
            have HB := Lib.hid (pw_below_drewN HB.out nq)
            go_wp2
            go_roundw
            case rel => exact ⟨i + 1, by go_num, hlt, HG, HB.out⟩
            case measure => simp [intOf]; omega
          · rw [decide_eq_false hv0] at hdn
            have HV := Lib.hid hv0; clear hv0
            have HF := Lib.hid (show ¬ rightV ps from fun h => HV.out (by have := (h.1 i hj).2.2; rw [HP.out] at this; exact this rfl))
            clear ht0
            go_wp2
            go_quiet (fail)
            have HB := Lib.hid (pw_below_drewN HB.out nq)
            go_wp2
            go_ret
            exact ⟨false, rfl, ⟨fun h => absurd h (by decide), fun h => absurd h HF.out⟩, HB.out⟩
      · skip
        have xi : decide (0 < (i : Int)) = false := by simp; omega
        cases g with
        | false =>
          have hw := succ_wrap hlt hlen
          have HG := Lib.hid (show ∀ j (h : j < ps.length), j < i + 1 → ps[j].1 ≠ 0 ∧ (∀ h0 : 0 < j, ps[j - 1].1 < ps[j].1) ∧ (ps[j].2.1 = true → ps[j].2.2.size = 0) from fun j h hji => by
            by_cases e : j = i
            · subst e
              refine ⟨by rw [HP.out]; exact ht0, fun h0 => absurd h0 hi0, by rw [HP.out]; exact fun h => absurd h (by simp)⟩
            · exact HS.out j h (by omega))
          clear ht0 HS
          go_wp2
          go_quiet (fail)
          have HB := Lib.hid (pw_below_drewN HB.out nq)
          go_wp2
          go_roundw
          case rel => exact ⟨i + 1, by go_num, hlt, HG, HB.out⟩
          case measure => simp [intOf]; omega
        | true =>
          by_cases hv0 : v.size = 0
          · rw [decide_eq_true hv0] at hdn
            have HV := Lib.hid hv0; clear hv0
            have hw := succ_wrap hlt hlen
            have HG := Lib.hid (show ∀ j (h : j < ps.length), j < i + 1 → ps[j].1 ≠ 0 ∧ (∀ h0 : 0 < j, ps[j - 1].1 < ps[j].1) ∧ (ps[j].2.1 = true → ps[j].2.2.size = 0) from fun j h hji => by
              by_cases e : j = i
              · subst e
                refine ⟨by rw [HP.out]; exact ht0, fun h0 => absurd h0 hi0, by rw [HP.out]; exact fun _ => HV.out⟩
              · exact HS.out j h (by omega))
            clear ht0 HS
            go_wp2
            go_quiet (fail)
            have HB := Lib.hid (pw_below_drewN HB.out nq)
            go_wp2
            go_roundw
            case rel => exact ⟨i + 1, by go_num, hlt, HG, HB.out⟩
            case measure => simp [intOf]; omega
          · rw [decide_eq_false hv0] at hdn
            have HV := Lib.hid hv0; clear hv0
            have HF := Lib.hid (show ¬ rightV ps from fun h => HV.out (by have := (h.1 i hj).2.2; rw [HP.out] at this; exact this rfl))
            clear ht0
            go_wp2
            go_quiet (fail)
            have HB := Lib.hid (pw_below_drewN HB.out nq)
            go_wp2
            go_ret
            exact ⟨false, rfl, ⟨fun h => absurd h (by decide), fun h => absurd h HF.out⟩, HB.out⟩
    · obtain rfl : i = len := by omega
      have HL := Lib.hid HA.out.1
      go_wp2
      go_ret
      refine ⟨_, rfl, ?_, HB.out⟩
      simp only [decide_eq_true_eq]
      exact ⟨fun h => ⟨fun j hj => HS.out j hj (by rw [← HL.out]; exact hj), by rw [HL.out]; omega⟩, fun h => by have := h.2; rw [HL.out] at this; omega⟩
end Go.Proofs.Ytcnehponkgofiaa.My
