/- chain.Right. -/
import Derived.Test.YtcnehponkgofiaaChainAt
namespace Go.Proofs.Ytcnehponkgofiaa.My
set_option linter.unusedSimpArgs false
set_option linter.unusedVariables false
open Go.RowKit Go.Proofs.YtcnehponkgofiaaW.PrintWords Go.Proofs.YtcnehponkgofiaaW.PrintLast Go.Proofs.Ytcnehponkgofiaa.Pm

set_option maxRecDepth 100000 in
set_option maxHeartbeats 4000000 in
theorem right_any (A : Option Addr) (len cap : Nat) (ps : List VerT) (w : World) (hA : ArgVers w A len ps) (hlen : len ≤ 140737488351232) :
    Calls Try.prog 33 #[.slice A len cap] w fun e w' => ∃ b : Bool, e = .returned (.bool b) ∧ (b = true ↔ rightV ps) ∧ Below w.heap.size w w' := by
  have HA := Lib.hid hA; clear hA
  have HB := Lib.hid (Below.refl w.heap.size w)
  go_enter Try.func33, Try.ntmps33
  go_wp2
  go_loopw [3, 8] (fun v3 v8 wr => ∃ i last : Nat, v8 = .int .i64 i ∧ v3 = .int .u64 last ∧ i ≤ len ∧ Hid (∀ j (h : j < ps.length), j < i → ps[j].1 ≠ 0 ∧ (∀ h0 : 0 < j, ps[j - 1].1 < ps[j].1) ∧ (ps[j].2.1 = true → ps[j].2.2.size = 0)) ∧ Hid ((i = 0 → last = 0) ∧ ∀ h : i - 1 < ps.length, 0 < i → last = ps[i - 1].1) ∧ Below w.heap.size w wr) (fun _ v8 _ => len - (intOf v8).toNat)
  case atStart => exact ⟨0, 0, rfl, rfl, by omega, Lib.hid (fun j _ h => absurd h (by omega)), Lib.hid ⟨fun _ => rfl, fun _ h => absurd h (by omega)⟩, HB.out⟩
  case round =>
    clear HB
    obtain ⟨i, last, rfl, rfl, hi, HS, HL, hb⟩ := hrel
    have HB := Lib.hid hb; clear hb
    have HR := Lib.hid (HA.out.below HB.out)
    by_cases hlt : i < len
    · obtain ⟨b0, off, t, g, v, hj, rfl, hb0, hp, ht, hv, c0, c1, c2⟩ := HR.out.get i hlt
      have HP := Lib.hid hp; clear hp hv
      have hdn := str_none v
      have HLT : Hid (t ≤ last → ¬ rightV ps) := Lib.hid (fun hle h => by
        have h1 := h.1 i hj
        rw [HP.out] at h1
        simp only at h1
        by_cases hi0 : 0 < i
        · have h2 := h1.2.1 hi0
          rw [← HL.out.2 (by omega) hi0] at h2
          omega
        · have := HL.out.1 (by omega)
          omega)
      have HLU : Hid (¬ t ≤ last → t ≠ 0 ∧ ∀ h0 : 0 < i, ps[i - 1].1 < t) := Lib.hid (fun hle => ⟨by omega, fun h0 => by rw [← HL.out.2 (by omega) h0]; omega⟩)
      by_cases hle : t ≤ last
      · have x1 : decide ((t : Int) ≤ (last : Int)) = true := by simp; omega
        have HF := Lib.hid (HLT.out hle)
        go_wp2
        go_ret
        exact ⟨false, rfl, ⟨fun h => absurd h (by decide), fun h => absurd h HF.out⟩, below_alloc HB.out _⟩
      · have x1 : decide ((t : Int) ≤ (last : Int)) = false := by simp; omega
        have HU := Lib.hid (HLU.out hle)
        have hw := succ_wrap hlt hlen
        cases g with
        | false =>
          have HG := Lib.hid (show ∀ j (h : j < ps.length), j < i + 1 → ps[j].1 ≠ 0 ∧ (∀ h0 : 0 < j, ps[j - 1].1 < ps[j].1) ∧ (ps[j].2.1 = true → ps[j].2.2.size = 0) from fun j h hji => by
            by_cases e : j = i
            · subst e
              refine ⟨by rw [HP.out]; exact HU.out.1, fun h0 => by rw [HP.out]; exact HU.out.2 h0, by rw [HP.out]; exact fun h => absurd h (by simp)⟩
            · exact HS.out j h (by omega))
          clear HS
          go_wp2
          go_roundw
          case rel => exact ⟨i + 1, t, by go_num, rfl, hlt, HG, Lib.hid ⟨fun h => absurd h (by omega), fun h _ => by simp only [Nat.add_sub_cancel]; rw [HP.out]⟩, below_alloc HB.out _⟩
          case measure => simp [intOf]; omega
        | true =>
          by_cases hv0 : v.size = 0
          · rw [decide_eq_true hv0] at hdn
            have HV := Lib.hid hv0; clear hv0
            have HG := Lib.hid (show ∀ j (h : j < ps.length), j < i + 1 → ps[j].1 ≠ 0 ∧ (∀ h0 : 0 < j, ps[j - 1].1 < ps[j].1) ∧ (ps[j].2.1 = true → ps[j].2.2.size = 0) from fun j h hji => by
              by_cases e : j = i
              · subst e
                refine ⟨by rw [HP.out]; exact HU.out.1, fun h0 => by rw [HP.out]; exact HU.out.2 h0, by rw [HP.out]; exact fun _ => HV.out⟩
              · exact HS.out j h (by omega))
            clear HS
            go_wp2
            go_roundw
            case rel => exact ⟨i + 1, t, by go_num, rfl, hlt, HG, Lib.hid ⟨fun h => absurd h (by omega), fun h _ => by simp only [Nat.add_sub_cancel]; rw [HP.out]⟩, below_alloc HB.out _⟩
            case measure => simp [intOf]; omega
          · rw [decide_eq_false hv0] at hdn
            have HV := Lib.hid hv0; clear hv0
            have HF := Lib.hid (show ¬ rightV ps from fun h => HV.out (by have := (h.1 i hj).2.2; rw [HP.out] at this; exact this rfl))
            go_wp2
            go_ret
            exact ⟨false, rfl, ⟨fun h => absurd h (by decide), fun h => absurd h HF.out⟩, below_alloc HB.out _⟩
    · obtain rfl : i = len := by omega
      have HL := Lib.hid HA.out.1
      go_wp2
      go_ret
      refine ⟨_, rfl, ?_, HB.out⟩
      simp only [decide_eq_true_eq]
      exact ⟨fun h => ⟨fun j hj => HS.out j hj (by rw [← HL.out]; exact hj), by rw [HL.out]; omega⟩, fun h => by have := h.2; rw [HL.out] at this; omega⟩
end Go.Proofs.Ytcnehponkgofiaa.My
