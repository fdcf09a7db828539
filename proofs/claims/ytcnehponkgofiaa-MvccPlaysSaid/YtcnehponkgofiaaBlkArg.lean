/- block.Entry: rows of entries that come in; isoglossref10.Few, Right. -/
import Derived.Test.YtcnehponkgofiaaCmp
namespace Go.Proofs.Ytcnehponkgofiaa.My
set_option linter.unusedSimpArgs false
set_option linter.unusedVariables false
open Go.RowKit Go.Proofs.YtcnehponkgofiaaW.PrintWords Go.Proofs.YtcnehponkgofiaaW.PrintLast Go.Proofs.Ytcnehponkgofiaa.Pm

abbrev EntT := ByteArray × List VerT
def ArgEnts (w : World) (A : Option Addr) (len : Nat) (ps : List EntT) : Prop :=
  ps.length = len ∧ (∀ p ∈ ps, p.1.size ≤ 140737488351232) ∧ (0 < len → ∃ b off, A = some ⟨b, off, none⟩ ∧ b < w.heap.size ∧
    ∀ j (h : j < ps.length), ∃ A' len' cap', w.cell? ⟨b, off + j * 2, none⟩ = some (.string ps[j].1) ∧ w.cell? ⟨b, off + j * 2 + 1, none⟩ = some (.slice A' len' cap') ∧ len' ≤ 140737488351232 ∧ ArgVers w A' len' ps[j].2)
theorem ArgEnts.below {w w' : World} {A : Option Addr} {len : Nat} {ps : List EntT} (h : ArgEnts w A len ps) (hb : Below w.heap.size w w') : ArgEnts w' A len ps :=
  ⟨h.1, h.2.1, fun h0 => by
    obtain ⟨b, off, e, hlt, hc⟩ := h.2.2 h0
    refine ⟨b, off, e, Nat.lt_of_lt_of_le hlt hb.size, fun j hj => ?_⟩
    obtain ⟨A', l', c', h1, h2, h3, h4⟩ := hc j hj
    exact ⟨A', l', c', (hb.cell (p := ⟨b, off + j * 2, none⟩) hlt).trans h1, (hb.cell (p := ⟨b, off + j * 2 + 1, none⟩) hlt).trans h2, h3, h4.below hb⟩⟩
theorem ArgEnts.get {w : World} {A : Option Addr} {len : Nat} {ps : List EntT} (h : ArgEnts w A len ps) (j : Nat) (hj : j < len) : ∃ b off A' len' cap' key ch, ∃ hj' : j < ps.length, A = some ⟨b, off, none⟩ ∧ b < w.heap.size ∧ ps[j] = (key, ch) ∧ key.size ≤ 140737488351232 ∧
    w.cell? ⟨b, off + j * 2, none⟩ = some (.string key) ∧ w.cell? ⟨b, off + j * 2 + 1, none⟩ = some (.slice A' len' cap') ∧ len' ≤ 140737488351232 ∧ ArgVers w A' len' ch := by
  obtain ⟨b, off, e, hlt, hc⟩ := h.2.2 (by omega)
  have hj' : j < ps.length := by rw [h.1]; exact hj
  obtain ⟨A', l', c', h1, h2, h3, h4⟩ := hc j hj'
  exact ⟨b, off, A', l', c', _, _, hj', e, hlt, rfl, h.2.1 _ (List.getElem_mem hj'), h1, h2, h3, h4⟩
def keyLess (a b : ByteArray) : Prop := Op.bytesLess a.toList b.toList = true
def few10 (ps : List EntT) (n : Nat) : Prop := (∀ j (h : j < ps.length), j < 100 → ps[j].1.size ≤ 100 ∧ fewV ps[j].2 10) ∧ ps.length ≤ n
def right10 (ps : List EntT) : Prop := ∀ j (h : j < ps.length), ps[j].2.length ≠ 0 ∧ rightV ps[j].2 ∧ ∀ h0 : 0 < j, keyLess ps[j - 1].1 ps[j].1
set_option maxRecDepth 100000 in
set_option maxHeartbeats 4000000 in
theorem rfew10_any (A : Option Addr) (len cap n : Nat) (ps : List EntT) (w : World) (hA : ArgEnts w A len ps) (hlen : len ≤ 140737488351232) (hn : n ≤ 1000) :
    Calls Try.prog 22 #[.slice A len cap, .int .i64 n] w fun e w' => ∃ b : Bool, e = .returned (.bool b) ∧ (b = true ↔ few10 ps n) ∧ w' = w := by
  have HA := Lib.hid hA; clear hA
  go_enter Try.func22, Try.ntmps22
  go_wp2
  go_loopw [5] (fun v5 wr => ∃ i : Nat, v5 = .int .i64 i ∧ i ≤ len ∧ i ≤ 100 ∧ Hid (∀ j (h : j < ps.length), j < i → ps[j].1.size ≤ 100 ∧ fewV ps[j].2 10) ∧ wr = w) (fun v5 _ => len - (intOf v5).toNat)
  case atStart => exact ⟨0, rfl, by omega, by omega, Lib.hid (fun j _ h => absurd h (by omega)), rfl⟩
  case round =>
    obtain ⟨i, rfl, hi, hi5, HS, rfl⟩ := hrel
    by_cases hlt : i < len
    · by_cases h5 : i < 100
      · obtain ⟨b0, off, A', len', cap', key, ch, hj, rfl, hb0, hp, hk, c0, c1, hl', hv⟩ := HA.out.get i hlt
        have HP := Lib.hid hp; clear hp
        have HV := Lib.hid hv; clear hv
        have hw := succ_wrap hlt hlen
        by_cases hv5 : key.size ≤ 100
        · have x1 : decide (100 < (key.size : Int)) = false := by simp; omega
          have hx1 : ¬ 100 < key.size := by omega
          go_wp2_with fail
          refine (rfew_any A' len' cap' 10 ch _ HV.out hl' (by decide)).mono ?_
          rintro e w1 ⟨b, rfl, hf, rfl⟩
          have HF := Lib.hid hf; clear hf
          cases b with
          | true =>
            have HG := Lib.hid (show ∀ j (h : j < ps.length), j < i + 1 → ps[j].1.size ≤ 100 ∧ fewV ps[j].2 10 from fun j h hji => by
              by_cases e : j = i
              · subst e; rw [HP.out]; exact ⟨hv5, HF.out.1 rfl⟩
              · exact HS.out j h (by omega))
            have hi1 : i + 1 ≤ 100 := h5
            go_wp2
            go_roundw
            case rel => exact ⟨i + 1, by go_num, hlt, hi1, HG, by first | rfl | trivial⟩
            case measure => simp [intOf]; omega
          | false =>
            go_wp2
            go_ret
            exact ⟨false, rfl, ⟨fun h => absurd h (by decide), fun h => by
              have := h.1 i hj h5
              rw [HP.out] at this
              exact absurd (HF.out.2 this.2) (by decide)⟩, rfl⟩
        · have x1 : decide (100 < (key.size : Int)) = true := by simp; omega
          have hx1 : 100 < key.size := by omega
          go_wp2
          go_ret
          exact ⟨false, rfl, ⟨fun h => absurd h (by decide), fun h => by
            have := h.1 i hj h5
            rw [HP.out] at this
            exact absurd this.1 hv5⟩, rfl⟩
      · obtain rfl : i = 100 := by omega
        go_wp2
        go_ret
        refine ⟨_, rfl, ?_, rfl⟩
        simp only [decide_eq_true_eq]
        exact ⟨fun h => ⟨fun j hj h5 => HS.out j hj h5, by rw [HA.out.1]; omega⟩, fun h => by have := h.2; rw [HA.out.1] at this; omega⟩
    · obtain rfl : i = len := by omega
      go_wp2
      go_ret
      refine ⟨_, rfl, ?_, rfl⟩
      simp only [decide_eq_true_eq]
      exact ⟨fun h => ⟨fun j hj h5 => HS.out j hj (by rw [← HA.out.1]; exact hj), by rw [HA.out.1]; omega⟩, fun h => by have := h.2; rw [HA.out.1] at this; omega⟩
theorem rright_true {A : Option Addr} {len cap : Nat} {ps : List VerT} {w : World} (hA : ArgVers w A len ps) (hlen : len ≤ 140737488351232) (h : rightV ps) :
    Calls Try.prog 39 #[.slice A len cap] w fun e w' => e = .returned (.bool true) ∧ Below w.heap.size w w' :=
  (rright_any A len cap ps w hA hlen).mono fun e w' ⟨b, he, hb, hbl⟩ => ⟨by rw [he, hb.2 h], hbl⟩
theorem rright_false {A : Option Addr} {len cap : Nat} {ps : List VerT} {w : World} (hA : ArgVers w A len ps) (hlen : len ≤ 140737488351232) (h : ¬ rightV ps) :
    Calls Try.prog 39 #[.slice A len cap] w fun e w' => e = .returned (.bool false) ∧ Below w.heap.size w w' :=
  (rright_any A len cap ps w hA hlen).mono fun e w' ⟨b, he, hb, hbl⟩ => ⟨by
    cases b with
    | true => exact absurd (hb.1 rfl) h
    | false => exact he, hbl⟩
end Go.Proofs.Ytcnehponkgofiaa.My
