/- isoglossref11.Few, Same; isoglosslaw11.awake. -/
import Derived.Test.YtcnehponkgofiaaMvPast
namespace Go.Proofs.Ytcnehponkgofiaa.My
set_option linter.unusedSimpArgs false
set_option linter.unusedVariables false
open Go.RowKit Go.Proofs.YtcnehponkgofiaaW.PrintWords Go.Proofs.YtcnehponkgofiaaW.PrintLast Go.Proofs.Ytcnehponkgofiaa.Pm

/-- A version of a key. -/
abbrev ItT := ByteArray × VerT
def itC (p : ItT) : List Value := [.string p.1, .int .u64 (p.2.1 : Int), .bool p.2.2.1, .string p.2.2.2]
theorem itC_len (p : ItT) : (itC p).length = 4 := rfl
set_option maxRecDepth 100000 in
set_option maxHeartbeats 4000000 in
theorem few11_any (A : Option Addr) (len cap n : Nat) (l : List ItT) (w : World) (hA : RowF w 4 itC A len l) (hlen : len ≤ 140737488351232) (hn : n ≤ 1000) :
    Calls Try.prog 8 #[.slice A len cap, .int .i64 (n : Int)] w fun e w' => ∃ b : Bool, e = .returned (.bool b) ∧ (b = true → len ≤ n) ∧ w' = w := by
  have HA := Lib.hid hA; clear hA
  go_enter Try.func8, Try.ntmps8
  go_wp2
  go_loopw [5] (fun v wr => ∃ i : Nat, v = .int .i64 i ∧ i ≤ len ∧ i ≤ 500 ∧ wr = w) (fun v _ => len - (intOf v).toNat)
  case atStart => exact ⟨0, rfl, Nat.zero_le _, by decide, rfl⟩
  case round =>
    obtain ⟨i, rfl, hi, hi1, rfl⟩ := hrel
    by_cases hlt : i < len
    · by_cases h1 : i < 500
      · obtain ⟨bb, off, hj, rfl, hbW, hc⟩ := HA.out.get i hlt
        obtain ⟨⟨k, x0, x1, x2⟩, hx⟩ : ∃ x, l[i] = x := ⟨_, rfl⟩
        rw [hx] at hc
        have c0 : wr.cell? ⟨bb, off + i * 4, none⟩ = some (.string k) := hc 0 _ rfl
        have c3 : wr.cell? ⟨bb, off + i * 4 + 3, none⟩ = some (.string x2) := hc 3 _ rfl
        clear hc hbW hj hx
        have hw := next_wrap hlt hlen
        by_cases h2 : k.size ≤ 300
        · have y2 : decide (300 < (k.size : Int)) = false := by simp; omega
          have y2n : decide (300 < k.size) = false := by simp; omega
          by_cases h3 : x2.size ≤ 700
          · have y3 : decide (700 < (x2.size : Int)) = false := by simp; omega
            have y3n : decide (700 < x2.size) = false := by simp; omega
            go_wp2
            go_roundw
            case rel => exact ⟨i + 1, by go_num, hlt, h1, by first | rfl | trivial⟩
            case measure => simp [intOf]; omega
          · have y3 : decide (700 < (x2.size : Int)) = true := by simp; omega
            have y3n : decide (700 < x2.size) = true := by simp; omega
            go_wp2
            go_ret
            exact ⟨false, rfl, (fun h => by cases h), rfl⟩
        · have y2 : decide (300 < (k.size : Int)) = true := by simp; omega
          have y2n : decide (300 < k.size) = true := by simp; omega
          go_wp2
          go_ret
          exact ⟨false, rfl, (fun h => by cases h), rfl⟩
      · obtain rfl : i = 500 := by omega
        go_wp2
        go_ret
        exact ⟨_, rfl, (fun h => by simp at h; omega), rfl⟩
    · obtain rfl : i = len := by omega
      go_wp2
      go_ret
      exact ⟨_, rfl, (fun h => by simp at h; omega), rfl⟩
set_option maxRecDepth 100000 in
set_option maxHeartbeats 4000000 in
theorem same11_true (A B : Option Addr) (c d : Nat) (l : List WrT) (w : World) (hA : RowF w 3 wrC A l.length l) (hB : RowF w 3 wrC B l.length l) (hlen : l.length ≤ 140737488351232) :
    Calls Try.prog 13 #[.slice A l.length c, .slice B l.length d] w fun e w' => e = .returned (.bool true) ∧ Below w.heap.size w w' := by
  have HA := Lib.hid hA; clear hA
  have HBR := Lib.hid hB; clear hB
  have HB := Lib.hid (Below.refl w.heap.size w)
  obtain ⟨n, hn⟩ : ∃ n, l.length = n := ⟨_, rfl⟩
  rw [hn] at HA HBR hlen ⊢
  go_enter Try.func13, Try.ntmps13
  go_wp2
  go_loopw [5] (fun v wr => ∃ i : Nat, v = .int .i64 i ∧ i ≤ n ∧ Below w.heap.size w wr) (fun v _ => n - (intOf v).toNat)
  case atStart => exact ⟨0, rfl, Nat.zero_le _, HB.out⟩
  case round =>
    clear HB
    obtain ⟨i, rfl, hi, hb⟩ := hrel
    have HB := Lib.hid hb; clear hb
    by_cases hlt : i < n
    · obtain ⟨b1, o1, hj, rfl, hb1, hc1⟩ := HA.out.get i hlt
      obtain ⟨b2, o2, hj2, rfl, hb2, hc2⟩ := HBR.out.get i hlt
      replace hc1 := range_below hc1 HB.out hb1
      replace hc2 := range_below hc2 HB.out hb2
      obtain ⟨⟨x0, x1, x2⟩, hx⟩ : ∃ x, l[i] = x := ⟨_, rfl⟩
      rw [hx] at hc1 hc2
      have c0 : wr.cell? ⟨b1, o1 + i * 3, none⟩ = some (.string x0) := hc1 0 _ rfl
      have c1 : wr.cell? ⟨b1, o1 + i * 3 + 1, none⟩ = some (.bool x1) := hc1 1 _ rfl
      have c2 : wr.cell? ⟨b1, o1 + i * 3 + 2, none⟩ = some (.string x2) := hc1 2 _ rfl
      have d0 : wr.cell? ⟨b2, o2 + i * 3, none⟩ = some (.string x0) := hc2 0 _ rfl
      have d1 : wr.cell? ⟨b2, o2 + i * 3 + 1, none⟩ = some (.bool x1) := hc2 1 _ rfl
      have d2 : wr.cell? ⟨b2, o2 + i * 3 + 2, none⟩ = some (.string x2) := hc2 2 _ rfl
      clear hc1 hc2 hb1 hb2 hx
      have hw := next_wrap hlt hlen
      go_wp2
      go_quiet (fail)
      have HB := Lib.hid (pw_below_drewN HB.out nq)
      go_wp2
      go_roundw
      case rel => exact ⟨i + 1, by go_num, hlt, HB.out⟩
      case measure => simp [intOf]; omega
    · obtain rfl : i = n := by omega
      go_wp2
      go_ret
      exact ⟨rfl, HB.out⟩
theorem woke_ch {es' : List EntP} {x : VerT} {key : ByteArray} (h : InstIs [] es' key x) : chS es' key = [x] := by
  rw [chS_pr]
  rcases h with ⟨i, hi, _⟩ | ⟨i, hi, _, e⟩
  · simp at hi
  · rw [e]
    obtain rfl : i = 0 := by simpa using hi
    simp [chP]
set_option maxRecDepth 100000 in
set_option maxHeartbeats 4000000 in
theorem awake11 (w : World) : Calls Try.prog 7 #[] w fun e w' => e = .returned (.bool true) ∧ Below w.heap.size w w' := by
  go_enter Try.func7, Try.ntmps7
  go_wp2_with fail
  refine (new_any w w.heap.size (Nat.le_refl _)).mono ?_
  rintro e w1 ⟨rfl, hm, hb⟩
  have HB := Lib.hid hb; clear hb
  have HQ := Lib.hid (install_any w.heap.size w.heap.size _ _ ⟨#[107]⟩ (5, false, ⟨#[]⟩) w1 hm (by decide) (by decide) (by decide) (by decide))
  have herr : errS [] ⟨#[107]⟩ (5, false, ⟨#[]⟩) = 0 := by
    unfold errS
    rw [if_neg (by decide), if_neg (by decide), if_neg (by decide), if_neg (by decide)]
  rw [herr] at HQ
  clear hm herr
  go_wp2_with fail
  refine HQ.out.mono ?_
  rintro e w2 ⟨rfl, hk, v', es', hm, -, -, hi⟩
  have hb := hk.to_below HB.out.size (fun j hj => by rcases hj with rfl | hj; exact Nat.le_refl _; cases hj)
  have hch := woke_ch (hi (by first | rfl | trivial))
  replace HB := Lib.hid (HB.out.trans hb)
  have HL := Lib.hid (last_any w.heap.size w.heap.size v' es' ⟨#[107]⟩ w2 hm)
  rw [hch] at HL
  clear hi hb hm hch hk
  go_wp2_with fail
  refine HL.out.mono ?_
  rintro e w3 ⟨rfl, hb⟩
  replace HB := Lib.hid (HB.out.trans (hb.mono HB.out.size)); clear hb
  go_wp2
  go_ret
  exact ⟨rfl, HB.out⟩
end Go.Proofs.Ytcnehponkgofiaa.My
