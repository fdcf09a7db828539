/- block.Find with slices.BinarySearchFunc. -/
import Derived.Test.YtcnehponkgofiaaBlkArg
namespace Go.Proofs.Ytcnehponkgofiaa.My
set_option linter.unusedSimpArgs false
set_option linter.unusedVariables false
open Go.RowKit Go.Proofs.YtcnehponkgofiaaW.PrintWords Go.Proofs.YtcnehponkgofiaaW.PrintLast Go.Proofs.Ytcnehponkgofiaa.Pm

theorem cmp_key (a b : ByteArray) : (Lib.compareBytes a.data.toList b.data.toList < 0 ↔ keyLess a b) ∧ (Lib.compareBytes a.data.toList b.data.toList = 0 ↔ a = b) := by
  refine ⟨?_, ?_⟩
  · unfold keyLess
    rw [Lib.toList_data, Lib.toList_data]
    exact cmp_less _ _
  · rw [cmp_zero]
    exact ⟨fun h => Go.WideShapes.bytes_inj h, fun h => by rw [h]⟩
set_option maxRecDepth 100000 in
theorem entry_cmp (k key : ByteArray) (v : Value) (hv : v.oneCell' = true) (w : World) :
    Calls Try.prog 50 #[.agg #[.string k, v], .string key] w fun e w' => e = .returned (.int .i64 (Lib.compareBytes k.data.toList key.data.toList)) ∧ Below w.heap.size w w' := by
  go_enter Try.func50, Try.ntmps50
  go_wp2_with fail
  refine (compare_any _ _ _).mono ?_
  rintro e w1 ⟨rfl, rfl⟩
  go_wp2
  go_ret
  exact ⟨rfl, below_alloc (Below.refl _ _) _⟩
set_option maxRecDepth 100000 in
set_option maxHeartbeats 4000000 in
theorem bsearch_any (A : Option Addr) (len cap : Nat) (key : ByteArray) (ps : List EntT) (w : World) (hA : ArgEnts w A len ps) (hlen : len ≤ 140737488351232)
    (hm : ∀ a b (ha : a < ps.length) (hb : b < ps.length), a ≤ b → keyLess ps[b].1 key → keyLess ps[a].1 key) :
    Calls Try.prog 49 #[.slice A len cap, .string key, .func (.func 50) #[] #[]] w fun e w' => ∃ c : Nat, ∃ ok : Bool, e = .returned (.tuple #[.int .i64 c, .bool ok]) ∧ c ≤ len ∧
      (∀ t (h : t < ps.length), t < c → keyLess ps[t].1 key) ∧ (∀ t (h : t < ps.length), c ≤ t → ¬ keyLess ps[t].1 key) ∧ (ok = true ↔ ∃ h : c < ps.length, ps[c].1 = key) ∧ Below w.heap.size w w' := by
  have HA := Lib.hid hA; clear hA
  have HM := Lib.hid hm; clear hm
  have HB := Lib.hid (Below.refl w.heap.size w)
  go_enter Try.func49, Try.ntmps49
  go_wp2
  go_loopw [9, 10] (fun v5 v6 wr => ∃ lo hi : Nat, v5 = .int .i64 lo ∧ v6 = .int .i64 hi ∧ lo ≤ hi ∧ hi ≤ len ∧ Hid ((∀ t (h : t < ps.length), t < lo → keyLess ps[t].1 key) ∧ (∀ t (h : t < ps.length), hi ≤ t → ¬ keyLess ps[t].1 key)) ∧ Below w.heap.size w wr) (fun v5 v6 _ => (intOf v6).toNat - (intOf v5).toNat)
  case atStart => exact ⟨0, len, rfl, rfl, by omega, by omega, Lib.hid ⟨fun t _ h => absurd h (by omega), fun t h1 h2 => absurd h1 (by rw [HA.out.1]; omega)⟩, HB.out⟩
  case round =>
    clear HB
    obtain ⟨lo, hi, rfl, rfl, hlh, hhn, HS, hb⟩ := hrel
    have HB := Lib.hid hb; clear hb
    by_cases hlt : lo < hi
    · obtain ⟨m, hmm⟩ : ∃ m, (lo + hi) / 2 = m := ⟨_, rfl⟩
      have hml : lo ≤ m := by omega
      have hmh : m < hi := by omega
      have hmn : m < len := by omega
      have e1 : wrap64 ((lo : Int) + (hi : Int)) = ((lo + hi : Nat) : Int) := wrap64_id (by omega) (by omega)
      have e2 : IntKind.u64.wrap ((lo : Int) + (hi : Int)) = (lo : Int) + (hi : Int) := IntWalk.u64_in _ (by omega)
      have e3 : ((lo : Int) + (hi : Int)) / 2 = (m : Int) := by clear e1 e2; omega
      have e4 : wrap64 (m : Int) = (m : Int) := wrap64_id (by clear e1 e2; omega) (by clear e1 e2; omega)
      have e5 : wrap64 ((m : Int) + 1) = ((m + 1 : Nat) : Int) := wrap64_id (by clear e1 e2 e4; omega) (by clear e1 e2 e4; omega)
      clear hmm
      obtain ⟨b0, off, A1, len1, cap1, k, ch, hj, rfl, hb0, hp, hk, c0, c1, hl1, hv⟩ := (HA.out.below HB.out).get m hmn
      have HP := Lib.hid hp; clear hp hv hb0
      have HC := Lib.hid (cmp_key k key)
      have HE := Lib.hid (fun w => entry_cmp k key (.slice A1 len1 cap1) rfl w)
      generalize Lib.compareBytes k.data.toList key.data.toList = z at *
      by_cases hz : z < 0
      · have x1 : decide (z < 0) = true := decide_eq_true hz
        have H2 := Lib.hid (show (∀ t (h : t < ps.length), t < m + 1 → keyLess ps[t].1 key) from fun t h ht => HM.out t m h hj (by clear e1 e2 e4 e5; omega) (by rw [HP.out]; exact HC.out.1.1 hz))
        go_wp2_with fail
        refine (HE.out _).mono ?_
        rintro e w1 ⟨rfl, hb⟩
        have HB := Lib.hid (HB.out.trans (hb.mono HB.out.size)); clear hb
        go_wp2
        go_roundw
        case rel => exact ⟨m + 1, hi, by go_num, rfl, hmh, hhn, Lib.hid ⟨H2.out, HS.out.2⟩, HB.out⟩
        case measure =>
          clear e1 e2 e4
          first | (rw [e5]; simp [intOf]; omega) | (clear e5; simp [intOf]; omega)
      · have x1 : decide (z < 0) = false := decide_eq_false hz
        have H2 := Lib.hid (show (∀ t (h : t < ps.length), m ≤ t → ¬ keyLess ps[t].1 key) from fun t h ht hl => hz (HC.out.1.2 (by have := HM.out m t hj h ht hl; rw [HP.out] at this; exact this)))
        go_wp2_with fail
        refine (HE.out _).mono ?_
        rintro e w1 ⟨rfl, hb⟩
        have HB := Lib.hid (HB.out.trans (hb.mono HB.out.size)); clear hb
        go_wp2
        go_roundw
        case rel => exact ⟨lo, m, rfl, by go_num, hml, Nat.le_trans (Nat.le_of_lt hmh) hhn, Lib.hid ⟨HS.out.1, H2.out⟩, HB.out⟩
        case measure =>
          clear e1 e2 e4 e5
          simp [intOf]; omega
    · obtain rfl : lo = hi := by omega
      by_cases hll : lo < len
      · obtain ⟨b0, off, A1, len1, cap1, k, ch, hj, rfl, hb0, hp, hk, c0, c1, hl1, hv⟩ := (HA.out.below HB.out).get lo hll
        have HP := Lib.hid hp; clear hp hv hb0
        have HC := Lib.hid (cmp_key k key)
        have HE := Lib.hid (fun w => entry_cmp k key (.slice A1 len1 cap1) rfl w)
        generalize Lib.compareBytes k.data.toList key.data.toList = z at *
        go_wp2_with fail
        refine (HE.out _).mono ?_
        rintro e w1 ⟨rfl, hb⟩
        have HB := Lib.hid (HB.out.trans (hb.mono HB.out.size)); clear hb
        by_cases hz : z = 0
        · have x1 : (z == 0) = true := beq_iff_eq.2 hz
          have HZ := Lib.hid (HC.out.2.1 hz); clear hz
          go_wp2
          go_ret2
          exact ⟨lo, true, rfl, hhn, HS.out.1, HS.out.2, ⟨fun _ => ⟨hj, by rw [HP.out]; exact HZ.out⟩, fun _ => rfl⟩, HB.out⟩
        · have x1 : (z == 0) = false := beq_eq_false_iff_ne.2 hz
          have HZ := Lib.hid (show ¬ k = key from fun e => hz (HC.out.2.2 e)); clear hz
          go_wp2
          go_ret2
          exact ⟨lo, false, rfl, hhn, HS.out.1, HS.out.2, ⟨fun h => absurd h (by decide), fun ⟨h, e⟩ => by rw [HP.out] at e; exact absurd e HZ.out⟩, HB.out⟩
      · go_wp2
        go_ret2
        exact ⟨lo, false, rfl, hhn, HS.out.1, HS.out.2, ⟨fun h => absurd h (by decide), fun ⟨h, e⟩ => absurd h (by rw [HA.out.1]; exact hll)⟩, HB.out⟩
theorem find_any (A : Option Addr) (len cap : Nat) (key : ByteArray) (ps : List EntT) (w : World) (hA : ArgEnts w A len ps) (hlen : len ≤ 140737488351232)
    (hm : ∀ a b (ha : a < ps.length) (hb : b < ps.length), a ≤ b → keyLess ps[b].1 key → keyLess ps[a].1 key) :
    Calls Try.prog 31 #[.slice A len cap, .string key] w fun e w' => ∃ c : Nat, ∃ ok : Bool, e = .returned (.tuple #[.int .i64 c, .bool ok]) ∧ c ≤ len ∧
      (∀ t (h : t < ps.length), t < c → keyLess ps[t].1 key) ∧ (∀ t (h : t < ps.length), c ≤ t → ¬ keyLess ps[t].1 key) ∧ (ok = true ↔ ∃ h : c < ps.length, ps[c].1 = key) ∧ Below w.heap.size w w' := by
  have H := Lib.hid (bsearch_any A len cap key ps w hA hlen hm)
  clear hA hm
  go_enter Try.func31, Try.ntmps31
  go_wp2_with fail
  refine H.out.mono ?_
  rintro e w1 ⟨c, ok, rfl, h⟩
  go_wp2
  go_ret2
  exact ⟨c, ok, rfl, h⟩
end Go.Proofs.Ytcnehponkgofiaa.My
