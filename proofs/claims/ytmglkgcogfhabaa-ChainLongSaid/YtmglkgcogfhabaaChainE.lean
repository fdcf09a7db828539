/- chain.Right, same, ends, bytes, Encode. -/
import Derived.Test.YtmglkgcogfhabaaChainAt
import Derived.Test.YtmglkgcogfhabaaPrim
import Derived.Test.YtmglkgcogfhabaaCode
namespace Go.Proofs.Ytmglkgcogfhabaa.My
set_option linter.unusedSimpArgs false
set_option linter.unusedVariables false
open Go.RowKit Go.Proofs.YtmglkgcogfhabaaW.PrintWords Go.Proofs.YtmglkgcogfhabaaW.PrintLast Go.Proofs.Ytmglkgcogfhabaa.Pm

set_option maxRecDepth 100000 in
set_option maxHeartbeats 4000000 in
theorem right_any (A : Option Addr) (len cap : Nat) (ps : List VerT) (w : World) (hA : ArgVers w A len ps) (hlen : len ≤ 140737488351232) :
    Calls Try.prog 16 #[.slice A len cap] w fun e w' => ∃ b : Bool, e = .returned (.bool b) ∧ (b = true ↔ rightV ps) ∧ Below w.heap.size w w' := by
  have HA := Lib.hid hA; clear hA
  have HB := Lib.hid (Below.refl w.heap.size w)
  go_enter Try.func16, Try.ntmps16
  go_wp2
  go_loopw [3, 8] (fun v3 v8 wr => ∃ i last : Nat, v8 = .int .i64 i ∧ v3 = .int .u64 last ∧ i ≤ len ∧ Hid (∀ j (h : j < ps.length), j < i → ps[j].1 ≠ 0 ∧ (∀ h0 : 0 < j, ps[j - 1].1 < ps[j].1) ∧ (ps[j].2.1 = true → ps[j].2.2.size = 0)) ∧ Hid ((i = 0 → last = 0) ∧ ∀ h : i - 1 < ps.length, 0 < i → last = ps[i - 1].1) ∧ Below w.heap.size w wr) (fun _ v8 _ => len - (intOf v8).toNat)
  case atStart => exact ⟨0, 0, rfl, rfl, by omega, Lib.hid (fun j _ h => absurd h (by omega)), Lib.hid ⟨fun _ => rfl, fun _ h => absurd h (by omega)⟩, HB.out⟩
  case round =>
    clear HB
    obtain ⟨i, last, rfl, rfl, hi, HS, HL, hb⟩ := hrel
    have HB := Lib.hid hb; clear hb
    have HR := Lib.hid (HA.out.below HB.out)
    by_cases hlt : i < len
    · obtain ⟨b0, off, t, g, v, hj, rfl, hb0, hp, ht, hv, c0, c1, c2⟩ := HR.out.get i hlt
      have HP := Lib.hid hp; clear hp hv
      have hdn := str_none v
      have HLT : Hid (t ≤ last → ¬ rightV ps) := Lib.hid (fun hle h => by
        have h1 := h.1 i hj
        rw [HP.out] at h1
        simp only at h1
        by_cases hi0 : 0 < i
        · have h2 := h1.2.1 hi0
          rw [← HL.out.2 (by omega) hi0] at h2
          omega
        · have := HL.out.1 (by omega)
          omega)
      have HLU : Hid (¬ t ≤ last → t ≠ 0 ∧ ∀ h0 : 0 < i, ps[i - 1].1 < t) := Lib.hid (fun hle => ⟨by omega, fun h0 => by rw [← HL.out.2 (by omega) h0]; omega⟩)
      by_cases hle : t ≤ last
      · have x1 : decide ((t : Int) ≤ (last : Int)) = true := by simp; omega
        have HF := Lib.hid (HLT.out hle)
        go_wp2
        go_ret
        exact ⟨false, rfl, ⟨fun h => absurd h (by decide), fun h => absurd h HF.out⟩, below_alloc HB.out _⟩
      · have x1 : decide ((t : Int) ≤ (last : Int)) = false := by simp; omega
        have HU := Lib.hid (HLU.out hle)
        have hw := succ_wrap hlt hlen
        cases g with
        | false =>
          have HG := Lib.hid (show ∀ j (h : j < ps.length), j < i + 1 → ps[j].1 ≠ 0 ∧ (∀ h0 : 0 < j, ps[j - 1].1 < ps[j].1) ∧ (ps[j].2.1 = true → ps[j].2.2.size = 0) from fun j h hji => by
            by_cases e : j = i
            · subst e
              refine ⟨by rw [HP.out]; exact HU.out.1, fun h0 => by rw [HP.out]; exact HU.out.2 h0, by rw [HP.out]; exact fun h => absurd h (by simp)⟩
            · exact HS.out j h (by omega))
          clear HS
          go_wp2
          go_roundw
          case rel => exact ⟨i + 1, t, by go_num, rfl, hlt, HG, Lib.hid ⟨fun h => absurd h (by omega), fun h _ => by simp only [Nat.add_sub_cancel]; rw [HP.out]⟩, below_alloc HB.out _⟩
          case measure => simp [intOf]; omega
        | true =>
          by_cases hv0 : v.size = 0
          · rw [decide_eq_true hv0] at hdn
            have HV := Lib.hid hv0; clear hv0
            have HG := Lib.hid (show ∀ j (h : j < ps.length), j < i + 1 → ps[j].1 ≠ 0 ∧ (∀ h0 : 0 < j, ps[j - 1].1 < ps[j].1) ∧ (ps[j].2.1 = true → ps[j].2.2.size = 0) from fun j h hji => by
              by_cases e : j = i
              · subst e
                refine ⟨by rw [HP.out]; exact HU.out.1, fun h0 => by rw [HP.out]; exact HU.out.2 h0, by rw [HP.out]; exact fun _ => HV.out⟩
              · exact HS.out j h (by omega))
            clear HS
            go_wp2
            go_roundw
            case rel => exact ⟨i + 1, t, by go_num, rfl, hlt, HG, Lib.hid ⟨fun h => absurd h (by omega), fun h _ => by simp only [Nat.add_sub_cancel]; rw [HP.out]⟩, below_alloc HB.out _⟩
            case measure => simp [intOf]; omega
          · rw [decide_eq_false hv0] at hdn
            have HV := Lib.hid hv0; clear hv0
            have HF := Lib.hid (show ¬ rightV ps from fun h => HV.out (by have := (h.1 i hj).2.2; rw [HP.out] at this; exact this rfl))
            go_wp2
            go_ret
            exact ⟨false, rfl, ⟨fun h => absurd h (by decide), fun h => absurd h HF.out⟩, below_alloc HB.out _⟩
    · obtain rfl : i = len := by omega
      have HL := Lib.hid HA.out.1
      go_wp2
      go_ret
      refine ⟨_, rfl, ?_, HB.out⟩
      simp only [decide_eq_true_eq]
      exact ⟨fun h => ⟨fun j hj => HS.out j hj (by rw [← HL.out]; exact hj), by rw [HL.out]; omega⟩, fun h => by have := h.2; rw [HL.out] at this; omega⟩
/-- How many bytes two begin with alike. -/
def sameN : List UInt8 → List UInt8 → Nat
  | a :: r, b :: s => if a = b then sameN r s + 1 else 0
  | _, _ => 0
theorem sameN_le : ∀ (a b : List UInt8), sameN a b ≤ a.length ∧ sameN a b ≤ b.length
  | [], _ => by simp [sameN]
  | _ :: _, [] => by simp [sameN]
  | x :: r, y :: s => by
    have := sameN_le r s
    unfold sameN
    split <;> simp only [List.length_cons] <;> omega
theorem sameN_nil_r (a : List UInt8) : sameN a [] = 0 := by cases a <;> rfl
theorem drop_at (s : ByteArray) (i : Nat) (h : i < s.size) : (bl s).drop i = s[i] :: (bl s).drop (i + 1) := drop_byte s i h
def sameB (a b : ByteArray) : Nat := sameN (bl a) (bl b)
set_option maxRecDepth 100000 in
set_option maxHeartbeats 2000000 in
theorem same_any (a b : ByteArray) (w : World) (ha : a.size ≤ 140737488351232) (hb : b.size ≤ 140737488351232) :
    Calls Try.prog 58 #[.string a, .string b] w fun e w' => e = .returned (.int .i64 (sameB a b)) ∧ Below w.heap.size w w' := by
  unfold sameB
  have HN := Lib.hid (show sameN (bl a) (bl b) = 0 + sameN ((bl a).drop 0) ((bl b).drop 0) by simp)
  generalize sameN (bl a) (bl b) = N at *
  have HB := Lib.hid (Below.refl w.heap.size w)
  go_enter Try.func58, Try.ntmps58
  go_wp2
  go_loopw [5] (fun v5 wr => ∃ i : Nat, v5 = .int .i64 i ∧ i ≤ a.size ∧ i ≤ b.size ∧ Hid (N = i + sameN ((bl a).drop i) ((bl b).drop i)) ∧ Below w.heap.size w wr) (fun v5 _ => a.size - (intOf v5).toNat)
  case atStart => exact ⟨0, rfl, by omega, by omega, HN, HB.out⟩
  case round =>
    clear HN HB
    obtain ⟨i, rfl, hia, hib, HN, hb'⟩ := hrel
    have HB := Lib.hid hb'; clear hb'
    by_cases h1 : i < a.size
    · by_cases h2 : i < b.size
      · have hd1 := drop_at a i h1
        have hd2 := drop_at b i h2
        obtain ⟨c, hc⟩ : ∃ c, a[i] = c := ⟨_, rfl⟩
        obtain ⟨d, hd⟩ : ∃ d, b[i] = d := ⟨_, rfl⟩
        rw [hc] at hd1
        rw [hd] at hd2
        have hcc : ∀ h : i < a.size, a[i]'h = c := fun _ => hc
        have hdd : ∀ h : i < b.size, b[i]'h = d := fun _ => hd
        have hN := HN.out
        rw [hd1, hd2, sameN] at hN
        clear hc hd hd1 hd2
        have HN := Lib.hid hN; clear hN
        rename_i HN'; clear HN'
        by_cases hcd : c = d
        · have x1 : ((c.toNat : Int) == (d.toNat : Int)) = true := by rw [hcd]; simp
          have HN2 := Lib.hid (show N = (i + 1) + sameN ((bl a).drop (i + 1)) ((bl b).drop (i + 1)) by rw [HN.out, if_pos hcd]; omega)
          have hw := succ_wrap h1 ha
          have hx : c.toNat = d.toNat := by rw [hcd]
          clear hcd
          go_wp2
          go_quiet (fail)
          have HB := Lib.hid (pw_below_drewN HB.out nq)
          go_wp2
          go_roundw
          case rel => exact ⟨i + 1, by go_num, h1, h2, HN2, HB.out⟩
          case measure => simp [intOf]; omega
        · have hx : ¬ c.toNat = d.toNat := fun h => hcd (UInt8.toNat.inj h)
          have x1 : ((c.toNat : Int) == (d.toNat : Int)) = false := by simp; omega
          have HN2 := Lib.hid (show N = i by rw [HN.out, if_neg hcd]; omega)
          clear hcd
          go_wp2
          go_quiet (fail)
          have HB := Lib.hid (pw_below_drewN HB.out nq)
          go_wp2
          go_ret
          rw [HN2.out]
          exact ⟨rfl, HB.out⟩
      · have HN2 := Lib.hid (show N = i by rw [HN.out, show List.drop i (bl b) = [] from List.drop_eq_nil_of_le (by rw [bl_length]; omega), sameN_nil_r]; rfl)
        go_wp2
        go_quiet (fail)
        have HB := Lib.hid (pw_below_drewN HB.out nq)
        go_wp2
        go_ret
        rw [HN2.out]
        exact ⟨rfl, HB.out⟩
    · have HN2 := Lib.hid (show N = i by rw [HN.out, show List.drop i (bl a) = [] from List.drop_eq_nil_of_le (by rw [bl_length]; omega)]; rfl)
      go_wp2
      go_quiet (fail)
      have HB := Lib.hid (pw_below_drewN HB.out nq)
      go_wp2
      go_ret
      rw [HN2.out]
      exact ⟨rfl, HB.out⟩
theorem rdrop_at (s : ByteArray) (i k : Nat) (h : i < s.size) (hk : s.size - 1 - i = k) (hk' : k < s.size) : (bl s).reverse.drop i = s[k] :: (bl s).reverse.drop (i + 1) := by
  have hl : i < (bl s).reverse.length := by rw [List.length_reverse, bl_length]; exact h
  rw [List.drop_eq_getElem_cons hl]
  congr 1
  rw [List.getElem_reverse]
  have e : (bl s).length - 1 - i = k := by rw [bl_length]; exact hk
  simp only [e]
  rfl
theorem back_wrap {n i : Nat} (h : i < n) (hn : n ≤ 140737488351232) : ∃ k, n - 1 - i = k ∧ k < n ∧ IntKind.i64.wrap ((n : Int) - 1) = (n : Int) - 1 ∧ IntKind.i64.wrap ((n : Int) - 1 - (i : Int)) = (k : Int) ∧ wrap64 ((n : Int) - 1) = (n : Int) - 1 ∧ wrap64 ((n : Int) - 1 - (i : Int)) = (k : Int) := by
  have h1 : wrap64 ((n : Int) - 1) = (n : Int) - 1 := wrap64_id (by omega) (by omega)
  have h2 : wrap64 ((n : Int) - 1 - (i : Int)) = ((n - 1 - i : Nat) : Int) := by rw [wrap64_id (by omega) (by omega)]; omega
  exact ⟨_, rfl, by omega, (i64_w _).trans h1, (i64_w _).trans h2, h1, h2⟩
theorem up_meas {j n : Nat} (h : j < n) (hw : wrap64 ((j : Int) + 1) = ((j + 1 : Nat) : Int)) : n - (intOf (.int .i64 (wrap64 ((j : Int) + 1)))).toNat < n - (intOf (.int .i64 (j : Int))).toNat := by
  rw [hw]
  simp only [intOf]
  omega
theorem up_meas2 {j n : Nat} (h : j < n) : n - (intOf (.int .i64 ((j : Int) + 1))).toNat < n - (intOf (.int .i64 (j : Int))).toNat := by
  simp only [intOf]
  omega
def endsB (a b : ByteArray) : Nat := sameN (bl a).reverse (bl b).reverse
set_option maxRecDepth 100000 in
set_option maxHeartbeats 2000000 in
theorem ends_any (a b : ByteArray) (w : World) (ha : a.size ≤ 140737488351232) (hb : b.size ≤ 140737488351232) :
    Calls Try.prog 59 #[.string a, .string b] w fun e w' => e = .returned (.int .i64 (endsB a b)) ∧ Below w.heap.size w w' := by
  unfold endsB
  have HN := Lib.hid (show sameN (bl a).reverse (bl b).reverse = 0 + sameN ((bl a).reverse.drop 0) ((bl b).reverse.drop 0) by simp)
  generalize sameN (bl a).reverse (bl b).reverse = N at *
  have HB := Lib.hid (Below.refl w.heap.size w)
  go_enter Try.func59, Try.ntmps59
  go_wp2
  go_loopw [5] (fun v5 wr => ∃ i : Nat, v5 = .int .i64 i ∧ i ≤ a.size ∧ i ≤ b.size ∧ Hid (N = i + sameN ((bl a).reverse.drop i) ((bl b).reverse.drop i)) ∧ Below w.heap.size w wr) (fun v5 _ => a.size - (intOf v5).toNat)
  case atStart => exact ⟨0, rfl, by omega, by omega, HN, HB.out⟩
  case round =>
    clear HN HB
    obtain ⟨i, rfl, hia, hib, HN, hb'⟩ := hrel
    have HB := Lib.hid hb'; clear hb'
    by_cases h1 : i < a.size
    · by_cases h2 : i < b.size
      · obtain ⟨k, hk, hka, pp⟩ := back_wrap h1 ha
        obtain ⟨m, hm, hmb, qq⟩ := back_wrap h2 hb
        have PP := Lib.hid pp
        have QQ := Lib.hid qq
        clear pp qq
        have hd1 := rdrop_at a i k h1 hk hka
        have hd2 := rdrop_at b i m h2 hm hmb
        obtain ⟨c, hc⟩ : ∃ c, a[k] = c := ⟨_, rfl⟩
        obtain ⟨d, hd⟩ : ∃ d, b[m] = d := ⟨_, rfl⟩
        rw [hc] at hd1
        rw [hd] at hd2
        have hcc : ∀ h : k < a.size, a[k]'h = c := fun _ => hc
        have hdd : ∀ h : m < b.size, b[m]'h = d := fun _ => hd
        have hN := HN.out
        rw [hd1, hd2, sameN] at hN
        clear hc hd hd1 hd2 hk hm
        have HN := Lib.hid hN; clear hN
        rename_i HN'; clear HN'
        by_cases hcd : c = d
        · have x1 : ((c.toNat : Int) == (d.toNat : Int)) = true := by rw [hcd]; simp
          have HN2 := Lib.hid (show N = (i + 1) + sameN ((bl a).reverse.drop (i + 1)) ((bl b).reverse.drop (i + 1)) by rw [HN.out, if_pos hcd]; omega)
          have hw := succ_wrap h1 ha
          have hx : c.toNat = d.toNat := by rw [hcd]
          clear hcd
          obtain ⟨p1, p2, p3, p4⟩ := PP.out
          obtain ⟨q1, q2, q3, q4⟩ := QQ.out
          go_wp2
          go_quiet (fail)
          have HB := Lib.hid (pw_below_drewN HB.out nq)
          go_wp2
          go_roundw
          case rel => exact ⟨i + 1, by go_num, h1, h2, HN2, HB.out⟩
          case measure => first | exact up_meas h1 hw | exact up_meas2 h1
        · have hx : ¬ c.toNat = d.toNat := fun h => hcd (UInt8.toNat.inj h)
          have x1 : ((c.toNat : Int) == (d.toNat : Int)) = false := by simp; omega
          have HN2 := Lib.hid (show N = i by rw [HN.out, if_neg hcd]; rfl)
          clear hcd
          obtain ⟨p1, p2, p3, p4⟩ := PP.out
          obtain ⟨q1, q2, q3, q4⟩ := QQ.out
          go_wp2
          go_quiet (fail)
          have HB := Lib.hid (pw_below_drewN HB.out nq)
          go_wp2
          go_ret
          rw [HN2.out]
          exact ⟨rfl, HB.out⟩
      · have HN2 := Lib.hid (show N = i by rw [HN.out, show List.drop i ((bl b).reverse) = [] from List.drop_eq_nil_of_le (by rw [List.length_reverse, bl_length]; omega), sameN_nil_r]; rfl)
        go_wp2
        go_quiet (fail)
        have HB := Lib.hid (pw_below_drewN HB.out nq)
        go_wp2
        go_ret
        rw [HN2.out]
        exact ⟨rfl, HB.out⟩
    · have HN2 := Lib.hid (show N = i by rw [HN.out, show List.drop i ((bl a).reverse) = [] from List.drop_eq_nil_of_le (by rw [List.length_reverse, bl_length]; omega)]; rfl)
      go_wp2
      go_quiet (fail)
      have HB := Lib.hid (pw_below_drewN HB.out nq)
      go_wp2
      go_ret
      rw [HN2.out]
      exact ⟨rfl, HB.out⟩
end Go.Proofs.Ytmglkgcogfhabaa.My
