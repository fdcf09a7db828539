/- prim.Cursor: Uint, Fixed, Text. -/
import Derived.Test.YtemhmgpihkemjaaCur
namespace Go.Proofs.Ytemhmgpihkemjaa.My
open Go.RowKit Go.Proofs.YtemhmgpihkemjaaW.PrintWords Go.Proofs.YtemhmgpihkemjaaW.PrintLast Go.Proofs.Ytemhmgpihkemjaa.Pm

theorem byte_one (b : UInt8) (h : 0 < (⟨#[b]⟩ : ByteArray).size) : (((⟨#[b]⟩ : ByteArray)[0]'h).toNat : Int) = (b.toNat : Int) := rfl
theorem extract_first (s : ByteArray) (i : Nat) (h : i < s.size) : (s.extract i s.size).extract 0 (1 : Int).toNat = ⟨#[s[i]]⟩ := by
  apply ByteArray.ext
  have h' : i < s.data.size := h
  rw [ByteArray.data_extract, ByteArray.data_extract]
  apply Array.ext'
  rw [show (1 : Int).toNat = 1 from rfl, Array.extract_extract, Array.toList_extract]
  rw [List.extract_eq_take_drop, show min (i + 1) s.size - (i + 0) = 1 from by omega, Nat.add_zero, List.drop_eq_getElem_cons (by simpa using h')]
  simp
  rfl
theorem extract_rest (s : ByteArray) (i : Nat) (h : i < s.size) : (s.extract i s.size).extract (1 : Int).toNat (s.extract i s.size).size = s.extract (i + 1) s.size := by
  apply ByteArray.ext
  have h' : i < s.data.size := h
  have h2 : s.size = s.data.size := rfl
  rw [ByteArray.data_extract, ByteArray.data_extract, ByteArray.data_extract, ByteArray.size_extract]
  rw [show (1 : Int).toNat = 1 from rfl, Array.extract_extract, show min (i + (min s.size s.size - i)) s.size = s.size from by omega]
theorem curBytes_one (s : ByteArray) (i : Nat) (h : i < s.size) : curBytes (s.extract i s.size) false 1 = (⟨#[s[i]]⟩, s.extract (i + 1) s.size, false) := by
  unfold curBytes
  rw [if_neg (by simp; omega), extract_first s i h, extract_rest s i h]
theorem curBytes_none (s : ByteArray) (i : Nat) (h : s.size ≤ i) : curBytes (s.extract i s.size) false 1 = (⟨#[]⟩, s.extract i s.size, true) := by
  unfold curBytes
  rw [if_pos (by simp; omega)]
theorem drop_byte (s : ByteArray) (i : Nat) (h : i < s.size) : s.data.toList.drop i = s[i] :: s.data.toList.drop (i + 1) := List.drop_eq_getElem_cons (by simpa using h)

theorem uint_go {i n : Nat} {b : UInt8} (r : List UInt8) (h : ¬ ((i = 9 ∧ 1 < b.toNat % 128) ∨ 9 < i ∨ (0 < i ∧ b = 0))) :
    takeU i n (b :: r) = if b.toNat < 128 then some (n + b.toNat % 128 * 2 ^ (7 * i), i + 1) else takeU (i + 1) (n + b.toNat % 128 * 2 ^ (7 * i)) r := by
  rw [takeU, if_neg h]
theorem uint_go' {i n low m : Nat} {b : UInt8} (r : List UInt8) (hl : b.toNat % 128 = low) (hm : n + low * 2 ^ (7 * i) = m) (h : ¬ ((i = 9 ∧ 1 < low) ∨ 9 < i ∨ (0 < i ∧ b = 0))) :
    takeU i n (b :: r) = if b.toNat < 128 then some (m, i + 1) else takeU (i + 1) m r := by
  subst hl hm
  exact uint_go r h
theorem uint_lt {n low i : Nat} (hn : n < 2 ^ (7 * i)) (hl : low < 128) : n + low * 2 ^ (7 * i) < 2 ^ (7 * (i + 1)) := by
  rw [show 7 * (i + 1) = 7 * i + 7 from by omega, Nat.pow_add]
  have : low * 2 ^ (7 * i) ≤ 127 * 2 ^ (7 * i) := Nat.mul_le_mul_right _ (by omega)
  omega
theorem uint_fits {n low i : Nat} (hn : n < 2 ^ (7 * i)) (hl : low < 128) (hi : i ≤ 9) (h9 : ¬ (i = 9 ∧ 1 < low)) : n + low * 2 ^ (7 * i) < 18446744073709551616 := by
  by_cases e : i = 9
  · subst e
    have : low * 2 ^ (7 * 9) ≤ 1 * 2 ^ (7 * 9) := Nat.mul_le_mul_right _ (by omega)
    omega
  · have h1 := uint_lt hn hl
    have h2 : 2 ^ (7 * (i + 1)) ≤ 2 ^ 63 := Nat.pow_le_pow_right (by omega) (by omega)
    omega
theorem shl_low (low i : Nat) (h : low * 2 ^ (7 * i) < 18446744073709551616) : IntKind.u64.wrap ((low : Int) * 2 ^ (7 * i)) = ((low * 2 ^ (7 * i) : Nat) : Int) := by
  have e : (low : Int) * 2 ^ (7 * i) = ((low * 2 ^ (7 * i) : Nat) : Int) := by simp
  rw [e, wrap_u64_nat h]
set_option maxHeartbeats 4000000 in
theorem cur_uint_ok (s : ByteArray) (g : Nat) (w : World) (hc : IsCur w g s false) (hs : s.size ≤ 140737488355328) :
    Calls Try.prog 28 #[.pointer (some ⟨g, 0, none⟩)] w fun e w' => e = .returned (.int .u64 (curUint s false).1) ∧ IsCur w' g (curUint s false).2.1 (curUint s false).2.2 ∧ Keeps (Only g) w w' := by
  have h0 := hc.c0
  have f0 := hc.f 0
  have HC := Lib.hid hc; clear hc
  go_enter Try.func28, Try.ntmps28
  go_wp2
  go_quiet (fail)
  go_wp2
  clear h0 f0
  go_loopw [3, 5] (fun v3 v5 wr => ∃ (i n : Nat), v3 = .int .u64 n ∧ v5 = .int .i64 i ∧ i ≤ 10 ∧ i ≤ s.size ∧ n < 2 ^ (7 * i) ∧ n < 18446744073709551616 ∧ takeU 0 0 s.data.toList = takeU i n (s.data.toList.drop i) ∧ IsCur wr g (s.extract i s.size) false ∧ Keeps (Only g) w wr) (fun _ v5 _ => s.size - (intOf v5).toNat)
  case atStart => exact ⟨0, 0, rfl, rfl, by omega, by omega, by omega, by omega, rfl, by rw [ByteArray.extract_zero_size]; exact HC.out, (Keeps.refl _ _).drewN _⟩
  case round =>
    obtain ⟨i, n, rfl, rfl, hi, his, hn, hn', ht, hc, hk⟩ := hrel
    have HT := Lib.hid ht; clear ht
    have HK := Lib.hid hk; clear hk
    have h1 := hc.c1
    have HC := Lib.hid hc; clear hc
    by_cases hlt : i < s.size
    · have hd := drop_byte s i hlt
      have ho := curBytes_one s i hlt
      generalize s[i] = b at hd ho
      have HD := Lib.hid hd; clear hd
      have HO := Lib.hid ho; clear ho
      go_wp2_with fail
      refine (cur_bytes _ _ _ _ _ HC.out).mono ?_
      rintro e w1 ⟨rfl, hc, hk⟩
      rw [HO.out] at hc ⊢
      clear h1 HC
      have HK := Lib.hid (HK.out.trans hk); clear hk
      have h0 := hc.c0
      have h1 := hc.c1
      have f0 := hc.f 0
      have f1 := hc.f 1
      have HC := Lib.hid hc; clear hc
      have hg := byte_one b
      obtain ⟨low, hlow⟩ : ∃ low, b.toNat % 128 = low := ⟨_, rfl⟩
      have ha := and127 b
      rw [hlow] at ha
      have hl128 : low < 128 := by omega
      have hb := and128 b
      have HL := Lib.hid hlow; clear hlow
      have fin0 : takeU i n (b :: s.data.toList.drop (i + 1)) = none → curUint s false = (0, s, true) := fun h => by
        unfold curUint; rw [HT.out, HD.out, h]; rfl
      have FIN0 := Lib.hid fin0; clear fin0
      by_cases i10 : 9 < i
      · have x9 : ((i : Int) == 9) = false := by simp; omega
        have x10 : decide (9 < (i : Int)) = true := by simp; omega
        clear hb
        go_wp2
        go_ret
        have F := FIN0.out (by unfold takeU; rw [if_pos (.inr (.inl i10))])
        rw [F]
        exact ⟨rfl, (HC.out.set0 _).set1 _, (HK.out.own _ _).own _ _⟩
      have x10 : decide (9 < (i : Int)) = false := by simp; omega
      by_cases l1 : i = 9 ∧ 1 < low
      · have x9 : ((i : Int) == 9) = true := by simp; omega
        have xl : decide (1 < (low : Int)) = true := by simp; omega
        have HI := Lib.hid l1; clear l1
        clear hb
        go_wp2
        go_ret
        have F := FIN0.out (by unfold takeU; rw [if_pos (.inl ⟨HI.out.1, by rw [HL.out]; exact HI.out.2⟩)])
        rw [F]
        exact ⟨rfl, (HC.out.set0 _).set1 _, (HK.out.own _ _).own _ _⟩
      have hbd : n + low * 2 ^ (7 * i) < 18446744073709551616 := uint_fits hn hl128 (by omega) (by omega)
      have hsh : IntKind.u64.wrap ((low : Int) * 2 ^ (7 * i)) = (low : Int) * 2 ^ (7 * i) := (shl_low low i (by omega)).trans (by simp)
      obtain ⟨m, hm⟩ : ∃ m, n + low * 2 ^ (7 * i) = m := ⟨_, rfl⟩
      have hor : Go.bits .or .u64 (n : Int) ((low : Int) * 2 ^ (7 * i)) = (m : Int) := by
        have h := or_add hn (by omega) hn' (l := low)
        rw [hm] at h
        rw [← h]
        simp
      have hmlt : m < 2 ^ (7 * (i + 1)) := hm ▸ uint_lt hn hl128
      rw [hm] at hbd
      have HM := Lib.hid hm; clear hm
      by_cases i0 : i = 0
      · have x9 : ((i : Int) == 9) = false := by simp; omega
        have x0 : decide (0 < (i : Int)) = false := by simp; omega
        have x0n : decide (0 < i) = false := by simp; omega
        have HI := Lib.hid i0; clear i0
        have hgo := uint_go' (s.data.toList.drop (i + 1)) HL.out HM.out (show ¬ ((i = 9 ∧ 1 < low) ∨ 9 < i ∨ (0 < i ∧ b = 0)) from by have := HI.out; omega)
        have HG := Lib.hid hgo; clear hgo
        by_cases h128 : b.toNat < 128
        · rw [if_pos h128] at hb
          go_wp2
          go_ret
          have F : curUint s false = (m, s.extract (i + 1) s.size, false) := by
            unfold curUint; rw [HT.out, HD.out, HG.out, if_pos h128]; rfl
          rw [F]
          exact ⟨rfl, HC.out, HK.out⟩
        · rw [if_neg h128] at hb
          go_wp2
          go_roundw
          case rel => exact ⟨i + 1, m, rfl, by go_num, by omega, by omega, hmlt, hbd, by rw [HT.out, HD.out, HG.out, if_neg h128], HC.out, HK.out⟩
          case measure => simp [intOf]; omega
      have x0 : decide (0 < (i : Int)) = true := by simp; omega
      have x0n : decide (0 < i) = true := by simp; omega
      by_cases hz : b = 0
      · have hzb : ((b.toNat : Int) == 0) = true := by subst hz; rfl
        have HZ := Lib.hid hz; clear hz
        by_cases i9 : i = 9
        · have x9 : ((i : Int) == 9) = true := by simp; omega
          have xl : decide (1 < (low : Int)) = false := by simp; omega
          have HI := Lib.hid i9; clear i9
          clear hb
          go_wp2
          go_ret
          have F := FIN0.out (by unfold takeU; rw [if_pos (.inr (.inr ⟨by omega, HZ.out⟩))])
          rw [F]
          exact ⟨rfl, (HC.out.set0 _).set1 _, (HK.out.own _ _).own _ _⟩
        · have x9 : ((i : Int) == 9) = false := by simp; omega
          clear hb
          go_wp2
          go_ret
          have F := FIN0.out (by unfold takeU; rw [if_pos (.inr (.inr ⟨by omega, HZ.out⟩))])
          rw [F]
          exact ⟨rfl, (HC.out.set0 _).set1 _, (HK.out.own _ _).own _ _⟩
      · have hzb : ((b.toNat : Int) == 0) = false := by
          simp
          intro h
          exact hz (UInt8.toNat.inj (by simpa using h))
        by_cases i9 : i = 9
        · have x9 : ((i : Int) == 9) = true := by simp; omega
          have xl : decide (1 < (low : Int)) = false := by simp; omega
          have HI := Lib.hid i9; clear i9
          have hgo := uint_go' (s.data.toList.drop (i + 1)) HL.out HM.out (show ¬ ((i = 9 ∧ 1 < low) ∨ 9 < i ∨ (0 < i ∧ b = 0)) from by rintro (h | h | h); exact l1 h; exact i10 h; exact hz h.2)
          have HG := Lib.hid hgo; clear hgo
          by_cases h128 : b.toNat < 128
          · rw [if_pos h128] at hb
            go_wp2
            go_ret
            have F : curUint s false = (m, s.extract (i + 1) s.size, false) := by
              unfold curUint; rw [HT.out, HD.out, HG.out, if_pos h128]; rfl
            rw [F]
            exact ⟨rfl, HC.out, HK.out⟩
          · rw [if_neg h128] at hb
            go_wp2
            go_roundw
            case rel => exact ⟨i + 1, m, rfl, by go_num, by omega, by omega, hmlt, hbd, by rw [HT.out, HD.out, HG.out, if_neg h128], HC.out, HK.out⟩
            case measure => simp [intOf]; omega
        · have x9 : ((i : Int) == 9) = false := by simp; omega
          have hgo := uint_go' (s.data.toList.drop (i + 1)) HL.out HM.out (show ¬ ((i = 9 ∧ 1 < low) ∨ 9 < i ∨ (0 < i ∧ b = 0)) from by rintro (h | h | h); exact l1 h; exact i10 h; exact hz h.2)
          have HG := Lib.hid hgo; clear hgo
          by_cases h128 : b.toNat < 128
          · rw [if_pos h128] at hb
            go_wp2
            go_ret
            have F : curUint s false = (m, s.extract (i + 1) s.size, false) := by
              unfold curUint; rw [HT.out, HD.out, HG.out, if_pos h128]; rfl
            rw [F]
            exact ⟨rfl, HC.out, HK.out⟩
          · rw [if_neg h128] at hb
            go_wp2
            go_roundw
            case rel => exact ⟨i + 1, m, rfl, by go_num, by omega, by omega, hmlt, hbd, by rw [HT.out, HD.out, HG.out, if_neg h128], HC.out, HK.out⟩
            case measure => simp [intOf]; omega
    · have ho := curBytes_none s i (by omega)
      have HO := Lib.hid ho; clear ho
      go_wp2_with fail
      refine (cur_bytes _ _ _ _ _ HC.out).mono ?_
      rintro e w1 ⟨rfl, hc, hk⟩
      rw [HO.out] at hc ⊢
      clear h1 HC
      have HK := Lib.hid (HK.out.trans hk); clear hk
      have h0 := hc.c0
      have h1 := hc.c1
      have f0 := hc.f 0
      have HC := Lib.hid hc; clear hc
      go_wp2
      go_ret
      have F : curUint s false = (0, s, true) := by
        unfold curUint; rw [HT.out, List.drop_eq_nil_of_le (by simp; omega)]; rfl
      rw [F]
      exact ⟨rfl, HC.out.set0 _, HK.out.own _ _⟩
theorem cur_uint (s : ByteArray) (bad : Bool) (g : Nat) (w : World) (hc : IsCur w g s bad) (hs : s.size ≤ 140737488355328) :
    Calls Try.prog 28 #[.pointer (some ⟨g, 0, none⟩)] w fun e w' => e = .returned (.int .u64 (curUint s bad).1) ∧ IsCur w' g (curUint s bad).2.1 (curUint s bad).2.2 ∧ Keeps (Only g) w w' := by
  cases bad with
  | false => exact cur_uint_ok s g w hc hs
  | true =>
    have h0 := hc.c0
    have h1 := hc.c1
    have f0 := hc.f 0
    have HC := Lib.hid hc; clear hc
    go_enter Try.func28, Try.ntmps28
    go_wp2
    go_quiet (fail)
    go_wp2
    go_loopw [3, 5] (fun v3 v5 wr => v3 = .int .u64 0 ∧ v5 = .int .i64 0 ∧ IsCur wr g s true ∧ Keeps (Only g) w wr) (fun _ _ _ => 0)
    case atStart => exact ⟨rfl, rfl, HC.out, (Keeps.refl _ _).drewN _⟩
    case round =>
      obtain ⟨rfl, rfl, hc, hk⟩ := hrel
      clear h0 h1 f0
      have h1 := hc.c1
      have h0 := hc.c0
      have f0 := hc.f 0
      have HC := Lib.hid hc; clear hc
      go_wp2
      go_ret
      exact ⟨rfl, HC.out.set0 _, hk.own _ _⟩
theorem curUint_size (s : ByteArray) (bad : Bool) : (curUint s bad).2.1.size ≤ s.size := by
  unfold curUint
  split
  · simp
  · split
    · rw [ByteArray.size_extract]; simp
    · simp

/-- Text: the text, what is left, is it bad? -/
def curText (s : ByteArray) (bad : Bool) : ByteArray × ByteArray × Bool :=
  if (curUint s bad).2.1.size < (curUint s bad).1 then (⟨#[]⟩, s, true) else if (curUint s bad).2.2 then (⟨#[]⟩, (curUint s bad).2.1, true) else curBytes (curUint s bad).2.1 false (curUint s bad).1

set_option maxHeartbeats 2000000 in
theorem cur_text (s : ByteArray) (bad : Bool) (g : Nat) (w : World) (hc : IsCur w g s bad) (hs : s.size ≤ 140737488355328) :
    Calls Try.prog 31 #[.pointer (some ⟨g, 0, none⟩)] w fun e w' => e = .returned (.string (curText s bad).1) ∧ IsCur w' g (curText s bad).2.1 (curText s bad).2.2 ∧ Keeps (Only g) w w' := by
  have h0 := hc.c0
  have HC := Lib.hid hc; clear hc
  have hz := curUint_size s bad
  have HF : Hid (∀ x, x = curText s bad → x = if (curUint s bad).2.1.size < (curUint s bad).1 then (⟨#[]⟩, s, true) else if (curUint s bad).2.2 then (⟨#[]⟩, (curUint s bad).2.1, true) else curBytes (curUint s bad).2.1 false (curUint s bad).1) := fun x h => h
  generalize hx : curText s bad = x at *
  have HF := Lib.hid (HF.out x rfl); clear hx
  have HU := Lib.hid (cur_uint s bad g w HC.out hs)
  generalize curUint s bad = u at *
  obtain ⟨n, t, b2⟩ := u
  simp only at hz
  go_enter Try.func31, Try.ntmps31
  go_wp2_with fail
  refine (HU.out).mono ?_
  rintro e w1 ⟨rfl, hc, hk⟩
  clear h0
  have h0 := hc.c0
  have h1 := hc.c1
  have f0 := hc.f 0
  have f1 := hc.f 1
  have HC := Lib.hid hc; clear hc
  have HK := Lib.hid hk; clear hk
  by_cases hlt : t.size < n
  · have hb : decide ((t.size : Int) < (n : Int)) = true := by simp; omega
    go_wp2
    go_ret
    rw [HF.out, if_pos hlt]
    exact ⟨rfl, (HC.out.set0 _).set1 _, (HK.out.own _ _).own _ _⟩
  · have hb : decide ((t.size : Int) < (n : Int)) = false := by simp; omega
    cases b2 with
    | true =>
      go_wp2
      go_ret
      rw [HF.out, if_neg hlt]
      exact ⟨rfl, HC.out, HK.out⟩
    | false =>
      have hw : wrap64 (n : Int) = (n : Int) := wrap64_id (by omega) (by omega)
      go_wp2_with fail
      refine (cur_bytes _ _ _ _ _ HC.out).mono ?_
      rintro e w2 ⟨rfl, hc, hk⟩
      have HC := Lib.hid hc; clear hc
      have HK := Lib.hid (HK.out.trans hk); clear hk
      go_wp2
      go_ret
      rw [HF.out, if_neg hlt]
      exact ⟨rfl, HC.out, HK.out⟩
end Go.Proofs.Ytemhmgpihkemjaa.My
