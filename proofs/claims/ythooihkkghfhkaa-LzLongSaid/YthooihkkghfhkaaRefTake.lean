/- isoglossref01.Take, Text: a number taken of bytes. -/
import Derived.Test.YthooihkkghfhkaaCurU
import Derived.Test.YthooihkkghfhkaaRef01
import Derived.Test.YthooihkkghfhkaaCode
namespace Go.Proofs.Ythooihkkghfhkaa.My
set_option linter.unusedSimpArgs false
set_option linter.unusedVariables false
open Go.RowKit Go.Proofs.YthooihkkghfhkaaW.PrintWords Go.Proofs.YthooihkkghfhkaaW.PrintLast Go.Proofs.Ythooihkkghfhkaa.Pm

/-- A number and how many bytes it has; 0: there is none. -/
def takeS (s : ByteArray) : Nat × Nat := (takeU 0 0 (bl s)).getD (0, 0)
theorem wrap_u64_some (x : Int) : ∃ m : Nat, IntKind.u64.wrap x = (m : Int) := by
  refine ⟨(IntKind.u64.wrap x).toNat, ?_⟩
  have : 0 ≤ IntKind.u64.wrap x := by
    simp only [IntKind.wrap_u64]
    omega
  omega
theorem takeU_le : ∀ (l : List UInt8) (i n m k : Nat), takeU i n l = some (m, k) → i < k ∧ k ≤ i + l.length
  | [], i, n, m, k, h => by simp [takeU] at h
  | b :: r, i, n, m, k, h => by
    unfold takeU at h
    split at h
    · cases h
    · split at h
      · simp only [Option.some.injEq, Prod.mk.injEq] at h
        obtain ⟨-, rfl⟩ := h
        simp only [List.length_cons]
        omega
      · have := takeU_le r _ _ _ _ h
        simp only [List.length_cons]
        omega
theorem takeS_le (s : ByteArray) : (takeS s).2 ≤ s.size := by
  unfold takeS
  cases h : takeU 0 0 (bl s) with
  | none => exact Nat.zero_le _
  | some p =>
    have := takeU_le _ _ _ _ _ h
    rw [bl_length] at this
    simp only [Option.getD_some]
    omega
theorem takeU_lt : ∀ (l : List UInt8) (i n m k : Nat), n < 2 ^ (7 * i) → i ≤ 10 → takeU i n l = some (m, k) → m < 18446744073709551616
  | [], i, n, m, k, _, _, h => by simp [takeU] at h
  | b :: r, i, n, m, k, hn, hi, h => by
    unfold takeU at h
    split at h
    · cases h
    · rename_i hc
      have hb : b.toNat % 128 < 128 := by omega
      split at h
      · simp only [Option.some.injEq, Prod.mk.injEq] at h
        obtain ⟨rfl, -⟩ := h
        exact uint_fits hn hb (by omega) (by omega)
      · exact takeU_lt r _ _ _ _ (uint_lt hn hb) (by omega) h
theorem takeS_lt (s : ByteArray) : (takeS s).1 < 18446744073709551616 := by
  unfold takeS
  cases h : takeU 0 0 (bl s) with
  | none => decide
  | some p => exact takeU_lt _ _ _ p.1 p.2 (by decide) (by omega) h

set_option maxRecDepth 100000 in
set_option maxHeartbeats 4000000 in
theorem rtake_any (s : ByteArray) (w : World) (hs : s.size ≤ 140737488355328) :
    Calls Try.prog 36 #[.string s] w fun e w' => e = .returned (.tuple #[.int .u64 (takeS s).1, .int .i64 (takeS s).2]) ∧ w = w' := by
  have fin0 : takeU 0 0 (bl s) = none → takeS s = (0, 0) := fun h => by unfold takeS; rw [h]; rfl
  have fin1 : ∀ m k, takeU 0 0 (bl s) = some (m, k) → takeS s = (m, k) := fun m k h => by unfold takeS; rw [h]; rfl
  generalize takeS s = t at *
  have F0 := Lib.hid fin0; clear fin0
  have F1 := Lib.hid fin1; clear fin1
  go_enter Try.func36, Try.ntmps36
  go_wp2
  go_loopw [4, 5, 6] (fun v4 v5 v6 wr => ∃ (i n un : Nat), v4 = .int .u64 n ∧ v5 = .int .u64 un ∧ v6 = .int .i64 i ∧ i ≤ 10 ∧ i ≤ s.size ∧ (i < 10 → un = 2 ^ (7 * i)) ∧ n < 2 ^ (7 * i) ∧ n < 18446744073709551616 ∧ takeU 0 0 (bl s) = takeU i n ((bl s).drop i) ∧ wr = w) (fun _ _ v6 _ => s.size - (intOf v6).toNat)
  case atStart => exact ⟨0, 0, 1, rfl, rfl, rfl, by omega, by omega, fun _ => rfl, by omega, by omega, rfl, rfl⟩
  case round =>
    obtain ⟨i, n, un, rfl, rfl, rfl, hi, his, hun, hn, hn', ht, rfl⟩ := hrel
    have HT := Lib.hid ht; clear ht
    by_cases hlt : i < s.size
    · by_cases hi10 : i < 10
      · have hu := hun hi10
        clear hun
        have hd : (bl s).drop i = s[i] :: (bl s).drop (i + 1) := drop_byte s i hlt
        generalize hc : s[i] = b at hd
        have hcc : ∀ h : i < s.size, s[i]'h = b := fun _ => hc
        clear hc
        have HD := Lib.hid hd; clear hd
        have hb8 := b.toNat_lt
        have hc0 : IntKind.u64.wrap (b.toNat : Int) = (b.toNat : Int) := wrap_u64_nat (by omega)
        obtain ⟨low, hlow⟩ : ∃ low, b.toNat % 128 = low := ⟨_, rfl⟩
        have hl128 : low < 128 := by omega
        have hlo : ((b.toNat : Int) % 128) = (low : Int) := by omega
        have HL := Lib.hid hlow; clear hlow
        by_cases l1 : i = 9 ∧ 1 < low
        · have x9 : ((i : Int) == 9) = true := by simp; omega
          have xl : decide (1 < (low : Int)) = true := by simp; omega
          have L1 := Lib.hid l1; clear l1
          have HU := Lib.hid hu; clear hu
          go_wp2
          go_ret2
          rw [F0.out (by rw [HT.out, HD.out]; unfold takeU; rw [if_pos (.inl ⟨L1.out.1, by rw [HL.out]; exact L1.out.2⟩)])]
          exact ⟨rfl, rfl⟩
        · have hbd : n + low * 2 ^ (7 * i) < 18446744073709551616 := uint_fits hn hl128 (by omega) (by omega)
          have hmlt : n + low * 2 ^ (7 * i) < 2 ^ (7 * (i + 1)) := uint_lt hn hl128
          obtain ⟨p, hp⟩ : ∃ p, low * 2 ^ (7 * i) = p := ⟨_, rfl⟩
          have e1 : IntKind.u64.wrap ((low : Int) * (un : Int)) = (p : Int) := by
            rw [show (low : Int) * (un : Int) = ((low * un : Nat) : Int) by simp, hu, hp]
            exact wrap_u64_nat (by omega)
          obtain ⟨m, hm⟩ : ∃ m, n + p = m := ⟨_, rfl⟩
          have e2 : IntKind.u64.wrap ((n : Int) + (p : Int)) = (m : Int) := by
            rw [show (n : Int) + (p : Int) = ((n + p : Nat) : Int) by simp, hm]
            exact wrap_u64_nat (by omega)
          have hgo : ¬ ((i = 9 ∧ 1 < low) ∨ 9 < i ∨ (0 < i ∧ b = 0)) → takeU i n (b :: (bl s).drop (i + 1)) = if b.toNat < 128 then some (m, i + 1) else takeU (i + 1) m ((bl s).drop (i + 1)) :=
            fun h => uint_go' _ HL.out (by rw [hp, hm]) h
          obtain ⟨un2, e3⟩ := wrap_u64_some ((un : Int) * 128)
          have hun2 : i + 1 < 10 → un2 = 2 ^ (7 * (i + 1)) := fun h => by
            have h1 : un * 128 = 2 ^ (7 * (i + 1)) := by rw [hu, show 7 * (i + 1) = 7 * i + 7 by omega, Nat.pow_add]
            have h2 : 2 ^ (7 * (i + 1)) ≤ 2 ^ 63 := Nat.pow_le_pow_right (by omega) (by omega)
            rw [show (un : Int) * 128 = ((un * 128 : Nat) : Int) by simp, wrap_u64_nat (by omega)] at e3
            omega
          have hmlt' : m < 2 ^ (7 * (i + 1)) := by omega
          have hm' : m < 18446744073709551616 := by omega
          have H2 := Lib.hid hun2
          have HG := Lib.hid hgo
          have HM := Lib.hid (And.intro hmlt' hm')
          have L1 := Lib.hid l1
          clear hun2 hgo hmlt hmlt' hm' hbd hp hm hu l1 hn hn'
          by_cases i9 : i = 9
          · have hl1 : ¬ 1 < low := fun h => L1.out ⟨i9, h⟩
            have x9 : ((i : Int) == 9) = true := by simp; omega
            have xl : decide (1 < (low : Int)) = false := by simp; omega
            by_cases h128 : b.toNat < 128
            · have hw128 : decide ((b.toNat : Int) < 128) = true := by simp; omega
              by_cases hi0 : 0 < i
              · have z0 : decide (0 < i) = true := by simp; omega
                by_cases hz : b = 0
                · have z1 : ((b.toNat : Int) == 0) = true := by rw [hz]; rfl
                  have HZ := Lib.hid hz; clear hz
                  have HI := Lib.hid hi0; clear hi0
                  have H9 := Lib.hid i9; clear i9
                  go_wp2
                  go_ret2
                  rw [F0.out (by rw [HT.out, HD.out]; unfold takeU; rw [if_pos (.inr (.inr ⟨HI.out, HZ.out⟩))])]
                  exact ⟨rfl, rfl⟩
                · have z1 : ((b.toNat : Int) == 0) = false := by
                    simp
                    intro h
                    exact hz (UInt8.toNat.inj (by simpa using h))
                  have HG := Lib.hid (HG.out (by rintro (h | h | h); exact L1.out h; omega; exact hz h.2))
                  rw [if_pos h128] at HG
                  have HZ := Lib.hid hz; clear hz
                  have HI := Lib.hid hi0; clear hi0
                  have H9 := Lib.hid i9; clear i9
                  go_wp2
                  go_ret2
                  rw [F1.out m (i + 1) (by rw [HT.out, HD.out, HG.out])]
                  exact ⟨by go_num, rfl⟩
              · have z0 : decide (0 < i) = false := by simp; omega
                have HG := Lib.hid (HG.out (by rintro (h | h | h); exact L1.out h; omega; omega))
                rw [if_pos h128] at HG
                have HI := Lib.hid hi0; clear hi0
                have H9 := Lib.hid i9; clear i9
                go_wp2
                go_ret2
                rw [F1.out m (i + 1) (by rw [HT.out, HD.out, HG.out])]
                exact ⟨by go_num, rfl⟩
            · have hw128 : decide ((b.toNat : Int) < 128) = false := by simp; omega
              have HG := Lib.hid (HG.out (by rintro (h | h | h); exact L1.out h; omega; exact h128 (by rw [h.2]; decide)))
              rw [if_neg h128] at HG
              have H9 := Lib.hid i9; clear i9
              go_wp2
              go_roundw
              case rel => exact ⟨i + 1, m, un2, rfl, rfl, by go_num, by omega, by omega, H2.out, HM.out.1, HM.out.2, by rw [HT.out, HD.out, HG.out], by first | rfl | trivial⟩
              case measure => simp [intOf]; omega
          · skip
            have x9 : ((i : Int) == 9) = false := by simp; omega
            by_cases h128 : b.toNat < 128
            · have hw128 : decide ((b.toNat : Int) < 128) = true := by simp; omega
              by_cases hi0 : 0 < i
              · have z0 : decide (0 < i) = true := by simp; omega
                by_cases hz : b = 0
                · have z1 : ((b.toNat : Int) == 0) = true := by rw [hz]; rfl
                  have HZ := Lib.hid hz; clear hz
                  have HI := Lib.hid hi0; clear hi0
                  have H9 := Lib.hid i9; clear i9
                  go_wp2
                  go_ret2
                  rw [F0.out (by rw [HT.out, HD.out]; unfold takeU; rw [if_pos (.inr (.inr ⟨HI.out, HZ.out⟩))])]
                  exact ⟨rfl, rfl⟩
                · have z1 : ((b.toNat : Int) == 0) = false := by
                    simp
                    intro h
                    exact hz (UInt8.toNat.inj (by simpa using h))
                  have HG := Lib.hid (HG.out (by rintro (h | h | h); exact L1.out h; omega; exact hz h.2))
                  rw [if_pos h128] at HG
                  have HZ := Lib.hid hz; clear hz
                  have HI := Lib.hid hi0; clear hi0
                  have H9 := Lib.hid i9; clear i9
                  go_wp2
                  go_ret2
                  rw [F1.out m (i + 1) (by rw [HT.out, HD.out, HG.out])]
                  exact ⟨by go_num, rfl⟩
              · have z0 : decide (0 < i) = false := by simp; omega
                have HG := Lib.hid (HG.out (by rintro (h | h | h); exact L1.out h; omega; omega))
                rw [if_pos h128] at HG
                have HI := Lib.hid hi0; clear hi0
                have H9 := Lib.hid i9; clear i9
                go_wp2
                go_ret2
                rw [F1.out m (i + 1) (by rw [HT.out, HD.out, HG.out])]
                exact ⟨by go_num, rfl⟩
            · have hw128 : decide ((b.toNat : Int) < 128) = false := by simp; omega
              have HG := Lib.hid (HG.out (by rintro (h | h | h); exact L1.out h; omega; exact h128 (by rw [h.2]; decide)))
              rw [if_neg h128] at HG
              have H9 := Lib.hid i9; clear i9
              go_wp2
              go_roundw
              case rel => exact ⟨i + 1, m, un2, rfl, rfl, by go_num, by omega, by omega, H2.out, HM.out.1, HM.out.2, by rw [HT.out, HD.out, HG.out], by first | rfl | trivial⟩
              case measure => simp [intOf]; omega
      · have x10 : decide ((i : Int) < 10) = false := by simp; omega
        obtain rfl : i = 10 := by omega
        clear hun
        go_wp2
        go_ret2
        rw [F0.out (by
          rw [HT.out]
          cases hq : (bl s).drop 10 with
          | nil => rfl
          | cons b r => unfold takeU; rw [if_pos (.inr (.inl (by omega)))])]
        exact ⟨rfl, rfl⟩
    · clear hun
      go_wp2
      go_ret2
      rw [F0.out (by rw [HT.out, List.drop_eq_nil_of_le (by rw [bl_length]; omega)]; rfl)]
      exact ⟨rfl, rfl⟩
end Go.Proofs.Ythooihkkghfhkaa.My
