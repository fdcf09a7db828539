/- isoglossref09.Bytes, Same. -/
import Derived.Test.YtmglkgcogfhabaaDec4
import Derived.Test.YtmglkgcogfhabaaRText
namespace Go.Proofs.Ytmglkgcogfhabaa.My
set_option linter.unusedSimpArgs false
set_option linter.unusedVariables false
open Go.RowKit Go.Proofs.YtmglkgcogfhabaaW.PrintWords Go.Proofs.YtmglkgcogfhabaaW.PrintLast Go.Proofs.Ytmglkgcogfhabaa.Pm

theorem str_eq (a b : ByteArray) : (a.toList == b.toList) = decide (a = b) := by
  rw [tl, tl]
  by_cases h : a = b
  · subst h; simp
  · rw [decide_eq_false h]
    simpa using fun e => h (bl_ext e)
theorem str_iff (a b : ByteArray) : (a.toList = b.toList) ↔ a = b := by
  rw [tl, tl]
  exact ⟨fun e => bl_ext e, fun e => by rw [e]⟩
theorem down_wrap {k : Nat} (h0 : 0 < k) (h : k ≤ 140737488351232) : wrap64 ((k : Int) - 1) = ((k - 1 : Nat) : Int) := by
  rw [wrap64_id (by omega) (by omega)]
  omega
theorem min_int (a b : Nat) : (if (a : Int) ≤ (b : Int) then (a : Int) else (b : Int)) = ((min a b : Nat) : Int) := by split <;> omega
theorem cut_wrap {a m : Nat} (h : m ≤ a) (ha : a ≤ 140737488351232) : wrap64 ((a : Int) - (m : Int)) = ((a - m : Nat) : Int) ∧ IntKind.i64.wrap ((a : Int) - (m : Int)) = ((a - m : Nat) : Int) ∧ a - m ≤ a := by
  obtain ⟨-, -, h1, h2, h3⟩ := val_cut h ha
  exact ⟨h1, h2, h3⟩
set_option maxRecDepth 100000 in
set_option maxHeartbeats 16000000 in
theorem rbytes_any (A : Option Addr) (len cap : Nat) (ps : List VerT) (w : World) (hA : ArgVers w A len ps) (hlen : len ≤ 1000) (hsm : ∀ p ∈ ps, p.2.2.size ≤ 1000000) :
    Calls Try.prog 18 #[.slice A len cap] w fun e w' => e = .returned (.string (chainS ps)) ∧ Below w.heap.size w w' := by
  have HM := Lib.hid hsm; clear hsm
  unfold chainS
  have hpl := hA.1
  rw [hpl]
  have HA := Lib.hid hA; clear hA
  have U0 := Lib.hid (fun w => ruint_any len w (by omega))
  have hu0 := uvS_le' (n := len) (by omega)
  have e0 : IntKind.u64.wrap (len : Int) = (len : Int) := wrap_u64_nat (by omega)
  have HF := Lib.hid (show chainF ps ⟨#[]⟩ 0 (uvS len) = chainF (ps.drop 0) ⟨#[]⟩ 0 (uvS len) by rw [List.drop_zero])
  generalize chainF ps ⟨#[]⟩ 0 (uvS len) = F at *
  generalize uvS len = u0 at *
  have HB := Lib.hid (Below.refl w.heap.size w)
  have hll : len ≤ 140737488351232 := by omega
  have HPL := Lib.hid hpl; clear hpl
  go_enter Try.func18, Try.ntmps18
  go_wp2_with fail
  refine (U0.out _).mono ?_
  rintro e wq1 ⟨rfl, hb⟩
  have HB := Lib.hid (HB.out.trans (hb.mono HB.out.size)); clear hb
  go_wp2
  clear e0 U0
  go_loopw [3, 4, 5] (fun v3 v4 v5 wr => ∃ (i last : Nat) (s base : ByteArray), v3 = .string s ∧ v4 = .string base ∧ v5 = .int .i64 i ∧ i ≤ len ∧ s.size ≤ 10 + i * 1000050 ∧ base.size ≤ 1000000 ∧ last < 18446744073709551616 ∧ Hid ((i = 0 → last = 0) ∧ ∀ h : i - 1 < ps.length, 0 < i → last = ps[i - 1].1) ∧ Hid (F = chainF (ps.drop i) base last s) ∧ Below w.heap.size w wr) (fun _ _ v5 _ => len - (intOf v5).toNat)
  case atStart => exact ⟨0, 0, u0, ⟨#[]⟩, rfl, rfl, rfl, by omega, by omega, by decide, by decide, Lib.hid ⟨fun _ => rfl, fun _ h => absurd h (by omega)⟩, HF, HB.out⟩
  case round =>
    clear HF HB hu0
    obtain ⟨i, last, s, base, rfl, rfl, rfl, hi, hs, hbs, hla, HL, HF, hb⟩ := hrel
    have HB := Lib.hid hb; clear hb
    by_cases hlt : i < len
    · have hil : i ≤ 1000 := Nat.le_trans hi hlen
      have hw := succ_wrap hlt hll
      obtain ⟨b0, off, t, g, v, hj, rfl, hb0, hp, ht, hv, c0, c1, c2⟩ := (HA.out.below HB.out).get i hlt
      have hv1 := HM.out _ (List.getElem_mem hj)
      rw [hp] at hv1
      simp only at hv1
      have HF2 := Lib.hid (HF.out.trans (chainF_at ps i hj t g v hp base last s))
      have HLL := Lib.hid (And.intro hlt hv1)
      have HLN := Lib.hid (show (i + 1 = 0 → t = 0) ∧ ∀ h : i + 1 - 1 < ps.length, 0 < i + 1 → t = ps[i + 1 - 1].1 from ⟨fun h => absurd h (by omega), fun h _ => by simp only [Nat.add_sub_cancel]; rw [hp]⟩)
      have hTD := tdiff_wrap ht hla
      have ut := uvS_le' (tdiff_lt t last)
      have U1 := Lib.hid (fun w => ruint_any (tdiff t last) w (tdiff_lt t last))
      have hTE : i = 0 → tdiff t last = t := fun e => by rw [HL.out.1 e]; unfold tdiff; omega
      have HTE := Lib.hid hTE; clear hTE
      unfold verStep at HF2
      simp only at HF2
      generalize uvS (tdiff t last) = u1 at *
      obtain ⟨d, hd⟩ : ∃ d, tdiff t last = d := ⟨_, rfl⟩
      rw [hd] at U1 hTD HTE
      have HT := Lib.hid (And.intro ht hla)
      have hgl : b0 < wr.heap.size := hb0
      clear hv hj hp hla hb0 HF hd
      have hst : s.size + u1.size ≤ 140737488355328 := (cz1 hs hil ut).2.2
      by_cases hi0 : 0 < i
      · have xi : decide (0 < (i : Int)) = true := by simp; omega
        have xin : decide (0 < i) = true := by simp; omega
        obtain ⟨k, hk⟩ : ∃ k, i - 1 = k := ⟨_, rfl⟩
        have hpw := pred_wrap hi0 hlt hll
        rw [hk] at hpw
        have hpw2 : IntKind.i64.wrap ((i : Int) - 1) = (k : Int) := (i64_w _).trans hpw
        have hkl : k < len := by omega
        obtain ⟨b1, off1, t1, g1, v1, hj1, e1, hb1, hp1, ht1, hv1, d0, d1, d2⟩ := (HA.out.below HB.out).get k hkl
        cases e1
        have hlast : last = t1 := by
          rw [HL.out.2 (by rw [HPL.out]; omega) hi0]
          simp only [hk]
          rw [hp1]
        subst hlast
        clear hk hp1 hb1 hv1 d1 d2 ht1 hj1 hi0 HTE HL
        go_wp2_with fail
        refine (U1.out _).mono ?_
        rintro e w2 ⟨rfl, hb⟩
        have HB2 := Lib.hid (HB.out.trans (hb.mono HB.out.size))
        have k0 := (hb.cell (p := ⟨b0, off + i * 3, none⟩) hgl).trans c0
        have k1 := (hb.cell (p := ⟨b0, off + i * 3 + 1, none⟩) hgl).trans c1
        have k2 := (hb.cell (p := ⟨b0, off + i * 3 + 2, none⟩) hgl).trans c2
        clear hb HB c0 c1 c2 d0 xi xin hpw hpw2
        have HB := HB2
        clear HB2 U1 hTD
        obtain ⟨s1, hs1⟩ : ∃ s1, s ++ u1 = s1 := ⟨_, rfl⟩
        have hs1s : s1.size = s.size + u1.size := by rw [← hs1, ByteArray.size_append]
        rw [hs1] at HF2
        cases g with
        | true =>
          simp only [if_true] at HF2
          have hsz := cz1 hs hil ut
          have hs2 : s1.size + 1 ≤ 140737488355328 := by rw [hs1s]; exact hsz.1
          have HSZ := Lib.hid (show (s1 ++ ⟨#[1]⟩).size ≤ 10 + (i + 1) * 1000050 by rw [ByteArray.size_append, hs1s]; exact hsz.2.1)
          clear hsz
          go_wp2
          go_roundw
          case rel => exact ⟨i + 1, t, s1 ++ ⟨#[1]⟩, base, rfl, rfl, by go_num, HLL.out.1, HSZ.out, hbs, HT.out.1, HLN, HF2, HB.out⟩
          case measure => first | exact up_meas hlt hw | exact up_meas2 hlt
        | false =>
          simp only [Bool.false_eq_true, if_false] at HF2
          obtain ⟨n, hn⟩ : ∃ n, sameB base v = n := ⟨_, rfl⟩
          obtain ⟨m, hm⟩ : ∃ m, endsB (base.extract n base.size) (v.extract n v.size) = m := ⟨_, rfl⟩
          rw [hn, hm] at HF2
          have hnl := sameN_le (bl base) (bl v)
          rw [bl_length, bl_length, show sameN (bl base) (bl v) = n from hn] at hnl
          have hme := endsB_eq base v n hnl.1 hnl.2
          rw [hm] at hme
          obtain ⟨M, hM⟩ : ∃ M, min base.size v.size = M := ⟨_, rfl⟩
          rw [hM] at hme
          have hMa : M ≤ base.size := by omega
          have hMv : M ≤ v.size := by omega
          have HN := Lib.hid (fun k (h : k ≤ M) => hn ▸ first_eq (a := base) (b := v) (Nat.le_trans h hMa) (Nat.le_trans h hMv))
          have HMM := Lib.hid (fun k (h : k ≤ M) => last_eq (a := base) (b := v) (Nat.le_trans h hMa) (Nat.le_trans h hMv))
          have hnM : n ≤ M := by omega
          have hms := mid_size v n m
          have f8 : m < 18446744073709551616 := by omega
          have f9 : n < 18446744073709551616 := by omega
          have a2 := uvS_le' f9
          have a3 := uvS_le' f8
          have U2 := Lib.hid (fun w => ruint_any n w f9)
          have U3 := Lib.hid (fun w => ruint_any m w f8)
          have U4 := Lib.hid (fun w => rtext_any (midS v n m) w (Nat.le_trans hms (Nat.le_trans hv1 (by decide))))
          have a4 : (textS (midS v n m)).size ≤ v.size + 10 := Nat.le_trans (textS_le (Nat.lt_of_le_of_lt (Nat.le_trans hms hv1) (by decide))) (by omega)
          have g6 : IntKind.u64.wrap (n : Int) = (n : Int) := wrap_u64_nat f9
          have g7 : IntKind.u64.wrap (m : Int) = (m : Int) := wrap_u64_nat f8
          have hmS : ∀ k, k ≤ M - n → (k ≤ sameN (bl base).reverse (bl v).reverse ↔ k ≤ m) := fun k hk => by rw [hme]; omega
          have HMS := Lib.hid hmS; clear hmS
          have hmM : m ≤ M - n := by rw [hme]; exact Nat.min_le_right _ _
          clear hme hn hm
          generalize uvS n = u2 at *
          generalize uvS m = u3 at *
          generalize textS (midS v n m) = u4 at *
          unfold midS at U4
          have hmv : m ≤ v.size := by omega
          have hnmv : n ≤ v.size - m := by omega
          have hva : v.size ≤ 140737488351232 := Nat.le_trans hv1 (by decide)
          have hba : base.size ≤ 140737488351232 := Nat.le_trans hbs (by decide)
          obtain ⟨q1, q2, q3⟩ := cut_wrap hmv hva
          obtain ⟨hi2, hhi⟩ : ∃ hi2, v.size - m = hi2 := ⟨_, rfl⟩
          rw [hhi] at q1 q2 q3 U4 hnmv
          clear hhi
          have hsz := cz2 hs hil ut a2 a3 a4 hv1
          have HSZ := Lib.hid (show (s1 ++ (⟨#[0]⟩ ++ u2 ++ u3 ++ u4)).size ≤ 10 + (i + 1) * 1000050 by
            simp only [ByteArray.size_append, hs1s, show (⟨#[0]⟩ : ByteArray).size = 1 from rfl]; exact hsz.2.1)
          have X1 := Lib.hid (show (9223372036854775807 < 1 + u2.size) = False from cjnl hsz.2.2.2.2.2)
          have X2 := Lib.hid (show (9223372036854775807 < 1 + u2.size + u3.size) = False from cjnl hsz.2.2.2.2.1)
          have X3 := Lib.hid (show (9223372036854775807 < 1 + u2.size + u3.size + u4.size) = False from cjnl hsz.2.2.2.1)
          have X4 := Lib.hid (show (9223372036854775807 < s1.size + (1 + u2.size + u3.size + u4.size)) = False from cjnl (by rw [hs1s]; exact hsz.1))
          have Y2 := Lib.hid (show (9223372036854775807 < (⟨#[0]⟩ ++ u2).size + u3.size) = False by rw [ByteArray.size_append]; exact X2.out)
          have Y3 := Lib.hid (show (9223372036854775807 < (⟨#[0]⟩ ++ u2 ++ u3).size + u4.size) = False by rw [ByteArray.size_append, ByteArray.size_append]; exact X3.out)
          have Y4 := Lib.hid (show (9223372036854775807 < s1.size + (⟨#[0]⟩ ++ u2 ++ u3 ++ u4).size) = False by rw [ByteArray.size_append, ByteArray.size_append, ByteArray.size_append]; exact X4.out)
          have HS1 := Lib.hid hs1s
          have QQ := Lib.hid (And.intro q1 (And.intro q2 (And.intro q3 (And.intro hnmv (And.intro g6 g7)))))
          clear hsz hs1s hst q1 q2 q3 g6 g7 hmv a2 a3 a4
          obtain ⟨hMn1, -, -⟩ := cut_wrap (show n ≤ M from hnM) (show M ≤ 140737488351232 by omega)
          have HMn := Lib.hid hMn1; clear hMn1
          by_cases hvb : v.size < base.size
          · obtain rfl : v.size = M := by omega
            have hvb1 : decide ((v.size : Int) < (base.size : Int)) = true := by simp; omega
            have hvb2 : decide (v.size < base.size) = true := by simp; omega
            have hvb3 : ¬ base.size ≤ v.size := by omega
            clear hMv hMa hM
            go_wp2
            go_loopw [8] (fun v8 wr => ∃ k : Nat, v8 = .int .i64 k ∧ n ≤ k ∧ k ≤ v.size ∧ Below w.heap.size w wr) (fun v8 _ => (intOf v8).toNat)
            case atStart => exact ⟨v.size, rfl, hnM, Nat.le_refl _, HB.out⟩
            case round =>
              clear HB k0 k1 k2
              obtain ⟨k, rfl, hnk, hkM, hb⟩ := hrel
              have HB := Lib.hid hb; clear hb
              have hk1 : k ≤ base.size := by omega
              have hk2 : k ≤ v.size := by omega
              have hst := str_eq (base.extract 0 k) (v.extract 0 k)
              have hsi := str_iff (base.extract 0 k) (v.extract 0 k)
              by_cases hkn : k ≤ n
              · have h1 := (HN.out k hkM).2 hkn
                rw [decide_eq_true h1] at hst
                have hsi := hsi.2 h1
                obtain rfl : n = k := by omega
                clear h1
                have hMn := HMn.out
                rename_i hsi0
                clear hsi0 hkn
                go_wp2
                go_quiet (fail)
                have HB := Lib.hid (pw_below_drewN HB.out nq)
                go_wp2
                clear hst hsi hMn
                go_loopw [9] (fun v9 wr => ∃ k : Nat, v9 = .int .i64 k ∧ m ≤ k ∧ k ≤ v.size - n ∧ Below w.heap.size w wr) (fun v9 _ => (intOf v9).toNat)
                case atStart => exact ⟨v.size - n, by first | rfl | go_num, hmM, Nat.le_refl _, HB.out⟩
                case round =>
                  clear HB
                  obtain ⟨k, rfl, hmk, hkM', hb⟩ := hrel
                  have HB := Lib.hid hb; clear hb
                  have hk1 : k ≤ base.size := by omega
                  have hk2 : k ≤ v.size := by omega
                  have hst := str_eq (base.extract (base.size - k) base.size) (v.extract (v.size - k) v.size)
                  have hsi := str_iff (base.extract (base.size - k) base.size) (v.extract (v.size - k) v.size)
                  obtain ⟨p1, p2, p3⟩ := cut_wrap hk1 hba
                  obtain ⟨r1, r2, r3⟩ := cut_wrap hk2 hva
                  by_cases hkn : k ≤ m
                  · have h1 := (HMM.out k (by omega)).2 ((HMS.out k hkM').2 hkn)
                    rw [decide_eq_true h1] at hst
                    have hsi2 := hsi.2 h1
                    obtain rfl : m = k := by omega
                    clear h1 hsi hkn
                    obtain ⟨a1, ha1⟩ : ∃ a1, base.size - m = a1 := ⟨_, rfl⟩
                    obtain ⟨b1, hb1⟩ : ∃ b1, v.size - m = b1 := ⟨_, rfl⟩
                    rw [ha1] at p1 p2 p3 hst hsi2
                    rw [hb1] at r1 r2 r3 hst hsi2
                    clear ha1 hb1
                    go_wp2
                    go_quiet (fail)
                    have HB := Lib.hid (pw_below_drewN HB.out nq)
                    clear p1 p2 p3 r1 r2 r3 hst hsi2
                    obtain ⟨q1, q2, q3, hnmv, g6, g7⟩ := QQ.out
                    have x1 := X1.out
                    have x2 := X2.out
                    have x3 := X3.out
                    have x4 := X4.out
                    have y2 := Y2.out
                    have y3 := Y3.out
                    have y4 := Y4.out
                    go_wp2
                    refine start_ (n := 20) (S := fun w' => True) (ds := []) #[false, false, false, false, false, false, false, false, false, false, false, false, false, false, false, false, false, false, false, false] (by kernel_rfl) rfl rfl trivial (fun hHeld => ?_)
                    have HB := Lib.hid (below_drew HB.out)
                    refine pure_ (i := 0) (N := some 87) (v := ?_) (a' := ?_) #[true, false, false, false, false, false, false, false, false, false, false, false, false, false, false, false, false, false, false, false] rfl rfl (by kernel_rfl) (fun _ _ _ h => h) (Or.inl ⟨by rfl, ?_⟩) ?_ ?_
                    rotate_left
                    · intro w'
                      go_simp
                      with_reducible rfl
                    rotate_left
                    · simp only [Act.put, List.setIfInBounds_toArray, List.set_cons_zero, List.set_cons_succ, i64_w, i32_w]
                      rfl
                    refine pure_ (i := 1) (N := some 88) (v := ?_) (a' := ?_) #[true, true, false, false, false, false, false, false, false, false, false, false, false, false, false, false, false, false, false, false] rfl rfl (by kernel_rfl) (fun _ _ _ h => h) (Or.inl ⟨by rfl, ?_⟩) ?_ ?_
                    rotate_left
                    · intro w'
                      go_simp
                      with_reducible rfl
                    rotate_left
                    · simp only [Act.put, List.setIfInBounds_toArray, List.set_cons_zero, List.set_cons_succ, i64_w, i32_w]
                      rfl
                    refine pure_ (i := 2) (N := some 89) (v := ?_) (a' := ?_) #[true, true, true, false, false, false, false, false, false, false, false, false, false, false, false, false, false, false, false, false] rfl rfl (by kernel_rfl) (fun _ _ _ h => h) (Or.inl ⟨by rfl, ?_⟩) ?_ ?_
                    rotate_left
                    · intro w'
                      go_simp
                      with_reducible rfl
                    rotate_left
                    · simp only [Act.put, List.setIfInBounds_toArray, List.set_cons_zero, List.set_cons_succ, i64_w, i32_w]
                      rfl
                    refine pure_ (i := 5) (N := some 92) (v := ?_) (a' := ?_) #[true, true, true, false, false, true, false, false, false, false, false, false, false, false, false, false, false, false, false, false] rfl rfl (by kernel_rfl) (fun _ _ _ h => h) (Or.inl ⟨by rfl, ?_⟩) ?_ ?_
                    rotate_left
                    · intro w'
                      go_simp
                      with_reducible rfl
                    rotate_left
                    · simp only [Act.put, List.setIfInBounds_toArray, List.set_cons_zero, List.set_cons_succ, i64_w, i32_w]
                      rfl
                    refine pure_ (i := 6) (N := some 93) (v := ?_) (a' := ?_) #[true, true, true, false, false, true, true, false, false, false, false, false, false, false, false, false, false, false, false, false] rfl rfl (by kernel_rfl) (fun _ _ _ h => h) (Or.inl ⟨by rfl, ?_⟩) ?_ ?_
                    rotate_left
                    · intro w'
                      go_simp
                      with_reducible rfl
                    rotate_left
                    · simp only [Act.put, List.setIfInBounds_toArray, List.set_cons_zero, List.set_cons_succ, i64_w, i32_w]
                      rfl
                    refine pure_ (i := 9) (N := some 96) (v := ?_) (a' := ?_) #[true, true, true, false, false, true, true, false, false, true, false, false, false, false, false, false, false, false, false, false] rfl rfl (by kernel_rfl) (fun _ _ _ h => h) (Or.inl ⟨by rfl, ?_⟩) ?_ ?_
                    rotate_left
                    · intro w'
                      go_simp
                      with_reducible rfl
                    rotate_left
                    · simp only [Act.put, List.setIfInBounds_toArray, List.set_cons_zero, List.set_cons_succ, i64_w, i32_w]
                      rfl
                    refine pure_ (i := 10) (N := some 97) (v := ?_) (a' := ?_) #[true, true, true, false, false, true, true, false, false, true, true, false, false, false, false, false, false, false, false, false] rfl rfl (by kernel_rfl) (fun _ _ _ h => h) (Or.inl ⟨by rfl, ?_⟩) ?_ ?_
                    rotate_left
                    · intro w'
                      go_simp
                      with_reducible rfl
                    rotate_left
                    · simp only [Act.put, List.setIfInBounds_toArray, List.set_cons_zero, List.set_cons_succ, i64_w, i32_w]
                      rfl
                    refine pure_ (i := 11) (N := some 98) (v := ?_) (a' := ?_) #[true, true, true, false, false, true, true, false, false, true, true, true, false, false, false, false, false, false, false, false] rfl rfl (by kernel_rfl) (fun _ _ _ h => h) (Or.inl ⟨by rfl, ?_⟩) ?_ ?_
                    rotate_left
                    · intro w'
                      go_simp
                      with_reducible rfl
                    rotate_left
                    · simp only [Act.put, List.setIfInBounds_toArray, List.set_cons_zero, List.set_cons_succ, i64_w, i32_w]
                      rfl
                    refine pure_ (i := 12) (N := some 99) (v := ?_) (a' := ?_) #[true, true, true, false, false, true, true, false, false, true, true, true, true, false, false, false, false, false, false, false] rfl rfl (by kernel_rfl) (fun _ _ _ h => h) (Or.inl ⟨by rfl, ?_⟩) ?_ ?_
                    rotate_left
                    · intro w'
                      go_simp
                      with_reducible rfl
                    rotate_left
                    · simp only [Act.put, List.setIfInBounds_toArray, List.set_cons_zero, List.set_cons_succ, i64_w, i32_w]
                      rfl
                    refine pure_ (i := 13) (N := some 100) (v := ?_) (a' := ?_) #[true, true, true, false, false, true, true, false, false, true, true, true, true, true, false, false, false, false, false, false] rfl rfl (by kernel_rfl) (fun _ _ _ h => h) (Or.inl ⟨by rfl, ?_⟩) ?_ ?_
                    rotate_left
                    · intro w'
                      go_simp
                      with_reducible rfl
                    rotate_left
                    · simp only [Act.put, List.setIfInBounds_toArray, List.set_cons_zero, List.set_cons_succ, i64_w, i32_w]
                      rfl
                    refine pure_ (i := 14) (N := some 101) (v := ?_) (a' := ?_) #[true, true, true, false, false, true, true, false, false, true, true, true, true, true, true, false, false, false, false, false] rfl rfl (by kernel_rfl) (fun _ _ _ h => h) (Or.inl ⟨by rfl, ?_⟩) ?_ ?_
                    rotate_left
                    · intro w'
                      go_simp
                      with_reducible rfl
                    rotate_left
                    · simp only [Act.put, List.setIfInBounds_toArray, List.set_cons_zero, List.set_cons_succ, i64_w, i32_w]
                      rfl
                    refine pure_ (i := 15) (N := some 102) (v := ?_) (a' := ?_) #[true, true, true, false, false, true, true, false, false, true, true, true, true, true, true, true, false, false, false, false] rfl rfl (by kernel_rfl) (fun _ _ _ h => h) (Or.inl ⟨by rfl, ?_⟩) ?_ ?_
                    rotate_left
                    · intro w'
                      go_simp
                      with_reducible rfl
                    rotate_left
                    · simp only [Act.put, List.setIfInBounds_toArray, List.set_cons_zero, List.set_cons_succ, i64_w, i32_w]
                      rfl
                    refine one_ (i := 3) (N := some 90) #[true, true, true, true, false, true, true, false, false, true, true, true, true, true, true, true, false, false, false, false] rfl rfl (by kernel_rfl) (by decide) (fun K hK => ?_)
                    refine goes_ Try.func26 (by kernel_rfl) rfl #[.int .u64 (n : Int)] (by rfl) rfl rfl (by (try simp only [List.map_toArray, List.map_cons, List.map_nil]); first | done | rfl) ?_
                    with_reducible refine (U2.out _).mono ?_
                    rintro e w6 ⟨rfl, hb⟩
                    refine ⟨_, rfl, ?_⟩
                    have HB := Lib.hid (HB.out.trans (hb.mono HB.out.size))
                    refine hK.out _ _ trivial (fun hHeld => ?_)
                    clear hK K
                    refine norm_ (a' := ?_) ?_ ?_
                    rotate_left
                    · show Act.put _ (some 90) _ = _
                      simp only [Act.put, List.setIfInBounds_toArray, List.set_cons_zero, List.set_cons_succ, i64_w, i32_w]
                      rfl
                    refine pure_ (i := 4) (N := some 91) (v := ?_) (a' := ?_) #[true, true, true, true, true, true, true, false, false, true, true, true, true, true, true, true, false, false, false, false] rfl rfl (by kernel_rfl) (fun _ _ _ h => h) (Or.inl ⟨by rfl, ?_⟩) ?_ ?_
                    rotate_left
                    · intro w'
                      go_simp
                      with_reducible rfl
                    rotate_left
                    · simp only [Act.put, List.setIfInBounds_toArray, List.set_cons_zero, List.set_cons_succ, i64_w, i32_w]
                      rfl
                    refine one_ (i := 7) (N := some 94) #[true, true, true, true, true, true, true, true, false, true, true, true, true, true, true, true, false, false, false, false] rfl rfl (by kernel_rfl) (by decide) (fun K hK => ?_)
                    refine goes_ Try.func26 (by kernel_rfl) rfl #[.int .u64 (m : Int)] (by rfl) rfl rfl (by (try simp only [List.map_toArray, List.map_cons, List.map_nil]); first | done | rfl) ?_
                    with_reducible refine (U3.out _).mono ?_
                    rintro e w7 ⟨rfl, hb⟩
                    refine ⟨_, rfl, ?_⟩
                    have HB := Lib.hid (HB.out.trans (hb.mono HB.out.size))
                    refine hK.out _ _ trivial (fun hHeld => ?_)
                    clear hK K
                    refine norm_ (a' := ?_) ?_ ?_
                    rotate_left
                    · show Act.put _ (some 94) _ = _
                      simp only [Act.put, List.setIfInBounds_toArray, List.set_cons_zero, List.set_cons_succ, i64_w, i32_w]
                      rfl
                    refine pure_ (i := 8) (N := some 95) (v := ?_) (a' := ?_) #[true, true, true, true, true, true, true, true, true, true, true, true, true, true, true, true, false, false, false, false] rfl rfl (by kernel_rfl) (fun _ _ _ h => h) (Or.inl ⟨by rfl, ?_⟩) ?_ ?_
                    rotate_left
                    · intro w'
                      go_simp
                      with_reducible rfl
                    rotate_left
                    · simp only [Act.put, List.setIfInBounds_toArray, List.set_cons_zero, List.set_cons_succ, i64_w, i32_w]
                      rfl
                    refine one_ (i := 16) (N := some 103) #[true, true, true, true, true, true, true, true, true, true, true, true, true, true, true, true, true, false, false, false] rfl rfl (by kernel_rfl) (by decide) (fun K hK => ?_)
                    refine goes_ Try.func42 (by kernel_rfl) rfl #[.string (v.extract n hi2)] (by rfl) rfl rfl (by (try simp only [List.map_toArray, List.map_cons, List.map_nil]); first | done | rfl) ?_
                    with_reducible refine (U4.out _).mono ?_
                    rintro e w8 ⟨rfl, hb⟩
                    refine ⟨_, rfl, ?_⟩
                    have HB := Lib.hid (HB.out.trans (hb.mono HB.out.size))
                    refine hK.out _ _ trivial (fun hHeld => ?_)
                    clear hK K
                    refine norm_ (a' := ?_) ?_ ?_
                    rotate_left
                    · show Act.put _ (some 103) _ = _
                      simp only [Act.put, List.setIfInBounds_toArray, List.set_cons_zero, List.set_cons_succ, i64_w, i32_w]
                      rfl
                    refine pure_ (i := 17) (N := some 104) (v := ?_) (a' := ?_) #[true, true, true, true, true, true, true, true, true, true, true, true, true, true, true, true, true, true, false, false] rfl rfl (by kernel_rfl) (fun _ _ _ h => h) (Or.inl ⟨by rfl, ?_⟩) ?_ ?_
                    rotate_left
                    · intro w'
                      go_simp
                      with_reducible rfl
                    rotate_left
                    · simp only [Act.put, List.setIfInBounds_toArray, List.set_cons_zero, List.set_cons_succ, i64_w, i32_w]
                      rfl
                    refine pure_ (i := 18) (N := some 105) (v := ?_) (a' := ?_) #[true, true, true, true, true, true, true, true, true, true, true, true, true, true, true, true, true, true, true, false] rfl rfl (by kernel_rfl) (fun _ _ _ h => h) (Or.inl ⟨by rfl, ?_⟩) ?_ ?_
                    rotate_left
                    · intro w'
                      go_simp
                      with_reducible rfl
                    rotate_left
                    · simp only [Act.put, List.setIfInBounds_toArray, List.set_cons_zero, List.set_cons_succ, i64_w, i32_w]
                      rfl
                    refine pure_ (i := 19) (N := some 3) (v := ?_) (a' := ?_) #[true, true, true, true, true, true, true, true, true, true, true, true, true, true, true, true, true, true, true, true] rfl rfl (by kernel_rfl) (fun _ _ _ h => h) (Or.inl ⟨by rfl, ?_⟩) ?_ ?_
                    rotate_left
                    · intro w'
                      go_simp
                      with_reducible rfl
                    rotate_left
                    · simp only [Act.put, List.setIfInBounds_toArray, List.set_cons_zero, List.set_cons_succ, i64_w, i32_w]
                      rfl
                    refine done_ (by kernel_rfl) ?_
                    clear hHeld
                    go_wp2
                    go_roundw
                    case rel => exact ⟨i + 1, t, s1 ++ (⟨#[0]⟩ ++ u2 ++ u3 ++ u4), v, by first | rfl | (rw [← hs1]), rfl, by go_num, HLL.out.1, HSZ.out, hv1, HT.out.1, HLN, HF2, HB.out⟩
                    case measure => first | exact up_meas hlt hw | exact up_meas2 hlt
                  · have h1 : ¬ base.extract (base.size - k) base.size = v.extract (v.size - k) v.size := fun e => hkn ((HMS.out k hkM').1 ((HMM.out k (by omega)).1 e))
                    rw [decide_eq_false h1] at hst
                    have hsi2 : ¬ (base.extract (base.size - k) base.size).toList = (v.extract (v.size - k) v.size).toList := fun e => h1 (hsi.1 e)
                    clear h1 hsi
                    have hdw := down_wrap (k := k) (by omega) (by omega)
                    have hkm := hkn
                    obtain ⟨a1, ha1⟩ : ∃ a1, base.size - k = a1 := ⟨_, rfl⟩
                    obtain ⟨b1, hb1⟩ : ∃ b1, v.size - k = b1 := ⟨_, rfl⟩
                    rw [ha1] at p1 p2 p3 hst hsi2
                    rw [hb1] at r1 r2 r3 hst hsi2
                    clear ha1 hb1
                    go_wp2
                    go_quiet (fail)
                    have HB := Lib.hid (pw_below_drewN HB.out nq)
                    go_wp2
                    go_roundw
                    case rel => exact ⟨k - 1, by first | rfl | go_num, by omega, by omega, HB.out⟩
                    case measure => first | (rw [hdw]; simp only [intOf]; omega) | (simp only [intOf]; omega)
              · have h1 : ¬ base.extract 0 k = v.extract 0 k := fun e => hkn ((HN.out k hkM).1 e)
                rw [decide_eq_false h1] at hst
                have hsi2 : ¬ (base.extract 0 k).toList = (v.extract 0 k).toList := fun e => h1 (hsi.1 e)
                clear h1 hsi
                have hdw := down_wrap (k := k) (by omega) (by omega)
                go_wp2
                go_quiet (fail)
                have HB := Lib.hid (pw_below_drewN HB.out nq)
                go_wp2
                go_roundw
                case rel => exact ⟨k - 1, by first | rfl | go_num, by omega, by omega, HB.out⟩
                case measure => first | (rw [hdw]; simp only [intOf]; omega) | (simp only [intOf]; omega)
          · obtain rfl : base.size = M := by omega
            have hvb1 : decide ((v.size : Int) < (base.size : Int)) = false := by simp; omega
            have hvb2 : decide (v.size < base.size) = false := by simp; omega
            have hvb3 : base.size ≤ v.size := by omega
            clear hMv hMa hM
            go_wp2
            go_loopw [8] (fun v8 wr => ∃ k : Nat, v8 = .int .i64 k ∧ n ≤ k ∧ k ≤ base.size ∧ Below w.heap.size w wr) (fun v8 _ => (intOf v8).toNat)
            case atStart => exact ⟨base.size, rfl, hnM, Nat.le_refl _, HB.out⟩
            case round =>
              clear HB k0 k1 k2
              obtain ⟨k, rfl, hnk, hkM, hb⟩ := hrel
              have HB := Lib.hid hb; clear hb
              have hk1 : k ≤ base.size := by omega
              have hk2 : k ≤ v.size := by omega
              have hst := str_eq (base.extract 0 k) (v.extract 0 k)
              have hsi := str_iff (base.extract 0 k) (v.extract 0 k)
              by_cases hkn : k ≤ n
              · have h1 := (HN.out k hkM).2 hkn
                rw [decide_eq_true h1] at hst
                have hsi := hsi.2 h1
                obtain rfl : n = k := by omega
                clear h1
                have hMn := HMn.out
                rename_i hsi0
                clear hsi0 hkn
                go_wp2
                go_quiet (fail)
                have HB := Lib.hid (pw_below_drewN HB.out nq)
                go_wp2
                clear hst hsi hMn
                go_loopw [9] (fun v9 wr => ∃ k : Nat, v9 = .int .i64 k ∧ m ≤ k ∧ k ≤ base.size - n ∧ Below w.heap.size w wr) (fun v9 _ => (intOf v9).toNat)
                case atStart => exact ⟨base.size - n, by first | rfl | go_num, hmM, Nat.le_refl _, HB.out⟩
                case round =>
                  clear HB
                  obtain ⟨k, rfl, hmk, hkM', hb⟩ := hrel
                  have HB := Lib.hid hb; clear hb
                  have hk1 : k ≤ base.size := by omega
                  have hk2 : k ≤ v.size := by omega
                  have hst := str_eq (base.extract (base.size - k) base.size) (v.extract (v.size - k) v.size)
                  have hsi := str_iff (base.extract (base.size - k) base.size) (v.extract (v.size - k) v.size)
                  obtain ⟨p1, p2, p3⟩ := cut_wrap hk1 hba
                  obtain ⟨r1, r2, r3⟩ := cut_wrap hk2 hva
                  by_cases hkn : k ≤ m
                  · have h1 := (HMM.out k (by omega)).2 ((HMS.out k hkM').2 hkn)
                    rw [decide_eq_true h1] at hst
                    have hsi2 := hsi.2 h1
                    obtain rfl : m = k := by omega
                    clear h1 hsi hkn
                    obtain ⟨a1, ha1⟩ : ∃ a1, base.size - m = a1 := ⟨_, rfl⟩
                    obtain ⟨b1, hb1⟩ : ∃ b1, v.size - m = b1 := ⟨_, rfl⟩
                    rw [ha1] at p1 p2 p3 hst hsi2
                    rw [hb1] at r1 r2 r3 hst hsi2
                    clear ha1 hb1
                    go_wp2
                    go_quiet (fail)
                    have HB := Lib.hid (pw_below_drewN HB.out nq)
                    clear p1 p2 p3 r1 r2 r3 hst hsi2
                    obtain ⟨q1, q2, q3, hnmv, g6, g7⟩ := QQ.out
                    have x1 := X1.out
                    have x2 := X2.out
                    have x3 := X3.out
                    have x4 := X4.out
                    have y2 := Y2.out
                    have y3 := Y3.out
                    have y4 := Y4.out
                    go_wp2
                    refine start_ (n := 20) (S := fun w' => True) (ds := []) #[false, false, false, false, false, false, false, false, false, false, false, false, false, false, false, false, false, false, false, false] (by kernel_rfl) rfl rfl trivial (fun hHeld => ?_)
                    have HB := Lib.hid (below_drew HB.out)
                    refine pure_ (i := 0) (N := some 87) (v := ?_) (a' := ?_) #[true, false, false, false, false, false, false, false, false, false, false, false, false, false, false, false, false, false, false, false] rfl rfl (by kernel_rfl) (fun _ _ _ h => h) (Or.inl ⟨by rfl, ?_⟩) ?_ ?_
                    rotate_left
                    · intro w'
                      go_simp
                      with_reducible rfl
                    rotate_left
                    · simp only [Act.put, List.setIfInBounds_toArray, List.set_cons_zero, List.set_cons_succ, i64_w, i32_w]
                      rfl
                    refine pure_ (i := 1) (N := some 88) (v := ?_) (a' := ?_) #[true, true, false, false, false, false, false, false, false, false, false, false, false, false, false, false, false, false, false, false] rfl rfl (by kernel_rfl) (fun _ _ _ h => h) (Or.inl ⟨by rfl, ?_⟩) ?_ ?_
                    rotate_left
                    · intro w'
                      go_simp
                      with_reducible rfl
                    rotate_left
                    · simp only [Act.put, List.setIfInBounds_toArray, List.set_cons_zero, List.set_cons_succ, i64_w, i32_w]
                      rfl
                    refine pure_ (i := 2) (N := some 89) (v := ?_) (a' := ?_) #[true, true, true, false, false, false, false, false, false, false, false, false, false, false, false, false, false, false, false, false] rfl rfl (by kernel_rfl) (fun _ _ _ h => h) (Or.inl ⟨by rfl, ?_⟩) ?_ ?_
                    rotate_left
                    · intro w'
                      go_simp
                      with_reducible rfl
                    rotate_left
                    · simp only [Act.put, List.setIfInBounds_toArray, List.set_cons_zero, List.set_cons_succ, i64_w, i32_w]
                      rfl
                    refine pure_ (i := 5) (N := some 92) (v := ?_) (a' := ?_) #[true, true, true, false, false, true, false, false, false, false, false, false, false, false, false, false, false, false, false, false] rfl rfl (by kernel_rfl) (fun _ _ _ h => h) (Or.inl ⟨by rfl, ?_⟩) ?_ ?_
                    rotate_left
                    · intro w'
                      go_simp
                      with_reducible rfl
                    rotate_left
                    · simp only [Act.put, List.setIfInBounds_toArray, List.set_cons_zero, List.set_cons_succ, i64_w, i32_w]
                      rfl
                    refine pure_ (i := 6) (N := some 93) (v := ?_) (a' := ?_) #[true, true, true, false, false, true, true, false, false, false, false, false, false, false, false, false, false, false, false, false] rfl rfl (by kernel_rfl) (fun _ _ _ h => h) (Or.inl ⟨by rfl, ?_⟩) ?_ ?_
                    rotate_left
                    · intro w'
                      go_simp
                      with_reducible rfl
                    rotate_left
                    · simp only [Act.put, List.setIfInBounds_toArray, List.set_cons_zero, List.set_cons_succ, i64_w, i32_w]
                      rfl
                    refine pure_ (i := 9) (N := some 96) (v := ?_) (a' := ?_) #[true, true, true, false, false, true, true, false, false, true, false, false, false, false, false, false, false, false, false, false] rfl rfl (by kernel_rfl) (fun _ _ _ h => h) (Or.inl ⟨by rfl, ?_⟩) ?_ ?_
                    rotate_left
                    · intro w'
                      go_simp
                      with_reducible rfl
                    rotate_left
                    · simp only [Act.put, List.setIfInBounds_toArray, List.set_cons_zero, List.set_cons_succ, i64_w, i32_w]
                      rfl
                    refine pure_ (i := 10) (N := some 97) (v := ?_) (a' := ?_) #[true, true, true, false, false, true, true, false, false, true, true, false, false, false, false, false, false, false, false, false] rfl rfl (by kernel_rfl) (fun _ _ _ h => h) (Or.inl ⟨by rfl, ?_⟩) ?_ ?_
                    rotate_left
                    · intro w'
                      go_simp
                      with_reducible rfl
                    rotate_left
                    · simp only [Act.put, List.setIfInBounds_toArray, List.set_cons_zero, List.set_cons_succ, i64_w, i32_w]
                      rfl
                    refine pure_ (i := 11) (N := some 98) (v := ?_) (a' := ?_) #[true, true, true, false, false, true, true, false, false, true, true, true, false, false, false, false, false, false, false, false] rfl rfl (by kernel_rfl) (fun _ _ _ h => h) (Or.inl ⟨by rfl, ?_⟩) ?_ ?_
                    rotate_left
                    · intro w'
                      go_simp
                      with_reducible rfl
                    rotate_left
                    · simp only [Act.put, List.setIfInBounds_toArray, List.set_cons_zero, List.set_cons_succ, i64_w, i32_w]
                      rfl
                    refine pure_ (i := 12) (N := some 99) (v := ?_) (a' := ?_) #[true, true, true, false, false, true, true, false, false, true, true, true, true, false, false, false, false, false, false, false] rfl rfl (by kernel_rfl) (fun _ _ _ h => h) (Or.inl ⟨by rfl, ?_⟩) ?_ ?_
                    rotate_left
                    · intro w'
                      go_simp
                      with_reducible rfl
                    rotate_left
                    · simp only [Act.put, List.setIfInBounds_toArray, List.set_cons_zero, List.set_cons_succ, i64_w, i32_w]
                      rfl
                    refine pure_ (i := 13) (N := some 100) (v := ?_) (a' := ?_) #[true, true, true, false, false, true, true, false, false, true, true, true, true, true, false, false, false, false, false, false] rfl rfl (by kernel_rfl) (fun _ _ _ h => h) (Or.inl ⟨by rfl, ?_⟩) ?_ ?_
                    rotate_left
                    · intro w'
                      go_simp
                      with_reducible rfl
                    rotate_left
                    · simp only [Act.put, List.setIfInBounds_toArray, List.set_cons_zero, List.set_cons_succ, i64_w, i32_w]
                      rfl
                    refine pure_ (i := 14) (N := some 101) (v := ?_) (a' := ?_) #[true, true, true, false, false, true, true, false, false, true, true, true, true, true, true, false, false, false, false, false] rfl rfl (by kernel_rfl) (fun _ _ _ h => h) (Or.inl ⟨by rfl, ?_⟩) ?_ ?_
                    rotate_left
                    · intro w'
                      go_simp
                      with_reducible rfl
                    rotate_left
                    · simp only [Act.put, List.setIfInBounds_toArray, List.set_cons_zero, List.set_cons_succ, i64_w, i32_w]
                      rfl
                    refine pure_ (i := 15) (N := some 102) (v := ?_) (a' := ?_) #[true, true, true, false, false, true, true, false, false, true, true, true, true, true, true, true, false, false, false, false] rfl rfl (by kernel_rfl) (fun _ _ _ h => h) (Or.inl ⟨by rfl, ?_⟩) ?_ ?_
                    rotate_left
                    · intro w'
                      go_simp
                      with_reducible rfl
                    rotate_left
                    · simp only [Act.put, List.setIfInBounds_toArray, List.set_cons_zero, List.set_cons_succ, i64_w, i32_w]
                      rfl
                    refine one_ (i := 3) (N := some 90) #[true, true, true, true, false, true, true, false, false, true, true, true, true, true, true, true, false, false, false, false] rfl rfl (by kernel_rfl) (by decide) (fun K hK => ?_)
                    refine goes_ Try.func26 (by kernel_rfl) rfl #[.int .u64 (n : Int)] (by rfl) rfl rfl (by (try simp only [List.map_toArray, List.map_cons, List.map_nil]); first | done | rfl) ?_
                    with_reducible refine (U2.out _).mono ?_
                    rintro e w6 ⟨rfl, hb⟩
                    refine ⟨_, rfl, ?_⟩
                    have HB := Lib.hid (HB.out.trans (hb.mono HB.out.size))
                    refine hK.out _ _ trivial (fun hHeld => ?_)
                    clear hK K
                    refine norm_ (a' := ?_) ?_ ?_
                    rotate_left
                    · show Act.put _ (some 90) _ = _
                      simp only [Act.put, List.setIfInBounds_toArray, List.set_cons_zero, List.set_cons_succ, i64_w, i32_w]
                      rfl
                    refine pure_ (i := 4) (N := some 91) (v := ?_) (a' := ?_) #[true, true, true, true, true, true, true, false, false, true, true, true, true, true, true, true, false, false, false, false] rfl rfl (by kernel_rfl) (fun _ _ _ h => h) (Or.inl ⟨by rfl, ?_⟩) ?_ ?_
                    rotate_left
                    · intro w'
                      go_simp
                      with_reducible rfl
                    rotate_left
                    · simp only [Act.put, List.setIfInBounds_toArray, List.set_cons_zero, List.set_cons_succ, i64_w, i32_w]
                      rfl
                    refine one_ (i := 7) (N := some 94) #[true, true, true, true, true, true, true, true, false, true, true, true, true, true, true, true, false, false, false, false] rfl rfl (by kernel_rfl) (by decide) (fun K hK => ?_)
                    refine goes_ Try.func26 (by kernel_rfl) rfl #[.int .u64 (m : Int)] (by rfl) rfl rfl (by (try simp only [List.map_toArray, List.map_cons, List.map_nil]); first | done | rfl) ?_
                    with_reducible refine (U3.out _).mono ?_
                    rintro e w7 ⟨rfl, hb⟩
                    refine ⟨_, rfl, ?_⟩
                    have HB := Lib.hid (HB.out.trans (hb.mono HB.out.size))
                    refine hK.out _ _ trivial (fun hHeld => ?_)
                    clear hK K
                    refine norm_ (a' := ?_) ?_ ?_
                    rotate_left
                    · show Act.put _ (some 94) _ = _
                      simp only [Act.put, List.setIfInBounds_toArray, List.set_cons_zero, List.set_cons_succ, i64_w, i32_w]
                      rfl
                    refine pure_ (i := 8) (N := some 95) (v := ?_) (a' := ?_) #[true, true, true, true, true, true, true, true, true, true, true, true, true, true, true, true, false, false, false, false] rfl rfl (by kernel_rfl) (fun _ _ _ h => h) (Or.inl ⟨by rfl, ?_⟩) ?_ ?_
                    rotate_left
                    · intro w'
                      go_simp
                      with_reducible rfl
                    rotate_left
                    · simp only [Act.put, List.setIfInBounds_toArray, List.set_cons_zero, List.set_cons_succ, i64_w, i32_w]
                      rfl
                    refine one_ (i := 16) (N := some 103) #[true, true, true, true, true, true, true, true, true, true, true, true, true, true, true, true, true, false, false, false] rfl rfl (by kernel_rfl) (by decide) (fun K hK => ?_)
                    refine goes_ Try.func42 (by kernel_rfl) rfl #[.string (v.extract n hi2)] (by rfl) rfl rfl (by (try simp only [List.map_toArray, List.map_cons, List.map_nil]); first | done | rfl) ?_
                    with_reducible refine (U4.out _).mono ?_
                    rintro e w8 ⟨rfl, hb⟩
                    refine ⟨_, rfl, ?_⟩
                    have HB := Lib.hid (HB.out.trans (hb.mono HB.out.size))
                    refine hK.out _ _ trivial (fun hHeld => ?_)
                    clear hK K
                    refine norm_ (a' := ?_) ?_ ?_
                    rotate_left
                    · show Act.put _ (some 103) _ = _
                      simp only [Act.put, List.setIfInBounds_toArray, List.set_cons_zero, List.set_cons_succ, i64_w, i32_w]
                      rfl
                    refine pure_ (i := 17) (N := some 104) (v := ?_) (a' := ?_) #[true, true, true, true, true, true, true, true, true, true, true, true, true, true, true, true, true, true, false, false] rfl rfl (by kernel_rfl) (fun _ _ _ h => h) (Or.inl ⟨by rfl, ?_⟩) ?_ ?_
                    rotate_left
                    · intro w'
                      go_simp
                      with_reducible rfl
                    rotate_left
                    · simp only [Act.put, List.setIfInBounds_toArray, List.set_cons_zero, List.set_cons_succ, i64_w, i32_w]
                      rfl
                    refine pure_ (i := 18) (N := some 105) (v := ?_) (a' := ?_) #[true, true, true, true, true, true, true, true, true, true, true, true, true, true, true, true, true, true, true, false] rfl rfl (by kernel_rfl) (fun _ _ _ h => h) (Or.inl ⟨by rfl, ?_⟩) ?_ ?_
                    rotate_left
                    · intro w'
                      go_simp
                      with_reducible rfl
                    rotate_left
                    · simp only [Act.put, List.setIfInBounds_toArray, List.set_cons_zero, List.set_cons_succ, i64_w, i32_w]
                      rfl
                    refine pure_ (i := 19) (N := some 3) (v := ?_) (a' := ?_) #[true, true, true, true, true, true, true, true, true, true, true, true, true, true, true, true, true, true, true, true] rfl rfl (by kernel_rfl) (fun _ _ _ h => h) (Or.inl ⟨by rfl, ?_⟩) ?_ ?_
                    rotate_left
                    · intro w'
                      go_simp
                      with_reducible rfl
                    rotate_left
                    · simp only [Act.put, List.setIfInBounds_toArray, List.set_cons_zero, List.set_cons_succ, i64_w, i32_w]
                      rfl
                    refine done_ (by kernel_rfl) ?_
                    clear hHeld
                    go_wp2
                    go_roundw
                    case rel => exact ⟨i + 1, t, s1 ++ (⟨#[0]⟩ ++ u2 ++ u3 ++ u4), v, by first | rfl | (rw [← hs1]), rfl, by go_num, HLL.out.1, HSZ.out, hv1, HT.out.1, HLN, HF2, HB.out⟩
                    case measure => first | exact up_meas hlt hw | exact up_meas2 hlt
                  · have h1 : ¬ base.extract (base.size - k) base.size = v.extract (v.size - k) v.size := fun e => hkn ((HMS.out k hkM').1 ((HMM.out k (by omega)).1 e))
                    rw [decide_eq_false h1] at hst
                    have hsi2 : ¬ (base.extract (base.size - k) base.size).toList = (v.extract (v.size - k) v.size).toList := fun e => h1 (hsi.1 e)
                    clear h1 hsi
                    have hdw := down_wrap (k := k) (by omega) (by omega)
                    have hkm := hkn
                    obtain ⟨a1, ha1⟩ : ∃ a1, base.size - k = a1 := ⟨_, rfl⟩
                    obtain ⟨b1, hb1⟩ : ∃ b1, v.size - k = b1 := ⟨_, rfl⟩
                    rw [ha1] at p1 p2 p3 hst hsi2
                    rw [hb1] at r1 r2 r3 hst hsi2
                    clear ha1 hb1
                    go_wp2
                    go_quiet (fail)
                    have HB := Lib.hid (pw_below_drewN HB.out nq)
                    go_wp2
                    go_roundw
                    case rel => exact ⟨k - 1, by first | rfl | go_num, by omega, by omega, HB.out⟩
                    case measure => first | (rw [hdw]; simp only [intOf]; omega) | (simp only [intOf]; omega)
              · have h1 : ¬ base.extract 0 k = v.extract 0 k := fun e => hkn ((HN.out k hkM).1 e)
                rw [decide_eq_false h1] at hst
                have hsi2 : ¬ (base.extract 0 k).toList = (v.extract 0 k).toList := fun e => h1 (hsi.1 e)
                clear h1 hsi
                have hdw := down_wrap (k := k) (by omega) (by omega)
                go_wp2
                go_quiet (fail)
                have HB := Lib.hid (pw_below_drewN HB.out nq)
                go_wp2
                go_roundw
                case rel => exact ⟨k - 1, by first | rfl | go_num, by omega, by omega, HB.out⟩
                case measure => first | (rw [hdw]; simp only [intOf]; omega) | (simp only [intOf]; omega)
      · have xi : decide (0 < (i : Int)) = false := by simp; omega
        have xin : decide (0 < i) = false := by simp; omega
        obtain rfl : t = d := (HTE.out (by omega)).symm
        clear hi0 HTE HL
        go_wp2_with fail
        refine (U1.out _).mono ?_
        rintro e w2 ⟨rfl, hb⟩
        have HB2 := Lib.hid (HB.out.trans (hb.mono HB.out.size))
        have k0 := (hb.cell (p := ⟨b0, off + i * 3, none⟩) hgl).trans c0
        have k1 := (hb.cell (p := ⟨b0, off + i * 3 + 1, none⟩) hgl).trans c1
        have k2 := (hb.cell (p := ⟨b0, off + i * 3 + 2, none⟩) hgl).trans c2
        clear hb HB c0 c1 c2 xi xin
        have HB := HB2
        clear HB2 U1 hTD
        obtain ⟨s1, hs1⟩ : ∃ s1, s ++ u1 = s1 := ⟨_, rfl⟩
        have hs1s : s1.size = s.size + u1.size := by rw [← hs1, ByteArray.size_append]
        rw [hs1] at HF2
        cases g with
        | true =>
          simp only [if_true] at HF2
          have hsz := cz1 hs hil ut
          have hs2 : s1.size + 1 ≤ 140737488355328 := by rw [hs1s]; exact hsz.1
          have HSZ := Lib.hid (show (s1 ++ ⟨#[1]⟩).size ≤ 10 + (i + 1) * 1000050 by rw [ByteArray.size_append, hs1s]; exact hsz.2.1)
          clear hsz
          go_wp2
          go_roundw
          case rel => exact ⟨i + 1, t, s1 ++ ⟨#[1]⟩, base, rfl, rfl, by go_num, HLL.out.1, HSZ.out, hbs, HT.out.1, HLN, HF2, HB.out⟩
          case measure => first | exact up_meas hlt hw | exact up_meas2 hlt
        | false =>
          simp only [Bool.false_eq_true, if_false] at HF2
          obtain ⟨n, hn⟩ : ∃ n, sameB base v = n := ⟨_, rfl⟩
          obtain ⟨m, hm⟩ : ∃ m, endsB (base.extract n base.size) (v.extract n v.size) = m := ⟨_, rfl⟩
          rw [hn, hm] at HF2
          have hnl := sameN_le (bl base) (bl v)
          rw [bl_length, bl_length, show sameN (bl base) (bl v) = n from hn] at hnl
          have hme := endsB_eq base v n hnl.1 hnl.2
          rw [hm] at hme
          obtain ⟨M, hM⟩ : ∃ M, min base.size v.size = M := ⟨_, rfl⟩
          rw [hM] at hme
          have hMa : M ≤ base.size := by omega
          have hMv : M ≤ v.size := by omega
          have HN := Lib.hid (fun k (h : k ≤ M) => hn ▸ first_eq (a := base) (b := v) (Nat.le_trans h hMa) (Nat.le_trans h hMv))
          have HMM := Lib.hid (fun k (h : k ≤ M) => last_eq (a := base) (b := v) (Nat.le_trans h hMa) (Nat.le_trans h hMv))
          have hnM : n ≤ M := by omega
          have hms := mid_size v n m
          have f8 : m < 18446744073709551616 := by omega
          have f9 : n < 18446744073709551616 := by omega
          have a2 := uvS_le' f9
          have a3 := uvS_le' f8
          have U2 := Lib.hid (fun w => ruint_any n w f9)
          have U3 := Lib.hid (fun w => ruint_any m w f8)
          have U4 := Lib.hid (fun w => rtext_any (midS v n m) w (Nat.le_trans hms (Nat.le_trans hv1 (by decide))))
          have a4 : (textS (midS v n m)).size ≤ v.size + 10 := Nat.le_trans (textS_le (Nat.lt_of_le_of_lt (Nat.le_trans hms hv1) (by decide))) (by omega)
          have g6 : IntKind.u64.wrap (n : Int) = (n : Int) := wrap_u64_nat f9
          have g7 : IntKind.u64.wrap (m : Int) = (m : Int) := wrap_u64_nat f8
          have hmS : ∀ k, k ≤ M - n → (k ≤ sameN (bl base).reverse (bl v).reverse ↔ k ≤ m) := fun k hk => by rw [hme]; omega
          have HMS := Lib.hid hmS; clear hmS
          have hmM : m ≤ M - n := by rw [hme]; exact Nat.min_le_right _ _
          clear hme hn hm
          generalize uvS n = u2 at *
          generalize uvS m = u3 at *
          generalize textS (midS v n m) = u4 at *
          unfold midS at U4
          have hmv : m ≤ v.size := by omega
          have hnmv : n ≤ v.size - m := by omega
          have hva : v.size ≤ 140737488351232 := Nat.le_trans hv1 (by decide)
          have hba : base.size ≤ 140737488351232 := Nat.le_trans hbs (by decide)
          obtain ⟨q1, q2, q3⟩ := cut_wrap hmv hva
          obtain ⟨hi2, hhi⟩ : ∃ hi2, v.size - m = hi2 := ⟨_, rfl⟩
          rw [hhi] at q1 q2 q3 U4 hnmv
          clear hhi
          have hsz := cz2 hs hil ut a2 a3 a4 hv1
          have HSZ := Lib.hid (show (s1 ++ (⟨#[0]⟩ ++ u2 ++ u3 ++ u4)).size ≤ 10 + (i + 1) * 1000050 by
            simp only [ByteArray.size_append, hs1s, show (⟨#[0]⟩ : ByteArray).size = 1 from rfl]; exact hsz.2.1)
          have X1 := Lib.hid (show (9223372036854775807 < 1 + u2.size) = False from cjnl hsz.2.2.2.2.2)
          have X2 := Lib.hid (show (9223372036854775807 < 1 + u2.size + u3.size) = False from cjnl hsz.2.2.2.2.1)
          have X3 := Lib.hid (show (9223372036854775807 < 1 + u2.size + u3.size + u4.size) = False from cjnl hsz.2.2.2.1)
          have X4 := Lib.hid (show (9223372036854775807 < s1.size + (1 + u2.size + u3.size + u4.size)) = False from cjnl (by rw [hs1s]; exact hsz.1))
          have Y2 := Lib.hid (show (9223372036854775807 < (⟨#[0]⟩ ++ u2).size + u3.size) = False by rw [ByteArray.size_append]; exact X2.out)
          have Y3 := Lib.hid (show (9223372036854775807 < (⟨#[0]⟩ ++ u2 ++ u3).size + u4.size) = False by rw [ByteArray.size_append, ByteArray.size_append]; exact X3.out)
          have Y4 := Lib.hid (show (9223372036854775807 < s1.size + (⟨#[0]⟩ ++ u2 ++ u3 ++ u4).size) = False by rw [ByteArray.size_append, ByteArray.size_append, ByteArray.size_append]; exact X4.out)
          have HS1 := Lib.hid hs1s
          have QQ := Lib.hid (And.intro q1 (And.intro q2 (And.intro q3 (And.intro hnmv (And.intro g6 g7)))))
          clear hsz hs1s hst q1 q2 q3 g6 g7 hmv a2 a3 a4
          obtain ⟨hMn1, -, -⟩ := cut_wrap (show n ≤ M from hnM) (show M ≤ 140737488351232 by omega)
          have HMn := Lib.hid hMn1; clear hMn1
          by_cases hvb : v.size < base.size
          · obtain rfl : v.size = M := by omega
            have hvb1 : decide ((v.size : Int) < (base.size : Int)) = true := by simp; omega
            have hvb2 : decide (v.size < base.size) = true := by simp; omega
            have hvb3 : ¬ base.size ≤ v.size := by omega
            clear hMv hMa hM
            go_wp2
            go_loopw [8] (fun v8 wr => ∃ k : Nat, v8 = .int .i64 k ∧ n ≤ k ∧ k ≤ v.size ∧ Below w.heap.size w wr) (fun v8 _ => (intOf v8).toNat)
            case atStart => exact ⟨v.size, rfl, hnM, Nat.le_refl _, HB.out⟩
            case round =>
              clear HB k0 k1 k2
              obtain ⟨k, rfl, hnk, hkM, hb⟩ := hrel
              have HB := Lib.hid hb; clear hb
              have hk1 : k ≤ base.size := by omega
              have hk2 : k ≤ v.size := by omega
              have hst := str_eq (base.extract 0 k) (v.extract 0 k)
              have hsi := str_iff (base.extract 0 k) (v.extract 0 k)
              by_cases hkn : k ≤ n
              · have h1 := (HN.out k hkM).2 hkn
                rw [decide_eq_true h1] at hst
                have hsi := hsi.2 h1
                obtain rfl : n = k := by omega
                clear h1
                have hMn := HMn.out
                rename_i hsi0
                clear hsi0 hkn
                go_wp2
                go_quiet (fail)
                have HB := Lib.hid (pw_below_drewN HB.out nq)
                go_wp2
                clear hst hsi hMn
                go_loopw [9] (fun v9 wr => ∃ k : Nat, v9 = .int .i64 k ∧ m ≤ k ∧ k ≤ v.size - n ∧ Below w.heap.size w wr) (fun v9 _ => (intOf v9).toNat)
                case atStart => exact ⟨v.size - n, by first | rfl | go_num, hmM, Nat.le_refl _, HB.out⟩
                case round =>
                  clear HB
                  obtain ⟨k, rfl, hmk, hkM', hb⟩ := hrel
                  have HB := Lib.hid hb; clear hb
                  have hk1 : k ≤ base.size := by omega
                  have hk2 : k ≤ v.size := by omega
                  have hst := str_eq (base.extract (base.size - k) base.size) (v.extract (v.size - k) v.size)
                  have hsi := str_iff (base.extract (base.size - k) base.size) (v.extract (v.size - k) v.size)
                  obtain ⟨p1, p2, p3⟩ := cut_wrap hk1 hba
                  obtain ⟨r1, r2, r3⟩ := cut_wrap hk2 hva
                  by_cases hkn : k ≤ m
                  · have h1 := (HMM.out k (by omega)).2 ((HMS.out k hkM').2 hkn)
                    rw [decide_eq_true h1] at hst
                    have hsi2 := hsi.2 h1
                    obtain rfl : m = k := by omega
                    clear h1 hsi hkn
                    obtain ⟨a1, ha1⟩ : ∃ a1, base.size - m = a1 := ⟨_, rfl⟩
                    obtain ⟨b1, hb1⟩ : ∃ b1, v.size - m = b1 := ⟨_, rfl⟩
                    rw [ha1] at p1 p2 p3 hst hsi2
                    rw [hb1] at r1 r2 r3 hst hsi2
                    clear ha1 hb1
                    go_wp2
                    go_quiet (fail)
                    have HB := Lib.hid (pw_below_drewN HB.out nq)
                    clear p1 p2 p3 r1 r2 r3 hst hsi2
                    obtain ⟨q1, q2, q3, hnmv, g6, g7⟩ := QQ.out
                    have x1 := X1.out
                    have x2 := X2.out
                    have x3 := X3.out
                    have x4 := X4.out
                    have y2 := Y2.out
                    have y3 := Y3.out
                    have y4 := Y4.out
                    go_wp2
                    refine start_ (n := 20) (S := fun w' => True) (ds := []) #[false, false, false, false, false, false, false, false, false, false, false, false, false, false, false, false, false, false, false, false] (by kernel_rfl) rfl rfl trivial (fun hHeld => ?_)
                    have HB := Lib.hid (below_drew HB.out)
                    refine pure_ (i := 0) (N := some 87) (v := ?_) (a' := ?_) #[true, false, false, false, false, false, false, false, false, false, false, false, false, false, false, false, false, false, false, false] rfl rfl (by kernel_rfl) (fun _ _ _ h => h) (Or.inl ⟨by rfl, ?_⟩) ?_ ?_
                    rotate_left
                    · intro w'
                      go_simp
                      with_reducible rfl
                    rotate_left
                    · simp only [Act.put, List.setIfInBounds_toArray, List.set_cons_zero, List.set_cons_succ, i64_w, i32_w]
                      rfl
                    refine pure_ (i := 1) (N := some 88) (v := ?_) (a' := ?_) #[true, true, false, false, false, false, false, false, false, false, false, false, false, false, false, false, false, false, false, false] rfl rfl (by kernel_rfl) (fun _ _ _ h => h) (Or.inl ⟨by rfl, ?_⟩) ?_ ?_
                    rotate_left
                    · intro w'
                      go_simp
                      with_reducible rfl
                    rotate_left
                    · simp only [Act.put, List.setIfInBounds_toArray, List.set_cons_zero, List.set_cons_succ, i64_w, i32_w]
                      rfl
                    refine pure_ (i := 2) (N := some 89) (v := ?_) (a' := ?_) #[true, true, true, false, false, false, false, false, false, false, false, false, false, false, false, false, false, false, false, false] rfl rfl (by kernel_rfl) (fun _ _ _ h => h) (Or.inl ⟨by rfl, ?_⟩) ?_ ?_
                    rotate_left
                    · intro w'
                      go_simp
                      with_reducible rfl
                    rotate_left
                    · simp only [Act.put, List.setIfInBounds_toArray, List.set_cons_zero, List.set_cons_succ, i64_w, i32_w]
                      rfl
                    refine pure_ (i := 5) (N := some 92) (v := ?_) (a' := ?_) #[true, true, true, false, false, true, false, false, false, false, false, false, false, false, false, false, false, false, false, false] rfl rfl (by kernel_rfl) (fun _ _ _ h => h) (Or.inl ⟨by rfl, ?_⟩) ?_ ?_
                    rotate_left
                    · intro w'
                      go_simp
                      with_reducible rfl
                    rotate_left
                    · simp only [Act.put, List.setIfInBounds_toArray, List.set_cons_zero, List.set_cons_succ, i64_w, i32_w]
                      rfl
                    refine pure_ (i := 6) (N := some 93) (v := ?_) (a' := ?_) #[true, true, true, false, false, true, true, false, false, false, false, false, false, false, false, false, false, false, false, false] rfl rfl (by kernel_rfl) (fun _ _ _ h => h) (Or.inl ⟨by rfl, ?_⟩) ?_ ?_
                    rotate_left
                    · intro w'
                      go_simp
                      with_reducible rfl
                    rotate_left
                    · simp only [Act.put, List.setIfInBounds_toArray, List.set_cons_zero, List.set_cons_succ, i64_w, i32_w]
                      rfl
                    refine pure_ (i := 9) (N := some 96) (v := ?_) (a' := ?_) #[true, true, true, false, false, true, true, false, false, true, false, false, false, false, false, false, false, false, false, false] rfl rfl (by kernel_rfl) (fun _ _ _ h => h) (Or.inl ⟨by rfl, ?_⟩) ?_ ?_
                    rotate_left
                    · intro w'
                      go_simp
                      with_reducible rfl
                    rotate_left
                    · simp only [Act.put, List.setIfInBounds_toArray, List.set_cons_zero, List.set_cons_succ, i64_w, i32_w]
                      rfl
                    refine pure_ (i := 10) (N := some 97) (v := ?_) (a' := ?_) #[true, true, true, false, false, true, true, false, false, true, true, false, false, false, false, false, false, false, false, false] rfl rfl (by kernel_rfl) (fun _ _ _ h => h) (Or.inl ⟨by rfl, ?_⟩) ?_ ?_
                    rotate_left
                    · intro w'
                      go_simp
                      with_reducible rfl
                    rotate_left
                    · simp only [Act.put, List.setIfInBounds_toArray, List.set_cons_zero, List.set_cons_succ, i64_w, i32_w]
                      rfl
                    refine pure_ (i := 11) (N := some 98) (v := ?_) (a' := ?_) #[true, true, true, false, false, true, true, false, false, true, true, true, false, false, false, false, false, false, false, false] rfl rfl (by kernel_rfl) (fun _ _ _ h => h) (Or.inl ⟨by rfl, ?_⟩) ?_ ?_
                    rotate_left
                    · intro w'
                      go_simp
                      with_reducible rfl
                    rotate_left
                    · simp only [Act.put, List.setIfInBounds_toArray, List.set_cons_zero, List.set_cons_succ, i64_w, i32_w]
                      rfl
                    refine pure_ (i := 12) (N := some 99) (v := ?_) (a' := ?_) #[true, true, true, false, false, true, true, false, false, true, true, true, true, false, false, false, false, false, false, false] rfl rfl (by kernel_rfl) (fun _ _ _ h => h) (Or.inl ⟨by rfl, ?_⟩) ?_ ?_
                    rotate_left
                    · intro w'
                      go_simp
                      with_reducible rfl
                    rotate_left
                    · simp only [Act.put, List.setIfInBounds_toArray, List.set_cons_zero, List.set_cons_succ, i64_w, i32_w]
                      rfl
                    refine pure_ (i := 13) (N := some 100) (v := ?_) (a' := ?_) #[true, true, true, false, false, true, true, false, false, true, true, true, true, true, false, false, false, false, false, false] rfl rfl (by kernel_rfl) (fun _ _ _ h => h) (Or.inl ⟨by rfl, ?_⟩) ?_ ?_
                    rotate_left
                    · intro w'
                      go_simp
                      with_reducible rfl
                    rotate_left
                    · simp only [Act.put, List.setIfInBounds_toArray, List.set_cons_zero, List.set_cons_succ, i64_w, i32_w]
                      rfl
                    refine pure_ (i := 14) (N := some 101) (v := ?_) (a' := ?_) #[true, true, true, false, false, true, true, false, false, true, true, true, true, true, true, false, false, false, false, false] rfl rfl (by kernel_rfl) (fun _ _ _ h => h) (Or.inl ⟨by rfl, ?_⟩) ?_ ?_
                    rotate_left
                    · intro w'
                      go_simp
                      with_reducible rfl
                    rotate_left
                    · simp only [Act.put, List.setIfInBounds_toArray, List.set_cons_zero, List.set_cons_succ, i64_w, i32_w]
                      rfl
                    refine pure_ (i := 15) (N := some 102) (v := ?_) (a' := ?_) #[true, true, true, false, false, true, true, false, false, true, true, true, true, true, true, true, false, false, false, false] rfl rfl (by kernel_rfl) (fun _ _ _ h => h) (Or.inl ⟨by rfl, ?_⟩) ?_ ?_
                    rotate_left
                    · intro w'
                      go_simp
                      with_reducible rfl
                    rotate_left
                    · simp only [Act.put, List.setIfInBounds_toArray, List.set_cons_zero, List.set_cons_succ, i64_w, i32_w]
                      rfl
                    refine one_ (i := 3) (N := some 90) #[true, true, true, true, false, true, true, false, false, true, true, true, true, true, true, true, false, false, false, false] rfl rfl (by kernel_rfl) (by decide) (fun K hK => ?_)
                    refine goes_ Try.func26 (by kernel_rfl) rfl #[.int .u64 (n : Int)] (by rfl) rfl rfl (by (try simp only [List.map_toArray, List.map_cons, List.map_nil]); first | done | rfl) ?_
                    with_reducible refine (U2.out _).mono ?_
                    rintro e w6 ⟨rfl, hb⟩
                    refine ⟨_, rfl, ?_⟩
                    have HB := Lib.hid (HB.out.trans (hb.mono HB.out.size))
                    refine hK.out _ _ trivial (fun hHeld => ?_)
                    clear hK K
                    refine norm_ (a' := ?_) ?_ ?_
                    rotate_left
                    · show Act.put _ (some 90) _ = _
                      simp only [Act.put, List.setIfInBounds_toArray, List.set_cons_zero, List.set_cons_succ, i64_w, i32_w]
                      rfl
                    refine pure_ (i := 4) (N := some 91) (v := ?_) (a' := ?_) #[true, true, true, true, true, true, true, false, false, true, true, true, true, true, true, true, false, false, false, false] rfl rfl (by kernel_rfl) (fun _ _ _ h => h) (Or.inl ⟨by rfl, ?_⟩) ?_ ?_
                    rotate_left
                    · intro w'
                      go_simp
                      with_reducible rfl
                    rotate_left
                    · simp only [Act.put, List.setIfInBounds_toArray, List.set_cons_zero, List.set_cons_succ, i64_w, i32_w]
                      rfl
                    refine one_ (i := 7) (N := some 94) #[true, true, true, true, true, true, true, true, false, true, true, true, true, true, true, true, false, false, false, false] rfl rfl (by kernel_rfl) (by decide) (fun K hK => ?_)
                    refine goes_ Try.func26 (by kernel_rfl) rfl #[.int .u64 (m : Int)] (by rfl) rfl rfl (by (try simp only [List.map_toArray, List.map_cons, List.map_nil]); first | done | rfl) ?_
                    with_reducible refine (U3.out _).mono ?_
                    rintro e w7 ⟨rfl, hb⟩
                    refine ⟨_, rfl, ?_⟩
                    have HB := Lib.hid (HB.out.trans (hb.mono HB.out.size))
                    refine hK.out _ _ trivial (fun hHeld => ?_)
                    clear hK K
                    refine norm_ (a' := ?_) ?_ ?_
                    rotate_left
                    · show Act.put _ (some 94) _ = _
                      simp only [Act.put, List.setIfInBounds_toArray, List.set_cons_zero, List.set_cons_succ, i64_w, i32_w]
                      rfl
                    refine pure_ (i := 8) (N := some 95) (v := ?_) (a' := ?_) #[true, true, true, true, true, true, true, true, true, true, true, true, true, true, true, true, false, false, false, false] rfl rfl (by kernel_rfl) (fun _ _ _ h => h) (Or.inl ⟨by rfl, ?_⟩) ?_ ?_
                    rotate_left
                    · intro w'
                      go_simp
                      with_reducible rfl
                    rotate_left
                    · simp only [Act.put, List.setIfInBounds_toArray, List.set_cons_zero, List.set_cons_succ, i64_w, i32_w]
                      rfl
                    refine one_ (i := 16) (N := some 103) #[true, true, true, true, true, true, true, true, true, true, true, true, true, true, true, true, true, false, false, false] rfl rfl (by kernel_rfl) (by decide) (fun K hK => ?_)
                    refine goes_ Try.func42 (by kernel_rfl) rfl #[.string (v.extract n hi2)] (by rfl) rfl rfl (by (try simp only [List.map_toArray, List.map_cons, List.map_nil]); first | done | rfl) ?_
                    with_reducible refine (U4.out _).mono ?_
                    rintro e w8 ⟨rfl, hb⟩
                    refine ⟨_, rfl, ?_⟩
                    have HB := Lib.hid (HB.out.trans (hb.mono HB.out.size))
                    refine hK.out _ _ trivial (fun hHeld => ?_)
                    clear hK K
                    refine norm_ (a' := ?_) ?_ ?_
                    rotate_left
                    · show Act.put _ (some 103) _ = _
                      simp only [Act.put, List.setIfInBounds_toArray, List.set_cons_zero, List.set_cons_succ, i64_w, i32_w]
                      rfl
                    refine pure_ (i := 17) (N := some 104) (v := ?_) (a' := ?_) #[true, true, true, true, true, true, true, true, true, true, true, true, true, true, true, true, true, true, false, false] rfl rfl (by kernel_rfl) (fun _ _ _ h => h) (Or.inl ⟨by rfl, ?_⟩) ?_ ?_
                    rotate_left
                    · intro w'
                      go_simp
                      with_reducible rfl
                    rotate_left
                    · simp only [Act.put, List.setIfInBounds_toArray, List.set_cons_zero, List.set_cons_succ, i64_w, i32_w]
                      rfl
                    refine pure_ (i := 18) (N := some 105) (v := ?_) (a' := ?_) #[true, true, true, true, true, true, true, true, true, true, true, true, true, true, true, true, true, true, true, false] rfl rfl (by kernel_rfl) (fun _ _ _ h => h) (Or.inl ⟨by rfl, ?_⟩) ?_ ?_
                    rotate_left
                    · intro w'
                      go_simp
                      with_reducible rfl
                    rotate_left
                    · simp only [Act.put, List.setIfInBounds_toArray, List.set_cons_zero, List.set_cons_succ, i64_w, i32_w]
                      rfl
                    refine pure_ (i := 19) (N := some 3) (v := ?_) (a' := ?_) #[true, true, true, true, true, true, true, true, true, true, true, true, true, true, true, true, true, true, true, true] rfl rfl (by kernel_rfl) (fun _ _ _ h => h) (Or.inl ⟨by rfl, ?_⟩) ?_ ?_
                    rotate_left
                    · intro w'
                      go_simp
                      with_reducible rfl
                    rotate_left
                    · simp only [Act.put, List.setIfInBounds_toArray, List.set_cons_zero, List.set_cons_succ, i64_w, i32_w]
                      rfl
                    refine done_ (by kernel_rfl) ?_
                    clear hHeld
                    go_wp2
                    go_roundw
                    case rel => exact ⟨i + 1, t, s1 ++ (⟨#[0]⟩ ++ u2 ++ u3 ++ u4), v, by first | rfl | (rw [← hs1]), rfl, by go_num, HLL.out.1, HSZ.out, hv1, HT.out.1, HLN, HF2, HB.out⟩
                    case measure => first | exact up_meas hlt hw | exact up_meas2 hlt
                  · have h1 : ¬ base.extract (base.size - k) base.size = v.extract (v.size - k) v.size := fun e => hkn ((HMS.out k hkM').1 ((HMM.out k (by omega)).1 e))
                    rw [decide_eq_false h1] at hst
                    have hsi2 : ¬ (base.extract (base.size - k) base.size).toList = (v.extract (v.size - k) v.size).toList := fun e => h1 (hsi.1 e)
                    clear h1 hsi
                    have hdw := down_wrap (k := k) (by omega) (by omega)
                    have hkm := hkn
                    obtain ⟨a1, ha1⟩ : ∃ a1, base.size - k = a1 := ⟨_, rfl⟩
                    obtain ⟨b1, hb1⟩ : ∃ b1, v.size - k = b1 := ⟨_, rfl⟩
                    rw [ha1] at p1 p2 p3 hst hsi2
                    rw [hb1] at r1 r2 r3 hst hsi2
                    clear ha1 hb1
                    go_wp2
                    go_quiet (fail)
                    have HB := Lib.hid (pw_below_drewN HB.out nq)
                    go_wp2
                    go_roundw
                    case rel => exact ⟨k - 1, by first | rfl | go_num, by omega, by omega, HB.out⟩
                    case measure => first | (rw [hdw]; simp only [intOf]; omega) | (simp only [intOf]; omega)
              · have h1 : ¬ base.extract 0 k = v.extract 0 k := fun e => hkn ((HN.out k hkM).1 e)
                rw [decide_eq_false h1] at hst
                have hsi2 : ¬ (base.extract 0 k).toList = (v.extract 0 k).toList := fun e => h1 (hsi.1 e)
                clear h1 hsi
                have hdw := down_wrap (k := k) (by omega) (by omega)
                go_wp2
                go_quiet (fail)
                have HB := Lib.hid (pw_below_drewN HB.out nq)
                go_wp2
                go_roundw
                case rel => exact ⟨k - 1, by first | rfl | go_num, by omega, by omega, HB.out⟩
                case measure => first | (rw [hdw]; simp only [intOf]; omega) | (simp only [intOf]; omega)
          · obtain rfl : base.size = M := by omega
            have hvb1 : decide ((v.size : Int) < (base.size : Int)) = false := by simp; omega
            have hvb2 : decide (v.size < base.size) = false := by simp; omega
            have hvb3 : base.size ≤ v.size := by omega
            clear hMv hMa hM
            go_wp2
            go_loopw [8] (fun v8 wr => ∃ k : Nat, v8 = .int .i64 k ∧ n ≤ k ∧ k ≤ base.size ∧ Below w.heap.size w wr) (fun v8 _ => (intOf v8).toNat)
            case atStart => exact ⟨base.size, rfl, hnM, Nat.le_refl _, HB.out⟩
            case round =>
              clear HB k0 k1 k2
              obtain ⟨k, rfl, hnk, hkM, hb⟩ := hrel
              have HB := Lib.hid hb; clear hb
              have hk1 : k ≤ base.size := by omega
              have hk2 : k ≤ v.size := by omega
              have hst := str_eq (base.extract 0 k) (v.extract 0 k)
              have hsi := str_iff (base.extract 0 k) (v.extract 0 k)
              by_cases hkn : k ≤ n
              · have h1 := (HN.out k hkM).2 hkn
                rw [decide_eq_true h1] at hst
                have hsi := hsi.2 h1
                obtain rfl : n = k := by omega
                clear h1
                have hMn := HMn.out
                rename_i hsi0
                clear hsi0 hkn
                go_wp2
                go_quiet (fail)
                have HB := Lib.hid (pw_below_drewN HB.out nq)
                go_wp2
                clear hst hsi hMn
                go_loopw [9] (fun v9 wr => ∃ k : Nat, v9 = .int .i64 k ∧ m ≤ k ∧ k ≤ base.size - n ∧ Below w.heap.size w wr) (fun v9 _ => (intOf v9).toNat)
                case atStart => exact ⟨base.size - n, by first | rfl | go_num, hmM, Nat.le_refl _, HB.out⟩
                case round =>
                  clear HB
                  obtain ⟨k, rfl, hmk, hkM', hb⟩ := hrel
                  have HB := Lib.hid hb; clear hb
                  have hk1 : k ≤ base.size := by omega
                  have hk2 : k ≤ v.size := by omega
                  have hst := str_eq (base.extract (base.size - k) base.size) (v.extract (v.size - k) v.size)
                  have hsi := str_iff (base.extract (base.size - k) base.size) (v.extract (v.size - k) v.size)
                  obtain ⟨p1, p2, p3⟩ := cut_wrap hk1 hba
                  obtain ⟨r1, r2, r3⟩ := cut_wrap hk2 hva
                  by_cases hkn : k ≤ m
                  · have h1 := (HMM.out k (by omega)).2 ((HMS.out k hkM').2 hkn)
                    rw [decide_eq_true h1] at hst
                    have hsi2 := hsi.2 h1
                    obtain rfl : m = k := by omega
                    clear h1 hsi hkn
                    obtain ⟨a1, ha1⟩ : ∃ a1, base.size - m = a1 := ⟨_, rfl⟩
                    obtain ⟨b1, hb1⟩ : ∃ b1, v.size - m = b1 := ⟨_, rfl⟩
                    rw [ha1] at p1 p2 p3 hst hsi2
                    rw [hb1] at r1 r2 r3 hst hsi2
                    clear ha1 hb1
                    go_wp2
                    go_quiet (fail)
                    have HB := Lib.hid (pw_below_drewN HB.out nq)
                    clear p1 p2 p3 r1 r2 r3 hst hsi2
                    obtain ⟨q1, q2, q3, hnmv, g6, g7⟩ := QQ.out
                    have x1 := X1.out
                    have x2 := X2.out
                    have x3 := X3.out
                    have x4 := X4.out
                    have y2 := Y2.out
                    have y3 := Y3.out
                    have y4 := Y4.out
                    go_wp2
                    refine start_ (n := 20) (S := fun w' => True) (ds := []) #[false, false, false, false, false, false, false, false, false, false, false, false, false, false, false, false, false, false, false, false] (by kernel_rfl) rfl rfl trivial (fun hHeld => ?_)
                    have HB := Lib.hid (below_drew HB.out)
                    refine pure_ (i := 0) (N := some 87) (v := ?_) (a' := ?_) #[true, false, false, false, false, false, false, false, false, false, false, false, false, false, false, false, false, false, false, false] rfl rfl (by kernel_rfl) (fun _ _ _ h => h) (Or.inl ⟨by rfl, ?_⟩) ?_ ?_
                    rotate_left
                    · intro w'
                      go_simp
                      with_reducible rfl
                    rotate_left
                    · simp only [Act.put, List.setIfInBounds_toArray, List.set_cons_zero, List.set_cons_succ, i64_w, i32_w]
                      rfl
                    refine pure_ (i := 1) (N := some 88) (v := ?_) (a' := ?_) #[true, true, false, false, false, false, false, false, false, false, false, false, false, false, false, false, false, false, false, false] rfl rfl (by kernel_rfl) (fun _ _ _ h => h) (Or.inl ⟨by rfl, ?_⟩) ?_ ?_
                    rotate_left
                    · intro w'
                      go_simp
                      with_reducible rfl
                    rotate_left
                    · simp only [Act.put, List.setIfInBounds_toArray, List.set_cons_zero, List.set_cons_succ, i64_w, i32_w]
                      rfl
                    refine pure_ (i := 2) (N := some 89) (v := ?_) (a' := ?_) #[true, true, true, false, false, false, false, false, false, false, false, false, false, false, false, false, false, false, false, false] rfl rfl (by kernel_rfl) (fun _ _ _ h => h) (Or.inl ⟨by rfl, ?_⟩) ?_ ?_
                    rotate_left
                    · intro w'
                      go_simp
                      with_reducible rfl
                    rotate_left
                    · simp only [Act.put, List.setIfInBounds_toArray, List.set_cons_zero, List.set_cons_succ, i64_w, i32_w]
                      rfl
                    refine pure_ (i := 5) (N := some 92) (v := ?_) (a' := ?_) #[true, true, true, false, false, true, false, false, false, false, false, false, false, false, false, false, false, false, false, false] rfl rfl (by kernel_rfl) (fun _ _ _ h => h) (Or.inl ⟨by rfl, ?_⟩) ?_ ?_
                    rotate_left
                    · intro w'
                      go_simp
                      with_reducible rfl
                    rotate_left
                    · simp only [Act.put, List.setIfInBounds_toArray, List.set_cons_zero, List.set_cons_succ, i64_w, i32_w]
                      rfl
                    refine pure_ (i := 6) (N := some 93) (v := ?_) (a' := ?_) #[true, true, true, false, false, true, true, false, false, false, false, false, false, false, false, false, false, false, false, false] rfl rfl (by kernel_rfl) (fun _ _ _ h => h) (Or.inl ⟨by rfl, ?_⟩) ?_ ?_
                    rotate_left
                    · intro w'
                      go_simp
                      with_reducible rfl
                    rotate_left
                    · simp only [Act.put, List.setIfInBounds_toArray, List.set_cons_zero, List.set_cons_succ, i64_w, i32_w]
                      rfl
                    refine pure_ (i := 9) (N := some 96) (v := ?_) (a' := ?_) #[true, true, true, false, false, true, true, false, false, true, false, false, false, false, false, false, false, false, false, false] rfl rfl (by kernel_rfl) (fun _ _ _ h => h) (Or.inl ⟨by rfl, ?_⟩) ?_ ?_
                    rotate_left
                    · intro w'
                      go_simp
                      with_reducible rfl
                    rotate_left
                    · simp only [Act.put, List.setIfInBounds_toArray, List.set_cons_zero, List.set_cons_succ, i64_w, i32_w]
                      rfl
                    refine pure_ (i := 10) (N := some 97) (v := ?_) (a' := ?_) #[true, true, true, false, false, true, true, false, false, true, true, false, false, false, false, false, false, false, false, false] rfl rfl (by kernel_rfl) (fun _ _ _ h => h) (Or.inl ⟨by rfl, ?_⟩) ?_ ?_
                    rotate_left
                    · intro w'
                      go_simp
                      with_reducible rfl
                    rotate_left
                    · simp only [Act.put, List.setIfInBounds_toArray, List.set_cons_zero, List.set_cons_succ, i64_w, i32_w]
                      rfl
                    refine pure_ (i := 11) (N := some 98) (v := ?_) (a' := ?_) #[true, true, true, false, false, true, true, false, false, true, true, true, false, false, false, false, false, false, false, false] rfl rfl (by kernel_rfl) (fun _ _ _ h => h) (Or.inl ⟨by rfl, ?_⟩) ?_ ?_
                    rotate_left
                    · intro w'
                      go_simp
                      with_reducible rfl
                    rotate_left
                    · simp only [Act.put, List.setIfInBounds_toArray, List.set_cons_zero, List.set_cons_succ, i64_w, i32_w]
                      rfl
                    refine pure_ (i := 12) (N := some 99) (v := ?_) (a' := ?_) #[true, true, true, false, false, true, true, false, false, true, true, true, true, false, false, false, false, false, false, false] rfl rfl (by kernel_rfl) (fun _ _ _ h => h) (Or.inl ⟨by rfl, ?_⟩) ?_ ?_
                    rotate_left
                    · intro w'
                      go_simp
                      with_reducible rfl
                    rotate_left
                    · simp only [Act.put, List.setIfInBounds_toArray, List.set_cons_zero, List.set_cons_succ, i64_w, i32_w]
                      rfl
                    refine pure_ (i := 13) (N := some 100) (v := ?_) (a' := ?_) #[true, true, true, false, false, true, true, false, false, true, true, true, true, true, false, false, false, false, false, false] rfl rfl (by kernel_rfl) (fun _ _ _ h => h) (Or.inl ⟨by rfl, ?_⟩) ?_ ?_
                    rotate_left
                    · intro w'
                      go_simp
                      with_reducible rfl
                    rotate_left
                    · simp only [Act.put, List.setIfInBounds_toArray, List.set_cons_zero, List.set_cons_succ, i64_w, i32_w]
                      rfl
                    refine pure_ (i := 14) (N := some 101) (v := ?_) (a' := ?_) #[true, true, true, false, false, true, true, false, false, true, true, true, true, true, true, false, false, false, false, false] rfl rfl (by kernel_rfl) (fun _ _ _ h => h) (Or.inl ⟨by rfl, ?_⟩) ?_ ?_
                    rotate_left
                    · intro w'
                      go_simp
                      with_reducible rfl
                    rotate_left
                    · simp only [Act.put, List.setIfInBounds_toArray, List.set_cons_zero, List.set_cons_succ, i64_w, i32_w]
                      rfl
                    refine pure_ (i := 15) (N := some 102) (v := ?_) (a' := ?_) #[true, true, true, false, false, true, true, false, false, true, true, true, true, true, true, true, false, false, false, false] rfl rfl (by kernel_rfl) (fun _ _ _ h => h) (Or.inl ⟨by rfl, ?_⟩) ?_ ?_
                    rotate_left
                    · intro w'
                      go_simp
                      with_reducible rfl
                    rotate_left
                    · simp only [Act.put, List.setIfInBounds_toArray, List.set_cons_zero, List.set_cons_succ, i64_w, i32_w]
                      rfl
                    refine one_ (i := 3) (N := some 90) #[true, true, true, true, false, true, true, false, false, true, true, true, true, true, true, true, false, false, false, false] rfl rfl (by kernel_rfl) (by decide) (fun K hK => ?_)
                    refine goes_ Try.func26 (by kernel_rfl) rfl #[.int .u64 (n : Int)] (by rfl) rfl rfl (by (try simp only [List.map_toArray, List.map_cons, List.map_nil]); first | done | rfl) ?_
                    with_reducible refine (U2.out _).mono ?_
                    rintro e w6 ⟨rfl, hb⟩
                    refine ⟨_, rfl, ?_⟩
                    have HB := Lib.hid (HB.out.trans (hb.mono HB.out.size))
                    refine hK.out _ _ trivial (fun hHeld => ?_)
                    clear hK K
                    refine norm_ (a' := ?_) ?_ ?_
                    rotate_left
                    · show Act.put _ (some 90) _ = _
                      simp only [Act.put, List.setIfInBounds_toArray, List.set_cons_zero, List.set_cons_succ, i64_w, i32_w]
                      rfl
                    refine pure_ (i := 4) (N := some 91) (v := ?_) (a' := ?_) #[true, true, true, true, true, true, true, false, false, true, true, true, true, true, true, true, false, false, false, false] rfl rfl (by kernel_rfl) (fun _ _ _ h => h) (Or.inl ⟨by rfl, ?_⟩) ?_ ?_
                    rotate_left
                    · intro w'
                      go_simp
                      with_reducible rfl
                    rotate_left
                    · simp only [Act.put, List.setIfInBounds_toArray, List.set_cons_zero, List.set_cons_succ, i64_w, i32_w]
                      rfl
                    refine one_ (i := 7) (N := some 94) #[true, true, true, true, true, true, true, true, false, true, true, true, true, true, true, true, false, false, false, false] rfl rfl (by kernel_rfl) (by decide) (fun K hK => ?_)
                    refine goes_ Try.func26 (by kernel_rfl) rfl #[.int .u64 (m : Int)] (by rfl) rfl rfl (by (try simp only [List.map_toArray, List.map_cons, List.map_nil]); first | done | rfl) ?_
                    with_reducible refine (U3.out _).mono ?_
                    rintro e w7 ⟨rfl, hb⟩
                    refine ⟨_, rfl, ?_⟩
                    have HB := Lib.hid (HB.out.trans (hb.mono HB.out.size))
                    refine hK.out _ _ trivial (fun hHeld => ?_)
                    clear hK K
                    refine norm_ (a' := ?_) ?_ ?_
                    rotate_left
                    · show Act.put _ (some 94) _ = _
                      simp only [Act.put, List.setIfInBounds_toArray, List.set_cons_zero, List.set_cons_succ, i64_w, i32_w]
                      rfl
                    refine pure_ (i := 8) (N := some 95) (v := ?_) (a' := ?_) #[true, true, true, true, true, true, true, true, true, true, true, true, true, true, true, true, false, false, false, false] rfl rfl (by kernel_rfl) (fun _ _ _ h => h) (Or.inl ⟨by rfl, ?_⟩) ?_ ?_
                    rotate_left
                    · intro w'
                      go_simp
                      with_reducible rfl
                    rotate_left
                    · simp only [Act.put, List.setIfInBounds_toArray, List.set_cons_zero, List.set_cons_succ, i64_w, i32_w]
                      rfl
                    refine one_ (i := 16) (N := some 103) #[true, true, true, true, true, true, true, true, true, true, true, true, true, true, true, true, true, false, false, false] rfl rfl (by kernel_rfl) (by decide) (fun K hK => ?_)
                    refine goes_ Try.func42 (by kernel_rfl) rfl #[.string (v.extract n hi2)] (by rfl) rfl rfl (by (try simp only [List.map_toArray, List.map_cons, List.map_nil]); first | done | rfl) ?_
                    with_reducible refine (U4.out _).mono ?_
                    rintro e w8 ⟨rfl, hb⟩
                    refine ⟨_, rfl, ?_⟩
                    have HB := Lib.hid (HB.out.trans (hb.mono HB.out.size))
                    refine hK.out _ _ trivial (fun hHeld => ?_)
                    clear hK K
                    refine norm_ (a' := ?_) ?_ ?_
                    rotate_left
                    · show Act.put _ (some 103) _ = _
                      simp only [Act.put, List.setIfInBounds_toArray, List.set_cons_zero, List.set_cons_succ, i64_w, i32_w]
                      rfl
                    refine pure_ (i := 17) (N := some 104) (v := ?_) (a' := ?_) #[true, true, true, true, true, true, true, true, true, true, true, true, true, true, true, true, true, true, false, false] rfl rfl (by kernel_rfl) (fun _ _ _ h => h) (Or.inl ⟨by rfl, ?_⟩) ?_ ?_
                    rotate_left
                    · intro w'
                      go_simp
                      with_reducible rfl
                    rotate_left
                    · simp only [Act.put, List.setIfInBounds_toArray, List.set_cons_zero, List.set_cons_succ, i64_w, i32_w]
                      rfl
                    refine pure_ (i := 18) (N := some 105) (v := ?_) (a' := ?_) #[true, true, true, true, true, true, true, true, true, true, true, true, true, true, true, true, true, true, true, false] rfl rfl (by kernel_rfl) (fun _ _ _ h => h) (Or.inl ⟨by rfl, ?_⟩) ?_ ?_
                    rotate_left
                    · intro w'
                      go_simp
                      with_reducible rfl
                    rotate_left
                    · simp only [Act.put, List.setIfInBounds_toArray, List.set_cons_zero, List.set_cons_succ, i64_w, i32_w]
                      rfl
                    refine pure_ (i := 19) (N := some 3) (v := ?_) (a' := ?_) #[true, true, true, true, true, true, true, true, true, true, true, true, true, true, true, true, true, true, true, true] rfl rfl (by kernel_rfl) (fun _ _ _ h => h) (Or.inl ⟨by rfl, ?_⟩) ?_ ?_
                    rotate_left
                    · intro w'
                      go_simp
                      with_reducible rfl
                    rotate_left
                    · simp only [Act.put, List.setIfInBounds_toArray, List.set_cons_zero, List.set_cons_succ, i64_w, i32_w]
                      rfl
                    refine done_ (by kernel_rfl) ?_
                    clear hHeld
                    go_wp2
                    go_roundw
                    case rel => exact ⟨i + 1, t, s1 ++ (⟨#[0]⟩ ++ u2 ++ u3 ++ u4), v, by first | rfl | (rw [← hs1]), rfl, by go_num, HLL.out.1, HSZ.out, hv1, HT.out.1, HLN, HF2, HB.out⟩
                    case measure => first | exact up_meas hlt hw | exact up_meas2 hlt
                  · have h1 : ¬ base.extract (base.size - k) base.size = v.extract (v.size - k) v.size := fun e => hkn ((HMS.out k hkM').1 ((HMM.out k (by omega)).1 e))
                    rw [decide_eq_false h1] at hst
                    have hsi2 : ¬ (base.extract (base.size - k) base.size).toList = (v.extract (v.size - k) v.size).toList := fun e => h1 (hsi.1 e)
                    clear h1 hsi
                    have hdw := down_wrap (k := k) (by omega) (by omega)
                    have hkm := hkn
                    obtain ⟨a1, ha1⟩ : ∃ a1, base.size - k = a1 := ⟨_, rfl⟩
                    obtain ⟨b1, hb1⟩ : ∃ b1, v.size - k = b1 := ⟨_, rfl⟩
                    rw [ha1] at p1 p2 p3 hst hsi2
                    rw [hb1] at r1 r2 r3 hst hsi2
                    clear ha1 hb1
                    go_wp2
                    go_quiet (fail)
                    have HB := Lib.hid (pw_below_drewN HB.out nq)
                    go_wp2
                    go_roundw
                    case rel => exact ⟨k - 1, by first | rfl | go_num, by omega, by omega, HB.out⟩
                    case measure => first | (rw [hdw]; simp only [intOf]; omega) | (simp only [intOf]; omega)
              · have h1 : ¬ base.extract 0 k = v.extract 0 k := fun e => hkn ((HN.out k hkM).1 e)
                rw [decide_eq_false h1] at hst
                have hsi2 : ¬ (base.extract 0 k).toList = (v.extract 0 k).toList := fun e => h1 (hsi.1 e)
                clear h1 hsi
                have hdw := down_wrap (k := k) (by omega) (by omega)
                go_wp2
                go_quiet (fail)
                have HB := Lib.hid (pw_below_drewN HB.out nq)
                go_wp2
                go_roundw
                case rel => exact ⟨k - 1, by first | rfl | go_num, by omega, by omega, HB.out⟩
                case measure => first | (rw [hdw]; simp only [intOf]; omega) | (simp only [intOf]; omega)
    · obtain rfl : i = len := by omega
      have HE := Lib.hid (HF.out.trans (by rw [List.drop_eq_nil_of_le (Nat.le_of_eq HPL.out)]; rfl : _ = s))
      go_wp2
      go_ret
      rw [HE.out]
      exact ⟨rfl, HB.out⟩
end Go.Proofs.Ytmglkgcogfhabaa.My
