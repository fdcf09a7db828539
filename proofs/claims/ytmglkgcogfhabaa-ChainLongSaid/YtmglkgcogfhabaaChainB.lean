/- chain.bytes, Encode. -/
import Derived.Test.YtmglkgcogfhabaaChainE
namespace Go.Proofs.Ytmglkgcogfhabaa.My
set_option linter.unusedSimpArgs false
set_option linter.unusedVariables false
open Go.RowKit Go.Proofs.YtmglkgcogfhabaaW.PrintWords Go.Proofs.YtmglkgcogfhabaaW.PrintLast Go.Proofs.Ytmglkgcogfhabaa.Pm

/-- The difference of two times. -/
def tdiff (t last : Nat) : Nat := (t + 18446744073709551616 - last) % 18446744073709551616
theorem tdiff_wrap {t last : Nat} (h1 : t < 18446744073709551616) (h2 : last < 18446744073709551616) : IntKind.u64.wrap ((t : Int) - (last : Int)) = ((tdiff t last : Nat) : Int) := by
  simp only [IntKind.wrap_u64, tdiff]
  omega
theorem tdiff_lt (t last : Nat) : tdiff t last < 18446744073709551616 := Nat.mod_lt _ (by decide)
def midS (v : ByteArray) (n m : Nat) : ByteArray := v.extract n (v.size - m)
/-- One version's bytes, behind what stands already. -/
def verStep (base : ByteArray) (last : Nat) (p : VerT) (s : ByteArray) : ByteArray :=
  if p.2.1 = true then s ++ uvS (tdiff p.1 last) ++ ⟨#[1]⟩
  else s ++ uvS (tdiff p.1 last) ++ (⟨#[0]⟩ ++ uvS (sameB base p.2.2) ++ uvS (endsB (base.extract (sameB base p.2.2) base.size) (p.2.2.extract (sameB base p.2.2) p.2.2.size))
    ++ textS (midS p.2.2 (sameB base p.2.2) (endsB (base.extract (sameB base p.2.2) base.size) (p.2.2.extract (sameB base p.2.2) p.2.2.size))))
def chainF : List VerT → ByteArray → Nat → ByteArray → ByteArray
  | [], _, _, s => s
  | p :: r, base, last, s => chainF r (if p.2.1 = true then base else p.2.2) p.1 (verStep base last p s)
/-- A chain's bytes. -/
def chainS (ps : List VerT) : ByteArray := chainF ps ⟨#[]⟩ 0 (uvS ps.length)
theorem chainF_at (ps : List VerT) (i : Nat) (h : i < ps.length) (t : Nat) (g : Bool) (v : ByteArray) (hp : ps[i] = (t, g, v)) (base : ByteArray) (last : Nat) (s : ByteArray) :
    chainF (ps.drop i) base last s = chainF (ps.drop (i + 1)) (if g = true then base else v) t (verStep base last (t, g, v) s) := by
  rw [List.drop_eq_getElem_cons h, hp, chainF]
theorem uvS_le' {n : Nat} (h : n < 18446744073709551616) : (uvS n).size ≤ 10 := by rw [uvS_size]; exact uv_len10 h
theorem cjnl {x : Nat} (h : x ≤ 140737488355328) : (9223372036854775807 < x) = False := eq_false (by omega)
theorem cz1 {s i t : Nat} (h : s ≤ 10 + i * 1000050) (hi : i ≤ 1000) (ht : t ≤ 10) : s + t + 1 ≤ 140737488355328 ∧ s + t + 1 ≤ 10 + (i + 1) * 1000050 ∧ s + t ≤ 140737488355328 := by omega
theorem cz2 {s i t a b c v : Nat} (h : s ≤ 10 + i * 1000050) (hi : i ≤ 1000) (ht : t ≤ 10) (ha : a ≤ 10) (hb : b ≤ 10) (hc : c ≤ v + 10) (hv : v ≤ 1000000) : s + t + (1 + a + b + c) ≤ 140737488355328 ∧ s + t + (1 + a + b + c) ≤ 10 + (i + 1) * 1000050 ∧ s + t ≤ 140737488355328 ∧ 1 + a + b + c ≤ 140737488355328 ∧ 1 + a + b ≤ 140737488355328 ∧ 1 + a ≤ 140737488355328 := by omega
theorem mid_size (v : ByteArray) (n m : Nat) : (midS v n m).size ≤ v.size := by unfold midS; rw [ByteArray.size_extract]; omega
theorem mid_facts {a v : ByteArray} {n m : Nat} (hn : sameB a v = n) (hm : endsB (a.extract n a.size) (v.extract n v.size) = m) (hv : v.size ≤ 1000000) (ha : a.size ≤ 1000000) :
    n ≤ a.size ∧ n ≤ v.size ∧ n ≤ v.size - m ∧ v.size - m ≤ v.size ∧ wrap64 ((v.size : Int) - (m : Int)) = ((v.size - m : Nat) : Int) ∧ IntKind.u64.wrap (n : Int) = (n : Int) ∧ IntKind.u64.wrap (m : Int) = (m : Int) ∧ m < 18446744073709551616 ∧ n < 18446744073709551616 ∧ (a.extract n a.size).size ≤ 140737488351232 ∧ (v.extract n v.size).size ≤ 140737488351232 := by
  have h1 := sameN_le (bl a) (bl v)
  rw [bl_length, bl_length] at h1
  change sameN (bl a) (bl v) = n at hn
  rw [hn] at h1
  have h2 := sameN_le (bl (a.extract n a.size)).reverse (bl (v.extract n v.size)).reverse
  change sameN _ _ = m at hm
  rw [hm, List.length_reverse, List.length_reverse, bl_length, bl_length, ByteArray.size_extract, ByteArray.size_extract] at h2
  refine ⟨h1.1, h1.2, by omega, by omega, by rw [wrap64_id (by omega) (by omega)]; omega, wrap_u64_nat (by omega), wrap_u64_nat (by omega), by omega, by omega, by rw [ByteArray.size_extract]; omega, by rw [ByteArray.size_extract]; omega⟩

set_option maxRecDepth 100000 in
set_option maxHeartbeats 8000000 in
theorem chain_bytes_any (A : Option Addr) (len cap : Nat) (ps : List VerT) (w : World) (hA : ArgVers w A len ps) (hlen : len ≤ 1000) (hsm : ∀ p ∈ ps, p.2.2.size ≤ 1000000) :
    Calls Try.prog 36 #[.slice A len cap] w fun e w' => e = .returned (.string (chainS ps)) ∧ (chainS ps).size ≤ 10 + len * 1000050 ∧ Below w.heap.size w w' := by
  have HM := Lib.hid hsm; clear hsm
  unfold chainS
  have hpl := hA.1
  rw [hpl]
  have HA := Lib.hid hA; clear hA
  have U0 := Lib.hid (fun w => uint_any len w (by omega))
  have hu0 := uvS_le' (n := len) (by omega)
  have e0 : IntKind.u64.wrap (len : Int) = (len : Int) := wrap_u64_nat (by omega)
  have HF := Lib.hid (show chainF ps ⟨#[]⟩ 0 (uvS len) = chainF (ps.drop 0) ⟨#[]⟩ 0 (uvS len) by rw [List.drop_zero])
  generalize chainF ps ⟨#[]⟩ 0 (uvS len) = F at *
  generalize uvS len = u0 at *
  have HB := Lib.hid (Below.refl w.heap.size w)
  have hll : len ≤ 140737488351232 := by omega
  go_enter Try.func36, Try.ntmps36
  go_wp2_with fail
  refine (U0.out _).mono ?_
  rintro e wq1 ⟨rfl, hb⟩
  have HB := Lib.hid (HB.out.trans (hb.mono HB.out.size)); clear hb
  go_wp2
  clear e0 U0
  go_loopw [3, 4, 5, 16] (fun v3 v4 v5 v16 wr => ∃ (i last : Nat) (s base : ByteArray), v3 = .string s ∧ v4 = .string base ∧ v5 = .int .u64 last ∧ v16 = .int .i64 i ∧ i ≤ len ∧ s.size ≤ 10 + i * 1000050 ∧ base.size ≤ 1000000 ∧ last < 18446744073709551616 ∧ Hid (F = chainF (ps.drop i) base last s) ∧ Below w.heap.size w wr) (fun _ _ _ v16 _ => len - (intOf v16).toNat)
  case atStart => exact ⟨0, 0, u0, ⟨#[]⟩, rfl, rfl, rfl, rfl, by omega, by omega, by decide, by decide, HF, HB.out⟩
  case round =>
    clear HF HB hu0
    obtain ⟨i, last, s, base, rfl, rfl, rfl, rfl, hi, hs, hbs, hla, HF, hb⟩ := hrel
    have HB := Lib.hid hb; clear hb
    by_cases hlt : i < len
    · have hil : i ≤ 1000 := Nat.le_trans hi hlen
      have hw := succ_wrap hlt hll
      obtain ⟨b0, off, t, g, v, hj, rfl, hb0, hp, ht, hv, c0, c1, c2⟩ := (HA.out.below HB.out).get i hlt
      have hv1 := HM.out _ (List.getElem_mem hj)
      rw [hp] at hv1
      simp only at hv1
      have HF2 := Lib.hid (HF.out.trans (chainF_at ps i hj t g v hp base last s))
      have HLL := Lib.hid (And.intro hlt hv1)
      have ed := tdiff_wrap ht hla
      have ut := uvS_le' (tdiff_lt t last)
      have U1 := Lib.hid (fun w => uint_any (tdiff t last) w (tdiff_lt t last))
      unfold verStep at HF2
      simp only at HF2
      generalize uvS (tdiff t last) = u1 at *
      have HT := Lib.hid (And.intro ht hla)
      clear hv hj hp hla hb0 HF
      have hst : s.size + u1.size ≤ 140737488355328 := (cz1 hs hil ut).2.2
      go_wp2_with fail
      have K := blk_new wr (.cells #[.int .u64 (t : Int), .bool g, .string v] 30)
      have HB := Lib.hid (below_alloc HB.out (.cells #[.int .u64 (t : Int), .bool g, .string v] 30))
      generalize wr.alloc (.cells #[.int .u64 (t : Int), .bool g, .string v] 30) = w1 at *
      generalize wr.heap.size = gb at *
      refine (U1.out _).mono ?_
      rintro e w2 ⟨rfl, hb⟩
      have K := blk_below K hb
      have HB := Lib.hid (HB.out.trans (hb.mono HB.out.size)); clear hb c0 c1 c2
      have k0 := (blk_cell K 0).trans rfl
      have k1 := (blk_cell K 1).trans rfl
      have k2 := (blk_cell K 2).trans rfl
      have HK := Lib.hid K; clear K
      rename_i K1 K2
      clear ed U1
      obtain ⟨s1, hs1⟩ : ∃ s1, s ++ u1 = s1 := ⟨_, rfl⟩
      have hs1s : s1.size = s.size + u1.size := by rw [← hs1, ByteArray.size_append]
      rw [hs1] at HF2
      cases g with
      | true =>
        simp only [if_true] at HF2
        have hsz := cz1 hs hil ut
        have hs2 : s1.size + 1 ≤ 140737488355328 := by rw [hs1s]; exact hsz.1
        have HSZ := Lib.hid (show (s1 ++ ⟨#[1]⟩).size ≤ 10 + (i + 1) * 1000050 by rw [ByteArray.size_append, hs1s]; exact hsz.2.1)
        clear hsz
        go_wp2
        go_roundw
        case rel => exact ⟨i + 1, t, s1 ++ ⟨#[1]⟩, base, rfl, rfl, rfl, by go_num, HLL.out.1, HSZ.out, hbs, HT.out.1, HF2, HB.out⟩
        case measure => first | exact up_meas hlt hw | exact up_meas2 hlt
      | false =>
        simp only [Bool.false_eq_true, if_false] at HF2
        obtain ⟨n, hn⟩ : ∃ n, sameB base v = n := ⟨_, rfl⟩
        obtain ⟨m, hm⟩ : ∃ m, endsB (base.extract n base.size) (v.extract n v.size) = m := ⟨_, rfl⟩
        rw [hn, hm] at HF2
        obtain ⟨f1, f2, f3, f4, f5, f6, f7, f8, f9, f10, f11⟩ := mid_facts hn hm hv1 hbs
        have SM := fun w => same_any base v w (Nat.le_trans hbs (by decide)) (Nat.le_trans hv1 (by decide))
        have EN := fun w => ends_any (base.extract n base.size) (v.extract n v.size) w f10 f11
        have f5' := (i64_w _).trans f5
        simp only [hn] at SM
        simp only [hm] at EN
        have SM := Lib.hid SM
        have EN := Lib.hid EN
        rename_i SM' EN'
        clear SM' EN' hn hm
        have hms := mid_size v n m
        have a2 := uvS_le' f9
        have a3 := uvS_le' f8
        have U2 := Lib.hid (fun w => uint_any n w f9)
        have U3 := Lib.hid (fun w => uint_any m w f8)
        have U4 := Lib.hid (fun w => text_any (midS v n m) w (Nat.le_trans hms (Nat.le_trans hv1 (by decide))))
        have a4 : (textS (midS v n m)).size ≤ v.size + 10 := by
          unfold textS
          rw [ByteArray.size_append]
          have := uvS_le' (n := (midS v n m).size) (Nat.lt_of_le_of_lt (Nat.le_trans hms hv1) (by decide))
          clear f5 f5' f6 f7 hw
          omega
        generalize uvS n = u2 at *
        generalize uvS m = u3 at *
        generalize textS (midS v n m) = u4 at *
        unfold midS at U4
        obtain ⟨hi2, hhi⟩ : ∃ hi2, v.size - m = hi2 := ⟨_, rfl⟩
        rw [hhi] at f3 f4 f5 f5' U4
        have hsz := cz2 hs hil ut a2 a3 a4 hv1
        have HSZ := Lib.hid (show (s1 ++ (⟨#[0]⟩ ++ u2 ++ u3 ++ u4)).size ≤ 10 + (i + 1) * 1000050 by
          simp only [ByteArray.size_append, hs1s, show (⟨#[0]⟩ : ByteArray).size = 1 from rfl]; exact hsz.2.1)
        have x1 : (9223372036854775807 < 1 + u2.size) = False := cjnl hsz.2.2.2.2.2
        have x2 : (9223372036854775807 < 1 + u2.size + u3.size) = False := cjnl hsz.2.2.2.2.1
        have x3 : (9223372036854775807 < 1 + u2.size + u3.size + u4.size) = False := cjnl hsz.2.2.2.1
        have x4 : (9223372036854775807 < s1.size + (1 + u2.size + u3.size + u4.size)) = False := cjnl (by rw [hs1s]; exact hsz.1)
        have y2 : (9223372036854775807 < (⟨#[0]⟩ ++ u2).size + u3.size) = False := by rw [ByteArray.size_append]; exact x2
        have y3 : (9223372036854775807 < (⟨#[0]⟩ ++ u2 ++ u3).size + u4.size) = False := by rw [ByteArray.size_append, ByteArray.size_append]; exact x3
        have y4 : (9223372036854775807 < s1.size + (⟨#[0]⟩ ++ u2 ++ u3 ++ u4).size) = False := by rw [ByteArray.size_append, ByteArray.size_append, ByteArray.size_append]; exact x4
        have HS1 := Lib.hid hs1s
        clear hsz hs1s hst hhi
        go_wp2_with fail
        refine (SM.out _).mono ?_
        rintro e w3 ⟨rfl, hb⟩
        have K := blk_below HK.out hb
        have HB := Lib.hid (HB.out.trans (hb.mono HB.out.size)); clear hb k0 k1 k2
        have k2 := (blk_cell K 2).trans rfl
        go_wp2
        refine start_ (n := 9) (S := fun w' => w'.cell? ⟨gb, 2, none⟩ = some (.string v) ∧ w'.heap[gb]? = some (.cells #[.int .u64 (t : Int), .bool false, .string v] 30 (0, 0))) (ds := []) #[false, false, false, false, false, false, false, false, false] (by kernel_rfl) rfl rfl ⟨k2, K⟩ (fun hHeld => ?_)
        have HB := Lib.hid (below_drew HB.out)
        refine pure_ (i := 0) (N := some 37) (v := ?_) (a' := ?_) #[true, false, false, false, false, false, false, false, false] rfl rfl (by kernel_rfl) (fun _ _ _ h => h) (Or.inl ⟨by rfl, ?_⟩) ?_ ?_
        rotate_left
        · intro w'
          go_simp
          with_reducible rfl
        rotate_left
        · simp only [Act.put, List.setIfInBounds_toArray, List.set_cons_zero, List.set_cons_succ, i64_w, i32_w]
          rfl
        refine pure_ (i := 1) (N := some 38) (v := ?_) (a' := ?_) #[true, true, false, false, false, false, false, false, false] rfl rfl (by kernel_rfl) (fun _ _ _ h => h) (Or.inl ⟨by rfl, ?_⟩) ?_ ?_
        rotate_left
        · intro w'
          go_simp
          with_reducible rfl
        rotate_left
        · simp only [Act.put, List.setIfInBounds_toArray, List.set_cons_zero, List.set_cons_succ, i64_w, i32_w]
          rfl
        refine pure_ (i := 2) (N := some 39) (v := ?_) (a' := ?_) #[true, true, true, false, false, false, false, false, false] rfl rfl (by kernel_rfl) (fun _ _ _ h => h) (Or.inl ⟨by rfl, ?_⟩) ?_ ?_
        rotate_left
        · intro w'
          go_simp
          with_reducible rfl
        rotate_left
        · simp only [Act.put, List.setIfInBounds_toArray, List.set_cons_zero, List.set_cons_succ, i64_w, i32_w]
          rfl
        refine pure_ (i := 3) (N := some 40) (v := ?_) (a' := ?_) #[true, true, true, true, false, false, false, false, false] rfl rfl (by kernel_rfl) (fun _ _ _ h => h) (Or.inl ⟨by rfl, ?_⟩) ?_ ?_
        rotate_left
        · intro w'
          go_simp
          with_reducible rfl
        rotate_left
        · simp only [Act.put, List.setIfInBounds_toArray, List.set_cons_zero, List.set_cons_succ, i64_w, i32_w]
          rfl
        refine pure_ (i := 5) (N := some 42) (v := ?_) (a' := ?_) #[true, true, true, true, false, true, false, false, false] rfl rfl (by kernel_rfl) (fun _ _ _ h => h) (Or.inl ⟨by rfl, ?_⟩) ?_ ?_
        rotate_left
        · intro w'
          go_simp
          with_reducible rfl
        rotate_left
        · simp only [Act.put, List.setIfInBounds_toArray, List.set_cons_zero, List.set_cons_succ, i64_w, i32_w]
          rfl
        refine take_ (i := 4) (N := some 41) (v := ?_) (a' := ?_) #[true, true, true, true, true, true, false, false, false] rfl rfl (by kernel_rfl) (fun _ _ _ h => h) (Or.inl ⟨by rfl, ?_⟩) hHeld ?_ ?_
        rotate_left
        · rintro w' ⟨s0, s1⟩
          go_simp
          with_reducible rfl
        rotate_left
        · simp only [Act.put, List.setIfInBounds_toArray, List.set_cons_zero, List.set_cons_succ, i64_w, i32_w]
          rfl
        refine pure_ (i := 6) (N := some 43) (v := ?_) (a' := ?_) #[true, true, true, true, true, true, true, false, false] rfl rfl (by kernel_rfl) (fun _ _ _ h => h) (Or.inl ⟨by rfl, ?_⟩) ?_ ?_
        rotate_left
        · intro w'
          go_simp
          with_reducible rfl
        rotate_left
        · simp only [Act.put, List.setIfInBounds_toArray, List.set_cons_zero, List.set_cons_succ, i64_w, i32_w]
          rfl
        refine one_ (i := 7) (N := some 44) #[true, true, true, true, true, true, true, true, false] rfl rfl (by kernel_rfl) (by decide) (fun K hK => ?_)
        refine goes_ Try.func59 (by kernel_rfl) rfl #[.string (base.extract n base.size), .string (v.extract n v.size)] (by rfl) rfl rfl (by (try simp only [List.map_toArray, List.map_cons, List.map_nil]); first | done | rfl) ?_
        with_reducible refine (EN.out _).mono ?_
        rintro e w6 ⟨rfl, hb⟩
        refine ⟨_, rfl, ?_⟩
        have HB := Lib.hid (HB.out.trans (hb.mono HB.out.size))
        refine hK.out _ _ ⟨(blk_cell (blk_below hHeld.2 hb) 2).trans rfl, blk_below hHeld.2 hb⟩ (fun hHeld => ?_)
        clear hK K
        refine norm_ (a' := ?_) ?_ ?_
        rotate_left
        · show Act.put _ (some 44) _ = _
          simp only [Act.put, List.setIfInBounds_toArray, List.set_cons_zero, List.set_cons_succ, i64_w, i32_w]
          rfl
        refine pure_ (i := 8) (N := some 9) (v := ?_) (a' := ?_) #[true, true, true, true, true, true, true, true, true] rfl rfl (by kernel_rfl) (fun _ _ _ h => h) (Or.inl ⟨by rfl, ?_⟩) ?_ ?_
        rotate_left
        · intro w'
          go_simp
          with_reducible rfl
        rotate_left
        · simp only [Act.put, List.setIfInBounds_toArray, List.set_cons_zero, List.set_cons_succ, i64_w, i32_w]
          rfl
        refine done_ (by kernel_rfl) ?_

        have HK2 := Lib.hid hHeld.2
        have hk2 := hHeld.1
        clear hHeld K k2 SM EN
        go_wp2
        refine start_ (n := 22) (S := fun w' => w'.cell? ⟨gb, 2, none⟩ = some (.string v) ∧ w'.heap[gb]? = some (.cells #[.int .u64 (t : Int), .bool false, .string v] 30 (0, 0))) (ds := []) #[false, false, false, false, false, false, false, false, false, false, false, false, false, false, false, false, false, false, false, false, false, false] (by kernel_rfl) rfl rfl ⟨hk2, HK2.out⟩ (fun hHeld => ?_)
        have HB := Lib.hid (below_drew HB.out)
        refine pure_ (i := 0) (N := some 45) (v := ?_) (a' := ?_) #[true, false, false, false, false, false, false, false, false, false, false, false, false, false, false, false, false, false, false, false, false, false] rfl rfl (by kernel_rfl) (fun _ _ _ h => h) (Or.inl ⟨by rfl, ?_⟩) ?_ ?_
        rotate_left
        · intro w'
          go_simp
          with_reducible rfl
        rotate_left
        · simp only [Act.put, List.setIfInBounds_toArray, List.set_cons_zero, List.set_cons_succ, i64_w, i32_w]
          rfl
        refine pure_ (i := 1) (N := some 46) (v := ?_) (a' := ?_) #[true, true, false, false, false, false, false, false, false, false, false, false, false, false, false, false, false, false, false, false, false, false] rfl rfl (by kernel_rfl) (fun _ _ _ h => h) (Or.inl ⟨by rfl, ?_⟩) ?_ ?_
        rotate_left
        · intro w'
          go_simp
          with_reducible rfl
        rotate_left
        · simp only [Act.put, List.setIfInBounds_toArray, List.set_cons_zero, List.set_cons_succ, i64_w, i32_w]
          rfl
        refine pure_ (i := 2) (N := some 47) (v := ?_) (a' := ?_) #[true, true, true, false, false, false, false, false, false, false, false, false, false, false, false, false, false, false, false, false, false, false] rfl rfl (by kernel_rfl) (fun _ _ _ h => h) (Or.inl ⟨by rfl, ?_⟩) ?_ ?_
        rotate_left
        · intro w'
          go_simp
          with_reducible rfl
        rotate_left
        · simp only [Act.put, List.setIfInBounds_toArray, List.set_cons_zero, List.set_cons_succ, i64_w, i32_w]
          rfl
        refine pure_ (i := 5) (N := some 50) (v := ?_) (a' := ?_) #[true, true, true, false, false, true, false, false, false, false, false, false, false, false, false, false, false, false, false, false, false, false] rfl rfl (by kernel_rfl) (fun _ _ _ h => h) (Or.inl ⟨by rfl, ?_⟩) ?_ ?_
        rotate_left
        · intro w'
          go_simp
          with_reducible rfl
        rotate_left
        · simp only [Act.put, List.setIfInBounds_toArray, List.set_cons_zero, List.set_cons_succ, i64_w, i32_w]
          rfl
        refine pure_ (i := 6) (N := some 51) (v := ?_) (a' := ?_) #[true, true, true, false, false, true, true, false, false, false, false, false, false, false, false, false, false, false, false, false, false, false] rfl rfl (by kernel_rfl) (fun _ _ _ h => h) (Or.inl ⟨by rfl, ?_⟩) ?_ ?_
        rotate_left
        · intro w'
          go_simp
          with_reducible rfl
        rotate_left
        · simp only [Act.put, List.setIfInBounds_toArray, List.set_cons_zero, List.set_cons_succ, i64_w, i32_w]
          rfl
        refine pure_ (i := 9) (N := some 54) (v := ?_) (a' := ?_) #[true, true, true, false, false, true, true, false, false, true, false, false, false, false, false, false, false, false, false, false, false, false] rfl rfl (by kernel_rfl) (fun _ _ _ h => h) (Or.inl ⟨by rfl, ?_⟩) ?_ ?_
        rotate_left
        · intro w'
          go_simp
          with_reducible rfl
        rotate_left
        · simp only [Act.put, List.setIfInBounds_toArray, List.set_cons_zero, List.set_cons_succ, i64_w, i32_w]
          rfl
        refine pure_ (i := 11) (N := some 56) (v := ?_) (a' := ?_) #[true, true, true, false, false, true, true, false, false, true, false, true, false, false, false, false, false, false, false, false, false, false] rfl rfl (by kernel_rfl) (fun _ _ _ h => h) (Or.inl ⟨by rfl, ?_⟩) ?_ ?_
        rotate_left
        · intro w'
          go_simp
          with_reducible rfl
        rotate_left
        · simp only [Act.put, List.setIfInBounds_toArray, List.set_cons_zero, List.set_cons_succ, i64_w, i32_w]
          rfl
        refine pure_ (i := 12) (N := some 57) (v := ?_) (a' := ?_) #[true, true, true, false, false, true, true, false, false, true, false, true, true, false, false, false, false, false, false, false, false, false] rfl rfl (by kernel_rfl) (fun _ _ _ h => h) (Or.inl ⟨by rfl, ?_⟩) ?_ ?_
        rotate_left
        · intro w'
          go_simp
          with_reducible rfl
        rotate_left
        · simp only [Act.put, List.setIfInBounds_toArray, List.set_cons_zero, List.set_cons_succ, i64_w, i32_w]
          rfl
        refine pure_ (i := 15) (N := some 60) (v := ?_) (a' := ?_) #[true, true, true, false, false, true, true, false, false, true, false, true, true, false, false, true, false, false, false, false, false, false] rfl rfl (by kernel_rfl) (fun _ _ _ h => h) (Or.inl ⟨by rfl, ?_⟩) ?_ ?_
        rotate_left
        · intro w'
          go_simp
          with_reducible rfl
        rotate_left
        · simp only [Act.put, List.setIfInBounds_toArray, List.set_cons_zero, List.set_cons_succ, i64_w, i32_w]
          rfl
        refine take_ (i := 10) (N := some 55) (v := ?_) (a' := ?_) #[true, true, true, false, false, true, true, false, false, true, true, true, true, false, false, true, false, false, false, false, false, false] rfl rfl (by kernel_rfl) (fun _ _ _ h => h) (Or.inl ⟨by rfl, ?_⟩) hHeld ?_ ?_
        rotate_left
        · rintro w' ⟨s0, s1⟩
          go_simp
          with_reducible rfl
        rotate_left
        · simp only [Act.put, List.setIfInBounds_toArray, List.set_cons_zero, List.set_cons_succ, i64_w, i32_w]
          rfl
        refine take_ (i := 13) (N := some 58) (v := ?_) (a' := ?_) #[true, true, true, false, false, true, true, false, false, true, true, true, true, true, false, true, false, false, false, false, false, false] rfl rfl (by kernel_rfl) (fun _ _ _ h => h) (Or.inl ⟨by rfl, ?_⟩) hHeld ?_ ?_
        rotate_left
        · rintro w' ⟨s0, s1⟩
          go_simp
          with_reducible rfl
        rotate_left
        · simp only [Act.put, List.setIfInBounds_toArray, List.set_cons_zero, List.set_cons_succ, i64_w, i32_w]
          rfl
        refine pure_ (i := 14) (N := some 59) (v := ?_) (a' := ?_) #[true, true, true, false, false, true, true, false, false, true, true, true, true, true, true, true, false, false, false, false, false, false] rfl rfl (by kernel_rfl) (fun _ _ _ h => h) (Or.inl ⟨by rfl, ?_⟩) ?_ ?_
        rotate_left
        · intro w'
          go_simp
          with_reducible rfl
        rotate_left
        · simp only [Act.put, List.setIfInBounds_toArray, List.set_cons_zero, List.set_cons_succ, i64_w, i32_w]
          rfl
        refine pure_ (i := 16) (N := some 61) (v := ?_) (a' := ?_) #[true, true, true, false, false, true, true, false, false, true, true, true, true, true, true, true, true, false, false, false, false, false] rfl rfl (by kernel_rfl) (fun _ _ _ h => h) (Or.inl ⟨by rfl, ?_⟩) ?_ ?_
        rotate_left
        · intro w'
          go_simp
          with_reducible rfl
        rotate_left
        · simp only [Act.put, List.setIfInBounds_toArray, List.set_cons_zero, List.set_cons_succ, i64_w, i32_w]
          rfl
        refine pure_ (i := 17) (N := some 62) (v := ?_) (a' := ?_) #[true, true, true, false, false, true, true, false, false, true, true, true, true, true, true, true, true, true, false, false, false, false] rfl rfl (by kernel_rfl) (fun _ _ _ h => h) (Or.inl ⟨by rfl, ?_⟩) ?_ ?_
        rotate_left
        · intro w'
          go_simp
          with_reducible rfl
        rotate_left
        · simp only [Act.put, List.setIfInBounds_toArray, List.set_cons_zero, List.set_cons_succ, i64_w, i32_w]
          rfl
        refine one_ (i := 3) (N := some 48) #[true, true, true, true, false, true, true, false, false, true, true, true, true, true, true, true, true, true, false, false, false, false] rfl rfl (by kernel_rfl) (by decide) (fun K hK => ?_)
        refine goes_ Try.func52 (by kernel_rfl) rfl #[.int .u64 (n : Int)] (by rfl) rfl rfl (by (try simp only [List.map_toArray, List.map_cons, List.map_nil]); first | done | rfl) ?_
        with_reducible refine (U2.out _).mono ?_
        rintro e w6 ⟨rfl, hb⟩
        refine ⟨_, rfl, ?_⟩
        have HB := Lib.hid (HB.out.trans (hb.mono HB.out.size))
        refine hK.out _ _ ⟨(blk_cell (blk_below hHeld.2 hb) 2).trans rfl, blk_below hHeld.2 hb⟩ (fun hHeld => ?_)
        clear hK K
        refine norm_ (a' := ?_) ?_ ?_
        rotate_left
        · show Act.put _ (some 48) _ = _
          simp only [Act.put, List.setIfInBounds_toArray, List.set_cons_zero, List.set_cons_succ, i64_w, i32_w]
          rfl
        refine pure_ (i := 4) (N := some 49) (v := ?_) (a' := ?_) #[true, true, true, true, true, true, true, false, false, true, true, true, true, true, true, true, true, true, false, false, false, false] rfl rfl (by kernel_rfl) (fun _ _ _ h => h) (Or.inl ⟨by rfl, ?_⟩) ?_ ?_
        rotate_left
        · intro w'
          go_simp
          with_reducible rfl
        rotate_left
        · simp only [Act.put, List.setIfInBounds_toArray, List.set_cons_zero, List.set_cons_succ, i64_w, i32_w]
          rfl
        refine one_ (i := 7) (N := some 52) #[true, true, true, true, true, true, true, true, false, true, true, true, true, true, true, true, true, true, false, false, false, false] rfl rfl (by kernel_rfl) (by decide) (fun K hK => ?_)
        refine goes_ Try.func52 (by kernel_rfl) rfl #[.int .u64 (m : Int)] (by rfl) rfl rfl (by (try simp only [List.map_toArray, List.map_cons, List.map_nil]); first | done | rfl) ?_
        with_reducible refine (U3.out _).mono ?_
        rintro e w7 ⟨rfl, hb⟩
        refine ⟨_, rfl, ?_⟩
        have HB := Lib.hid (HB.out.trans (hb.mono HB.out.size))
        refine hK.out _ _ ⟨(blk_cell (blk_below hHeld.2 hb) 2).trans rfl, blk_below hHeld.2 hb⟩ (fun hHeld => ?_)
        clear hK K
        refine norm_ (a' := ?_) ?_ ?_
        rotate_left
        · show Act.put _ (some 52) _ = _
          simp only [Act.put, List.setIfInBounds_toArray, List.set_cons_zero, List.set_cons_succ, i64_w, i32_w]
          rfl
        refine pure_ (i := 8) (N := some 53) (v := ?_) (a' := ?_) #[true, true, true, true, true, true, true, true, true, true, true, true, true, true, true, true, true, true, false, false, false, false] rfl rfl (by kernel_rfl) (fun _ _ _ h => h) (Or.inl ⟨by rfl, ?_⟩) ?_ ?_
        rotate_left
        · intro w'
          go_simp
          with_reducible rfl
        rotate_left
        · simp only [Act.put, List.setIfInBounds_toArray, List.set_cons_zero, List.set_cons_succ, i64_w, i32_w]
          rfl
        refine one_ (i := 18) (N := some 63) #[true, true, true, true, true, true, true, true, true, true, true, true, true, true, true, true, true, true, true, false, false, false] rfl rfl (by kernel_rfl) (by decide) (fun K hK => ?_)
        refine goes_ Try.func54 (by kernel_rfl) rfl #[.string (v.extract n hi2)] (by rfl) rfl rfl (by (try simp only [List.map_toArray, List.map_cons, List.map_nil]); first | done | rfl) ?_
        with_reducible refine (U4.out _).mono ?_
        rintro e w8 ⟨rfl, hb⟩
        refine ⟨_, rfl, ?_⟩
        have HB := Lib.hid (HB.out.trans (hb.mono HB.out.size))
        refine hK.out _ _ ⟨(blk_cell (blk_below hHeld.2 hb) 2).trans rfl, blk_below hHeld.2 hb⟩ (fun hHeld => ?_)
        clear hK K
        refine norm_ (a' := ?_) ?_ ?_
        rotate_left
        · show Act.put _ (some 63) _ = _
          simp only [Act.put, List.setIfInBounds_toArray, List.set_cons_zero, List.set_cons_succ, i64_w, i32_w]
          rfl
        refine pure_ (i := 19) (N := some 64) (v := ?_) (a' := ?_) #[true, true, true, true, true, true, true, true, true, true, true, true, true, true, true, true, true, true, true, true, false, false] rfl rfl (by kernel_rfl) (fun _ _ _ h => h) (Or.inl ⟨by rfl, ?_⟩) ?_ ?_
        rotate_left
        · intro w'
          go_simp
          with_reducible rfl
        rotate_left
        · simp only [Act.put, List.setIfInBounds_toArray, List.set_cons_zero, List.set_cons_succ, i64_w, i32_w]
          rfl
        refine pure_ (i := 20) (N := some 65) (v := ?_) (a' := ?_) #[true, true, true, true, true, true, true, true, true, true, true, true, true, true, true, true, true, true, true, true, true, false] rfl rfl (by kernel_rfl) (fun _ _ _ h => h) (Or.inl ⟨by rfl, ?_⟩) ?_ ?_
        rotate_left
        · intro w'
          go_simp
          with_reducible rfl
        rotate_left
        · simp only [Act.put, List.setIfInBounds_toArray, List.set_cons_zero, List.set_cons_succ, i64_w, i32_w]
          rfl
        refine pure_ (i := 21) (N := some 3) (v := ?_) (a' := ?_) #[true, true, true, true, true, true, true, true, true, true, true, true, true, true, true, true, true, true, true, true, true, true] rfl rfl (by kernel_rfl) (fun _ _ _ h => h) (Or.inl ⟨by rfl, ?_⟩) ?_ ?_
        rotate_left
        · intro w'
          go_simp
          with_reducible rfl
        rotate_left
        · simp only [Act.put, List.setIfInBounds_toArray, List.set_cons_zero, List.set_cons_succ, i64_w, i32_w]
          rfl
        refine done_ (by kernel_rfl) ?_

        have hk3 := hHeld.1
        clear hHeld hk2
        go_wp2
        go_roundw
        case rel => exact ⟨i + 1, t, s1 ++ (⟨#[0]⟩ ++ u2 ++ u3 ++ u4), v, by first | rfl | (rw [← hs1]), rfl, rfl, by go_num, HLL.out.1, HSZ.out, hv1, HT.out.1, HF2, HB.out⟩
        case measure => first | exact up_meas hlt hw | exact up_meas2 hlt
    · obtain rfl : i = len := by omega
      have HE := Lib.hid (HF.out.trans (by rw [List.drop_eq_nil_of_le (Nat.le_of_eq hpl)]; rfl : _ = s))
      go_wp2
      go_ret
      exact ⟨by rw [HE.out]; rfl, by rw [HE.out]; exact hs, HB.out⟩
theorem encode_ok (A : Option Addr) (len cap : Nat) (ps : List VerT) (w : World) (hA : ArgVers w A len ps) (hlen : len ≤ 1000) (hsm : ∀ p ∈ ps, p.2.2.size ≤ 1000000) (hR : rightV ps) :
    Calls Try.prog 15 #[.slice A len cap] w fun e w' => e = .returned (.tuple #[.string (chainS ps), .int .i64 0]) ∧ Below w.heap.size w w' := by
  have HA := Lib.hid hA; clear hA
  have HM := Lib.hid hsm; clear hsm
  have HR := Lib.hid hR; clear hR
  have HB := Lib.hid (Below.refl w.heap.size w)
  go_enter Try.func15, Try.ntmps15
  go_wp2_with fail
  refine (right_any A len cap ps _ HA.out (by omega)).mono ?_
  rintro e w1 ⟨b, rfl, hb, hbl⟩
  obtain rfl : b = true := hb.2 HR.out
  have HB := Lib.hid (HB.out.trans (hbl.mono HB.out.size)); clear hbl hb
  go_wp2_with fail
  refine (chain_bytes_any A len cap ps _ (HA.out.below HB.out) hlen HM.out).mono ?_
  rintro e w2 ⟨rfl, -, hbl⟩
  have HB := Lib.hid (HB.out.trans (hbl.mono HB.out.size)); clear hbl
  go_wp2
  go_ret2
  exact ⟨rfl, HB.out⟩
end Go.Proofs.Ytmglkgcogfhabaa.My
