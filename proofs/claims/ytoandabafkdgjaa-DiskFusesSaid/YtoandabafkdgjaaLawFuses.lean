/- The law DiskFuses walked. -/
import Derived.Test.YtoandabafkdgjaaDisk4
import Derived.Test.YtoandabafkdgjaaLawDisk
namespace Go.Proofs.Ytoandabafkdgjaa.My
set_option linter.unusedSimpArgs false
set_option linter.unusedVariables false
open Go.RowKit Go.Proofs.YtoandabafkdgjaaW.PrintWords Go.Proofs.YtoandabafkdgjaaW.PrintLast Go.Proofs.Ytoandabafkdgjaa.Pm

def fB (i : Nat) : ByteArray := fullB (UInt8.ofNat i)
def fdW (j : Nat) : List (Nat × ByteArray) := (List.range j).map fun i => (0, fB (i + 1))
/-- The disk behind so many writes. -/
def fdS (k j : Nat) : DkS := ⟨[⟨#[]⟩], fdW j, (k : Int) - (j : Int), decide (k = j)⟩
theorem fdW_succ (j : Nat) : fdW (j + 1) = fdW j ++ [(0, fB (j + 1))] := by simp [fdW, List.range_succ]
theorem fdW_len (j : Nat) : (fdW j).length = j := by simp [fdW]
theorem fd_start (k : Nat) : fuseS (newS 1) k = fdS k 0 := by
  have h : newS 1 = ⟨[⟨#[]⟩], [], -1, false⟩ := rfl
  rw [h]
  unfold fuseS fdS
  rw [if_neg (by decide)]
  have h1 : max (k : Int) (-1) = (k : Int) - ((0 : Nat) : Int) := by omega
  have h2 : decide ((k : Int) = 0) = decide (k = 0) := by simp
  rw [h1, h2]
  rfl
theorem fd_step (k j : Nat) (h : j < k) : writeS (fdS k j) 0 (fB (j + 1)) = fdS k (j + 1) := by
  unfold writeS fdS
  simp only
  rw [if_pos (by omega), if_pos (by omega), fdW_succ]
  have h1 : (k : Int) - (j : Int) - 1 = (k : Int) - ((j + 1 : Nat) : Int) := by omega
  have h2 : decide ((k : Int) - (j : Int) - 1 = 0) = decide (k = j + 1) := by
    by_cases e : k = j + 1
    · rw [decide_eq_true e, decide_eq_true (by omega)]
    · rw [decide_eq_false e, decide_eq_false (by omega)]
  rw [h2, h1]
theorem fd_may (k j : Nat) (h : j < k) : mayS (fdS k j) ((0 : Nat) : Int) = 0 := by
  unfold mayS fdS
  simp only
  rw [if_neg (by simp; omega), if_neg (by simp)]
theorem fd_over (k : Nat) (i : Int) : mayS (fdS k k) i = 6 := by
  unfold mayS fdS
  simp
theorem fd_ok (k j : Nat) (hk : k ≤ 40) (h : j ≤ k) : (fdS k j).Ok :=
  ⟨by show 1 ≤ 4096; decide, fun s hs => .inl (by rw [List.mem_singleton.1 hs]; rfl), fun p hp => by
    simp only [fdS, fdW, List.mem_map, List.mem_range] at hp
    obtain ⟨i, _, rfl⟩ := hp
    exact ⟨by show 0 < 1; decide, fullB_size _⟩, by simp only [fdS]; omega⟩
theorem fd_crash (k : Nat) : ∀ n, n ≤ k → crashN (List.replicate k 255) (fdW k) [⟨#[]⟩] n = if n = 0 then [⟨#[]⟩] else [fB n]
  | 0, _ => rfl
  | n + 1, h => by
    have hl : (fdW k).getD n (0, ⟨#[]⟩) = (0, fB (n + 1)) := by
      rw [List.getD_eq_getElem?_getD, List.getElem?_eq_getElem (by rw [fdW_len]; omega)]
      simp [fdW]
    have hf : (List.replicate k (255 : UInt8))[n]? = some 255 := by rw [List.getElem?_replicate, if_pos (by omega)]
    rw [crashN, fd_crash k n (by omega), hl, hf, if_neg (show ¬ n + 1 = 0 by omega)]
    unfold crashOne
    simp only
    rw [if_neg (by decide), if_pos trivial]
    split <;> rfl
theorem fd_none (l : List (Nat × ByteArray)) (s : List ByteArray) : ∀ n, crashN [] l s n = s
  | 0 => rfl
  | n + 1 => by rw [crashN, fd_none l s n]; rfl
/-- What is read behind the crash. -/
theorem fd_keep (k : Nat) : readS (crashS (fdS k k) (List.replicate k 255)) 0 = fB k := by
  have h : crashS (fdS k k) (List.replicate k 255) = ⟨if k = 0 then [⟨#[]⟩] else [fB k], [], -1, false⟩ := by
    unfold crashS
    simp only [fdS, fdW_len]
    rw [fd_crash k k (Nat.le_refl _)]
  rw [h]
  unfold readS
  show hereS (if k = 0 then [⟨#[]⟩] else [fB k]) 0 = fB k
  by_cases hk : k = 0
  · subst hk; rfl
  · rw [if_neg hk]
    unfold hereS
    exact if_neg (by show ¬ (fB k).size = 0; unfold fB; rw [fullB_size]; decide)
theorem fd_lose (k : Nat) : readS (crashS (fdS k k) []) 0 = fB 0 := by
  have h : crashS (fdS k k) [] = ⟨[⟨#[]⟩], [], -1, false⟩ := by
    unfold crashS
    simp only [fd_none]
    rfl
  rw [h]
  rfl
theorem fd_read (k : Nat) (fl : List UInt8) (hk : k ≤ 40) : mayS (crashS (fdS k k) fl) ((0 : Nat) : Int) = 0 ∧ (crashS (fdS k k) fl).waits.length ≤ 1000000 := by
  have hl := (crashN_ok (fd_ok k k hk (Nat.le_refl _)) fl (fdS k k).waits.length (Nat.le_refl _)).1
  refine ⟨?_, by show (0 : Nat) ≤ 1000000; decide⟩
  unfold mayS crashS
  simp only
  rw [if_neg (by decide), if_neg (by rw [hl]; simp [fdS])]
/-- A slice of bytes of the call's own, as fates. -/
theorem Byt.fts {w : World} {base : Nat} {A : Option Addr} {m c : Nat} {o : List UInt8} (h : Byt w base (.slice A m c) o) : m = o.length ∧ Fts w base A o := by
  obtain ⟨A', c', e⟩ := h.slice
  have hm : m = o.length := by cases e; rfl
  refine ⟨hm, fun h0 => ?_⟩
  obtain ⟨g, cap, e, hg, hl, hc⟩ := h.form h0
  cases e
  obtain ⟨cells, hcs⟩ := own_typed h g (by simp [Value.ownBlock])
  exact ⟨g, 0, rfl, hl, .inr ⟨cells, hcs⟩, fun j hj => by rw [Nat.zero_add]; exact hc j hj⟩
theorem byte_wrap (i : Nat) (h : i < 256) : ((UInt8.ofNat i).toNat : Int) = (i : Int) ∧ IntKind.u8.wrap (i : Int) = (i : Int) := by
  refine ⟨by simp; omega, ?_⟩
  simp only [IntKind.wrap_u8]
  omega

theorem Dk.grown {w w1 : World} {base h b : Nat} {V W v : Value} {d : DkS} {xs : List Int} {ok : Nat → Prop} (k : Dk w base h V W d) (hv : Kd.R (Kd.int .u8) 5 w b ok v xs) (hg : w.grownBy w1 v.ownBlock) : Dk w1 base h V W d :=
  ⟨blk_grown k.dk hg (Kd.R_ne hv k.dk (by decide)), Kd.R_over k.sr hv (fun q hq => by rw [string_E] at hq; rw [List.mem_singleton.1 hq]; decide) hg, Kd.R_over k.wt hv (fun q hq => by rw [kW_E] at hq; rw [List.mem_singleton.1 hq]; decide) hg, k.hb⟩
theorem app_u8g {ops : Array Oper} {rest : List Oper} {o : Oper} {a : Act} {Q : Exit → Act → World → Prop} {w0 W : World} (base : Nat) (hgd : o.guard = none) (s x : Operand) (v : Value) (xs : List Int) (p : Int)
    (ho : o.op = .call { callee := .builtin .append, args := #[s, x], argTypes := #[30, 30] }) (hs : a.eval s = v) (hx : a.eval x = .slice (some ⟨W.heap.size, 0, none⟩) 1 1)
    (HO : Kd.R (Kd.int .u8) 5 W base (fun _ => True) v xs) (HB : Below base w0 W) (hbase : base ≤ W.heap.size) (hl : xs.length + 1 ≤ 140737488355328)
    (h : ∀ v1 w1, Hid (Kd.R (Kd.int .u8) 5 w1 base (fun _ => True) v1 (xs ++ [p])) → Hid (Below base w0 w1) → Hid (W.grownBy w1 v.ownBlock) → wpList Try.prog ops Q rest (a.put o.dst v1) w1) :
    wpList Try.prog ops Q (o :: rest) a (W.alloc (.cells #[.int .u8 p] 5)) :=
  Kd.R_append (Kd.int .u8) base hgd s x 30 5 (.int .u8 0) 1 ho Try.underlying30 info_u8 rfl (by decide) (by omega) v xs p [.int .u8 p] (fun _ => True) (fun _ => False) hs hx rfl (fun _ hk => hk.elim) (fun _ _ => trivial) HO HB hbase (by omega)
    (fun v1 w1 h1 h2 h3 _ => h v1 w1 h1 h2 h3)
theorem Byt.of_R {w : World} {base : Nat} {v : Value} {o : List UInt8} {xs : List Int} (h : Kd.R (Kd.int .u8) 5 w base (fun _ => True) v xs) (hx : xs = nb o) : Byt w base v o := by
  subst hx
  have := Kd.own_of_R h
  rw [nb_length] at this
  exact this
set_option maxRecDepth 100000 in
set_option maxHeartbeats 16000000 in
theorem fuses_law (n : Nat) (keep : Bool) (w : World) (hn : n < 256) : Calls Try.prog 5 #[.int .u8 n, .bool keep] w fun e w' => e = .returned (.bool true) ∧ Below w.heap.size w w' := by
  have HB := Lib.hid (Below.refl w.heap.size w)
  obtain ⟨k, hk⟩ : ∃ k, n % 40 = k := ⟨_, rfl⟩
  have hk4 : k < 40 := by omega
  have m1 : ((n : Int) % 40) = (k : Int) := by omega
  have m2 : ((n : Int).tmod 40) = (k : Int) := by rw [Int.tmod_eq_emod_of_nonneg (by omega)]; exact m1
  have m3 : wrap64 (k : Int) = (k : Int) := wrap64_id (by omega) (by omega)
  have MM := Lib.hid (And.intro m1 (And.intro m2 m3))
  clear hk m1 m2 m3
  go_enter Try.func5, Try.ntmps5
  go_wp2_with fail
  refine (dk_new 1 _).mono ?_
  rintro e w1 ⟨h, V, W, rfl, hk, hb⟩
  have HK := Lib.hid hk
  have HB := Lib.hid (HB.out.trans hb)
  clear hk hb
  go_wp2_with fail
  refine (awake07 _).mono ?_
  rintro e w2 ⟨rfl, hb⟩
  have HK := Lib.hid (HK.out.below hb)
  have HB := Lib.hid (HB.out.trans (hb.mono HB.out.size))
  clear hb
  obtain ⟨m1, m2, m3⟩ := MM.out
  go_wp2_with fail
  refine (dk_fuse HK.out (k : Int)).mono ?_
  rintro e w3 ⟨rfl, hk, hb⟩
  rw [fd_start] at hk
  have HK := Lib.hid hk
  have HB := Lib.hid (HB.out.trans hb)
  clear hk hb m1 m2 m3
  go_wp2
  have y3 : wrap64 ((k : Int) + 3) = (k : Int) + 3 := wrap64_id (by omega) (by omega)
  have Y3 := Lib.hid y3; clear y3
  go_loopw [7, 8] (fun v7 v8 wr => ∃ i : Nat, v8 = .int .i64 i ∧ i ≤ k + 3 ∧ v7 = .int .i64 ((min i k : Nat) : Int) ∧ Hid (∃ W, Dk wr w.heap.size h V W (fdS k (min i k))) ∧ Hid (Below w.heap.size w wr)) (fun _ v8 _ => k + 3 - (intOf v8).toNat)
  case atStart => exact ⟨0, rfl, Nat.zero_le _, by rw [Nat.zero_min]; rfl, Lib.hid ⟨_, by rw [Nat.zero_min]; exact HK.out⟩, HB⟩
  case round =>
    clear HK HB
    obtain ⟨i, rfl, hi, rfl, HX, HB⟩ := hrel
    obtain ⟨W, hK⟩ := HX.out
    have HK := Lib.hid hK; clear hK HX
    have y3 := Y3.out
    by_cases hlt : i < k + 3
    · have x1 : decide ((i : Int) < (k : Int) + 3) = true := by clear y3; simp; omega
      have x2 : (i : Int) < (k : Int) + 3 := by clear y3; omega
      have hw := succ_w hlt (show k + 3 ≤ 140737488351232 by omega)
      obtain ⟨b1, b2⟩ := byte_wrap (i + 1) (by clear y3 hw; omega)
      have b3 : IntKind.u8.wrap ((i : Int) + 1) = ((UInt8.ofNat (i + 1)).toNat : Int) := by rw [b1, ← b2]; rfl
      have b4 : IntKind.u8.wrap (((i + 1 : Nat)) : Int) = ((UInt8.ofNat (i + 1)).toNat : Int) := by rw [b2, b1]
      have FB := Lib.hid (fun w => full_any (UInt8.ofNat (i + 1)) w)
      have hfb : fullB (UInt8.ofNat (i + 1)) = fB (i + 1) := rfl
      rw [hfb] at FB
      clear hfb
      generalize ((UInt8.ofNat (i + 1)).toNat : Int) = bb at *
      clear b1 b2
      by_cases hik : i < k
      · have hmin : min i k = i := Nat.min_eq_left (Nat.le_of_lt hik)
        have hmin2 : min (i + 1) k = i + 1 := Nat.min_eq_left hik
        rw [hmin] at HK ⊢
        clear hmin
        go_wp2_with fail
        refine (FB.out _).mono ?_
        rintro e w4 ⟨rfl, hb⟩
        have HK := Lib.hid (HK.out.below hb)
        have HB := Lib.hid (HB.out.trans (hb.mono HB.out.size))
        clear hb
        go_wp2_with fail
        refine (dk_write HK.out (fd_ok k i (by clear y3 hw b3 b4; omega) (Nat.le_of_lt hik)) 0 (fB (i + 1)) (fd_may k i hik) (fullB_size _) (by show (fdW i).length ≤ 1000000; rw [fdW_len]; clear y3 hw b3 b4; omega) HB.out.size).mono ?_
        rintro e w5 ⟨rfl, ⟨W', hk⟩, hb⟩
        rw [fd_step k i hik] at hk
        have HK := Lib.hid hk
        have HB := Lib.hid (HB.out.trans hb)
        clear hk hb b3 b4
        have HM2 := Lib.hid hmin2; clear hmin2
        go_wp2
        go_roundw
        case rel => exact ⟨i + 1, by go_num, hlt, by rw [HM2.out]; go_num, Lib.hid ⟨_, by rw [HM2.out]; exact HK.out⟩, HB⟩
        case measure => first | (rw [hw]; simp only [intOf]; clear y3 hw; omega) | (simp only [intOf]; clear y3 hw; omega)
      · have hmin : min i k = k := Nat.min_eq_right (by clear y3 hw b3 b4; omega)
        have hmin2 : min (i + 1) k = k := Nat.min_eq_right (by clear y3 hw b3 b4; omega)
        rw [hmin] at HK ⊢
        clear hmin
        have hov := fd_over k 0
        have hwe : writeE (fdS k k) 0 (fB (i + 1)) = 6 := by unfold writeE; rw [hov]; rfl
        clear hov
        go_wp2_with fail
        refine (FB.out _).mono ?_
        rintro e w4 ⟨rfl, hb⟩
        have HK := Lib.hid (HK.out.below hb)
        have HB := Lib.hid (HB.out.trans (hb.mono HB.out.size))
        clear hb
        have WB := Lib.hid (dk_write_bad HK.out 0 (fB (i + 1)) (by rw [hwe]; decide))
        rw [hwe] at WB
        clear hwe
        go_wp2_with fail
        refine WB.out.mono ?_
        rintro e wq ⟨rfl, rfl⟩
        clear b3 b4 WB
        have HM2 := Lib.hid hmin2; clear hmin2
        go_wp2
        go_roundw
        case rel => exact ⟨i + 1, by go_num, hlt, by rw [HM2.out], Lib.hid ⟨_, by rw [HM2.out]; exact HK.out⟩, HB⟩
        case measure => first | (rw [hw]; simp only [intOf]; clear y3 hw; omega) | (simp only [intOf]; clear y3 hw; omega)
    · obtain rfl : i = k + 3 := by clear y3; omega
      have hmin : min (k + 3) k = k := Nat.min_eq_right (Nat.le_add_right _ _)
      rw [hmin] at HK ⊢
      clear hmin
      have x1 : decide (((k + 3 : Nat) : Int) < (k : Int) + 3) = false := by clear y3; simp
      have hf9 : fuseS (fdS k k) 9 = fdS k k := by unfold fuseS; exact if_pos (by simp [fdS])
      have hov := fd_over k 0
      have hgo : (fdS k k).gone = true := by simp [fdS]
      have hwl : (fdS k k).waits.length = k := fdW_len k
      have HF9 := Lib.hid (And.intro hf9 (And.intro hov (And.intro hgo hwl)))
      clear hf9 hov hgo hwl
      go_wp2_with fail
      refine (dk_fuse HK.out 9).mono ?_
      rintro e w4 ⟨rfl, hk, hb⟩
      rw [HF9.out.1] at hk
      have HK := Lib.hid hk
      have HB := Lib.hid (HB.out.trans hb)
      clear hk hb x1 y3
      have RB := Lib.hid (dk_read_bad HK.out 0 (by rw [HF9.out.2.1]; decide))
      rw [HF9.out.2.1] at RB
      go_wp2_with fail
      refine RB.out.mono ?_
      rintro e w5 ⟨rfl, hb⟩
      have HK := Lib.hid (HK.out.below hb)
      have HB := Lib.hid (HB.out.trans (hb.mono HB.out.size))
      clear hb RB
      go_wp2_with fail
      refine (dk_sync_lost HK.out HF9.out.2.2.1).mono ?_
      rintro e wq ⟨rfl, rfl⟩
      have WT := Lib.hid (dk_waits HK.out)
      rw [HF9.out.2.2.2] at WT
      go_wp2_with fail
      refine WT.out.mono ?_
      rintro e wq ⟨rfl, rfl⟩
      clear WT
      go_wp2
      go_loopw [11, 12] (fun v11 v12 wr => ∃ i : Nat, v12 = .int .i64 i ∧ i ≤ k ∧ Hid (keep = false → i = 0) ∧ Hid (Kd.R (Kd.int .u8) 5 wr w.heap.size (fun _ => True) v11 (List.replicate i (255 : Int))) ∧ Hid (Dk wr w.heap.size h V W (fdS k k)) ∧ Hid (Below w.heap.size w wr)) (fun _ v12 _ => k - (intOf v12).toNat)
      case atStart => exact ⟨0, rfl, Nat.zero_le _, Lib.hid (fun _ => rfl), Lib.hid (Kd.R_nil _ _ _ _ _), HK, HB⟩
      case round =>
        clear HK HB
        obtain ⟨i, rfl, hi, HKP, HR, HK, HB⟩ := hrel
        obtain ⟨A, m, c, rfl⟩ := r_slice3 HR.out
        cases keep with
        | false =>
          obtain rfl : i = 0 := HKP.out rfl
          by_cases h0 : 0 < k
          · have x0 : decide ((0 : Int) < (k : Int)) = true := by simp; omega
            have x0n : decide (0 < k) = true := by simp; omega
            have x0c : decide (((0 : Nat) : Int) < (k : Int)) = true := by simp; omega
            have HBY := Lib.hid (Byt.of_R (o := List.replicate 0 255) HR.out (by unfold nb; rw [List.map_replicate]; rfl))
            obtain ⟨hm, hft⟩ := HBY.out.fts
            have HFT := Lib.hid hft
            rw [List.length_replicate] at hm
            have HM := Lib.hid hm
            clear hm hft HR HBY
            have CR := Lib.hid (dk_crash HK.out (fd_ok k k (by omega) (Nat.le_refl _)) A m c (List.replicate 0 255) HFT.out (by rw [List.length_replicate]; exact HM.out.symm) (by show (fdW k).length ≤ 1000000; rw [fdW_len]; omega) HB.out.size)
            have OK := Lib.hid (crashS_ok (fd_ok k k (by omega) (Nat.le_refl _)) (List.replicate 0 255))
            have RD := Lib.hid (fd_read k (List.replicate 0 255) (by omega))
            have VAL := Lib.hid (show readS (crashS (fdS k k) (List.replicate 0 255)) 0 = fB (0) from fd_lose k)
            go_wp2_with fail
            refine CR.out.mono ?_
            rintro e w6 ⟨rfl, hk, hb⟩
            have HK := Lib.hid hk
            have HB := Lib.hid (HB.out.trans hb)
            clear hk hb CR HFT
            have R0 := Lib.hid (dk_read HK.out OK.out 0 RD.out.1 RD.out.2)
            rw [VAL.out] at R0
            go_wp2_with fail
            refine R0.out.mono ?_
            rintro e w7 ⟨rfl, hb⟩
            have HB := Lib.hid (HB.out.trans (hb.mono HB.out.size))
            clear hb R0 VAL RD OK
            have FF := Lib.hid (fun w => full_any (UInt8.ofNat (0)) w)
            rw [show fullB (UInt8.ofNat (0)) = fB (0) from rfl] at FF
            rw [show ((UInt8.ofNat 0).toNat : Int) = 0 from rfl] at FF
            generalize fB (0) = S at *
            go_wp2_with fail
            refine (FF.out _).mono ?_
            rintro e w8 ⟨rfl, hb⟩
            have HB := Lib.hid (HB.out.trans (hb.mono HB.out.size))
            clear hb
            go_wp2
            go_ret
            exact ⟨rfl, HB.out⟩
          · have x0 : decide ((0 : Int) < (k : Int)) = false := by simp; omega
            have x0n : decide (0 < k) = false := by simp; omega
            have x0c : decide (((0 : Nat) : Int) < (k : Int)) = false := by simp; omega
            have HBY := Lib.hid (Byt.of_R (o := List.replicate 0 255) HR.out (by unfold nb; rw [List.map_replicate]; rfl))
            obtain ⟨hm, hft⟩ := HBY.out.fts
            have HFT := Lib.hid hft
            rw [List.length_replicate] at hm
            have HM := Lib.hid hm
            clear hm hft HR HBY
            have CR := Lib.hid (dk_crash HK.out (fd_ok k k (by omega) (Nat.le_refl _)) A m c (List.replicate 0 255) HFT.out (by rw [List.length_replicate]; exact HM.out.symm) (by show (fdW k).length ≤ 1000000; rw [fdW_len]; omega) HB.out.size)
            have OK := Lib.hid (crashS_ok (fd_ok k k (by omega) (Nat.le_refl _)) (List.replicate 0 255))
            have RD := Lib.hid (fd_read k (List.replicate 0 255) (by omega))
            have VAL := Lib.hid (show readS (crashS (fdS k k) (List.replicate 0 255)) 0 = fB (0) from fd_lose k)
            go_wp2_with fail
            refine CR.out.mono ?_
            rintro e w6 ⟨rfl, hk, hb⟩
            have HK := Lib.hid hk
            have HB := Lib.hid (HB.out.trans hb)
            clear hk hb CR HFT
            have R0 := Lib.hid (dk_read HK.out OK.out 0 RD.out.1 RD.out.2)
            rw [VAL.out] at R0
            go_wp2_with fail
            refine R0.out.mono ?_
            rintro e w7 ⟨rfl, hb⟩
            have HB := Lib.hid (HB.out.trans (hb.mono HB.out.size))
            clear hb R0 VAL RD OK
            have FF := Lib.hid (fun w => full_any (UInt8.ofNat (0)) w)
            rw [show fullB (UInt8.ofNat (0)) = fB (0) from rfl] at FF
            rw [show ((UInt8.ofNat 0).toNat : Int) = 0 from rfl] at FF
            generalize fB (0) = S at *
            go_wp2_with fail
            refine (FF.out _).mono ?_
            rintro e w8 ⟨rfl, hb⟩
            have HB := Lib.hid (HB.out.trans (hb.mono HB.out.size))
            clear hb
            go_wp2
            go_ret
            exact ⟨rfl, HB.out⟩
        | true =>
          by_cases hlt : i < k
          · have x0 : decide ((i : Int) < (k : Int)) = true := by simp; omega
            have x0n : decide (i < k) = true := by simp; omega
            have hw := succ_w hlt (show k ≤ 140737488351232 by omega)
            have HW := Lib.hid hw; clear hw
            have hl1 : (List.replicate i (255 : Int)).length + 1 ≤ 140737488355328 := by rw [List.length_replicate]; omega
            go_wp2_with (at_builtin; refine app_u8g (w0 := w) w.heap.size rfl (.tmp 73) (.tmp 74) _ (List.replicate i (255 : Int)) 255 rfl rfl rfl HR.out HB.out HB.out.size hl1 ?_; intro v1 w6 HR1 HB1 HG1; have HK1 := Lib.hid (HK.out.grown HR.out HG1.out); obtain ⟨A1, m1, c1, rfl⟩ := r_slice3 HR1.out)
            have hw := HW.out
            go_roundw
            case rel => exact ⟨i + 1, by go_num, hlt, Lib.hid (fun h => by cases h), by rw [List.replicate_succ']; exact HR1, HK1, HB1⟩
            case measure => first | exact up_w hlt hw | exact up_w2 hlt
          · obtain rfl : i = k := by omega
            have x0 : decide ((i : Int) < (i : Int)) = false := by simp
            have x0n : decide (i < i) = false := by simp
            have HBY := Lib.hid (Byt.of_R (o := List.replicate i 255) HR.out (by unfold nb; rw [List.map_replicate]; rfl))
            obtain ⟨hm, hft⟩ := HBY.out.fts
            have HFT := Lib.hid hft
            rw [List.length_replicate] at hm
            have HM := Lib.hid hm
            clear hm hft HR HBY
            have CR := Lib.hid (dk_crash HK.out (fd_ok i i (by omega) (Nat.le_refl _)) A m c (List.replicate i 255) HFT.out (by rw [List.length_replicate]; exact HM.out.symm) (by show (fdW i).length ≤ 1000000; rw [fdW_len]; omega) HB.out.size)
            have OK := Lib.hid (crashS_ok (fd_ok i i (by omega) (Nat.le_refl _)) (List.replicate i 255))
            have RD := Lib.hid (fd_read i (List.replicate i 255) (by omega))
            have VAL := Lib.hid (show readS (crashS (fdS i i) (List.replicate i 255)) 0 = fB (i) from fd_keep i)
            go_wp2_with fail
            refine CR.out.mono ?_
            rintro e w6 ⟨rfl, hk, hb⟩
            have HK := Lib.hid hk
            have HB := Lib.hid (HB.out.trans hb)
            clear hk hb CR HFT
            have R0 := Lib.hid (dk_read HK.out OK.out 0 RD.out.1 RD.out.2)
            rw [VAL.out] at R0
            go_wp2_with fail
            refine R0.out.mono ?_
            rintro e w7 ⟨rfl, hb⟩
            have HB := Lib.hid (HB.out.trans (hb.mono HB.out.size))
            clear hb R0 VAL RD OK
            have FF := Lib.hid (fun w => full_any (UInt8.ofNat (i)) w)
            rw [show fullB (UInt8.ofNat (i)) = fB (i) from rfl] at FF
            have b1 := (byte_wrap i (by omega)).1
            have b2 := (byte_wrap i (by omega)).2
            rw [b1] at FF
            clear b1
            generalize fB (i) = S at *
            go_wp2_with fail
            refine (FF.out _).mono ?_
            rintro e w8 ⟨rfl, hb⟩
            have HB := Lib.hid (HB.out.trans (hb.mono HB.out.size))
            clear hb
            go_wp2
            go_ret
            exact ⟨rfl, HB.out⟩
theorem disk_fuses_walk (a0 : Int) (a1 : Bool) (W : World) (h0 : (Lit.int .u8 a0).wf = true) :
    Calls Try.prog 5 #[.int .u8 a0, .bool a1] W fun e w' => e = .returned (.bool true) ∧ Below W.heap.size W w' := by
  have z := wf_u8 h0
  obtain ⟨n, rfl⟩ := Int.eq_ofNat_of_zero_le z.1
  exact fuses_law n a1 W (by omega)
end Go.Proofs.Ytoandabafkdgjaa.My
