/- The law DiskPlays walked: the calls one by one, then all sectors. -/
import Derived.Test.YtoandabafkdgjaaLawDP
namespace Go.Proofs.Ytoandabafkdgjaa.My
set_option linter.unusedSimpArgs false
set_option linter.unusedVariables false
open Go.RowKit Go.Proofs.YtoandabafkdgjaaW.PrintWords Go.Proofs.YtoandabafkdgjaaW.PrintLast Go.Proofs.Ytoandabafkdgjaa.Pm

theorem fts_nil (w : World) (base : Nat) (A : Option Addr) : Fts w base A [] := fun h => absurd h (by simp)
theorem crashN_nil (l : List (Nat × ByteArray)) (s : List ByteArray) : ∀ n, crashN [] l s n = s
  | 0 => rfl
  | n + 1 => by rw [crashN, crashN_nil l s n]; rfl
theorem crashS_nil (d : DkS) : crashS d [] = ⟨d.sure, [], -1, false⟩ := by unfold crashS; rw [crashN_nil]
set_option maxRecDepth 100000 in
set_option maxHeartbeats 16000000 in
theorem plays_law (n : Int) (A : Option Addr) (len cap : Nat) (ps : List OpD) (w : World) (hA : ArgD w A len ps) (hlen : len ≤ 140737488351232) (hn : -128 ≤ n ∧ n ≤ 127) :
    Calls Try.prog 4 #[.int .i8 n, .slice A len cap] w fun e w' => e = .returned (.bool true) ∧ Below w.heap.size w w' := by
  have HB := Lib.hid (Below.refl w.heap.size w)
  have HA := Lib.hid hA; clear hA
  go_enter Try.func4, Try.ntmps4
  go_wp2_with fail
  refine (awake07 _).mono ?_
  rintro e wq1 ⟨rfl, hb⟩
  have HB := Lib.hid (HB.out.trans (hb.mono HB.out.size)); clear hb
  go_wp2_with fail
  refine (few7 A len cap ps w _ HA.out HB.out hlen).mono ?_
  rintro e w2 ⟨r, rfl, hr, hb⟩
  have HB := Lib.hid (HB.out.trans (hb.mono HB.out.size)); clear hb
  cases r with
  | false =>
    clear hr
    go_wp2_with fail
    refine (awake07 _).mono ?_
    rintro e wq2 ⟨rfl, hb⟩
    have HB := Lib.hid (HB.out.trans (hb.mono HB.out.size)); clear hb
    go_wp2
    go_ret
    exact ⟨rfl, HB.out⟩
  | true =>
    have hl120 := hr rfl
    clear hr
    by_cases h30 : 30 < n
    · have x0 : decide (30 < n) = true := decide_eq_true h30
      go_wp2_with fail
      refine (awake07 _).mono ?_
      rintro e wq3 ⟨rfl, hb⟩
      have HB := Lib.hid (HB.out.trans (hb.mono HB.out.size)); clear hb
      go_wp2
      go_ret
      exact ⟨rfl, HB.out⟩
    have x0 : decide (30 < n) = false := decide_eq_false h30
    clear h30
    have wn : wrap64 n = n := wrap64_id (by omega) (by omega)
    go_wp2_with fail
    refine (dk_new n _).mono ?_
    rintro e w3 ⟨h, V, W, rfl, hk, hb⟩
    have hbs := HB.out.size
    have HK := Lib.hid (hk.lower hbs)
    have HVB := Lib.hid (fun x (e : V.ownBlock = some x) => Kd.R_lt hk.sr x e)
    have HB := Lib.hid (HB.out.trans (hb.mono hbs)); clear hb hk hbs
    go_wp2_with fail
    refine (rd_new n _).mono ?_
    rintro e w4 ⟨h2, V1, V2, rfl, hk, hb⟩
    have hbs := HB.out.size
    have HR := Lib.hid (hk.lower hbs)
    have HK := Lib.hid (HK.out.below hb)
    have HVB := Lib.hid (fun x (e : V.ownBlock = some x) => Nat.lt_of_lt_of_le (HVB.out x e) hb.size)
    have HB := Lib.hid (HB.out.trans (hb.mono hbs)); clear hb hk hbs
    have HI := Lib.hid (inv_new n)
    have hN : (newS n).sure.length = newN n := List.length_replicate
    clear x0 wn
    generalize newN n = N at *
    generalize hd0 : newS n = d0 at *
    have hw0 : d0.waits = [] := by rw [← hd0]; rfl
    have HR := Lib.hid (show RDk w4 w.heap.size h2 V1 V2 (.slice none 0 0) (.slice none 0 0) (List.replicate (64 * N) 0) (List.replicate (64 * N) 0) d0.waits (-1) by rw [hw0]; exact HR.out)
    have hw0l : d0.waits.length = 0 := by rw [hw0]; rfl
    clear hw0 hd0
    go_wp2
    go_loopw [7] (fun v7 wr => ∃ (i : Nat) (d : DkS) (W A B : Value) (o1 o2 : List UInt8) (left : Int), v7 = .int .i64 i ∧ i ≤ len ∧ d.waits.length ≤ i ∧ d.sure.length = N ∧ Hid (Dk wr w.heap.size h V W d) ∧ Hid (RDk wr w.heap.size h2 V1 V2 A B o1 o2 d.waits left) ∧ Hid (Inv d o1 o2 left) ∧ Hid ((∀ x, V.ownBlock = some x → B.ownBlock ≠ some x) ∧ ∀ x, V.ownBlock = some x → x < wr.heap.size) ∧ Hid (Below w.heap.size w wr)) (fun v7 _ => len - (intOf v7).toNat)
    case atStart => exact ⟨0, d0, _, _, _, _, _, _, rfl, Nat.zero_le _, Nat.le_of_eq hw0l, hN, HK, HR, HI, Lib.hid ⟨fun x _ e => by simp [Value.ownBlock] at e, HVB.out⟩, HB⟩
    case round =>
      clear HK HR HI HB HVB hw0l hN
      obtain ⟨i, d, W, AA, BB, o1, o2, left, rfl, hi, hwl, hN, HK, HR, HI, HVB, HB⟩ := hrel
      by_cases hlt : i < len
      · have x1 : decide ((i : Int) < (len : Int)) = true := by simp; omega
        have x1n : decide (i < len) = true := by simp; omega
        have hil : i < ps.length := by rw [HA.out.1]; exact hlt
        obtain ⟨b0, off, rfl, hbl, hc⟩ := HA.out.2.1 (by omega)
        have hc := hc i hil
        have hpf := HA.out.2.2 _ (List.getElem_mem hil)
        generalize ps[i] = p at *
        obtain ⟨kd, oi, on, ob, fl, AF, m, c⟩ := p
        simp only at hc hpf
        have HPF := Lib.hid hpf; clear hpf
        have e0 : World.cell? _ ⟨b0, off + i * 5, none⟩ = some (.int .u8 kd) := (HB.out.cell (p := ⟨b0, off + i * 5, none⟩) hbl).trans (hc 0 _ rfl)
        have e1 : World.cell? _ ⟨b0, off + i * 5 + 1, none⟩ = some (.int .i64 oi) := (HB.out.cell (p := ⟨b0, off + i * 5 + 1, none⟩) hbl).trans (hc 1 _ rfl)
        have e2 : World.cell? _ ⟨b0, off + i * 5 + 2, none⟩ = some (.int .i64 on) := (HB.out.cell (p := ⟨b0, off + i * 5 + 2, none⟩) hbl).trans (hc 2 _ rfl)
        have e3 : World.cell? _ ⟨b0, off + i * 5 + 3, none⟩ = some (.string ob) := (HB.out.cell (p := ⟨b0, off + i * 5 + 3, none⟩) hbl).trans (hc 3 _ rfl)
        have e4 : World.cell? _ ⟨b0, off + i * 5 + 4, none⟩ = some (.slice AF m c) := (HB.out.cell (p := ⟨b0, off + i * 5 + 4, none⟩) hbl).trans (hc 4 _ rfl)
        clear hc hbl
        have hw := succ_w hlt hlen
        have HW := Lib.hid hw; clear hw
        have hdl := doS_len d kd oi on ob fl HI.out.ok
        have hdl1 : (doS d kd oi on ob fl).waits.length ≤ i + 1 := by omega
        have hdl2 : (doS d kd oi on ob fl).sure.length = N := by omega
        have HDL := Lib.hid (And.intro hdl1 hdl2)
        clear hdl hdl1 hdl2
        have hw1 : d.waits.length ≤ 1000000 := by omega
        obtain ⟨r, hr⟩ : ∃ r, kd % 5 = r := ⟨_, rfl⟩
        have hri : (kd : Int) % 5 = (r : Int) := by omega
        have hr5 : r < 5 := by omega
        have OPB := Lib.hid (Below.refl wr.heap.size wr)
        have HP := Lib.hid (blk_new wr (.cells #[.int .u8 kd, .int .i64 oi, .int .i64 on, .string ob, .slice AF m c] 40))
        have HK := Lib.hid (HK.out.alloc (.cells #[.int .u8 kd, .int .i64 oi, .int .i64 on, .string ob, .slice AF m c] 40))
        have HR := Lib.hid (HR.out.alloc (.cells #[.int .u8 kd, .int .i64 oi, .int .i64 on, .string ob, .slice AF m c] 40))
        have HVB := Lib.hid (And.intro HVB.out.1 (fun x e => Nat.lt_of_lt_of_le (HVB.out.2 x e) (below_alloc (Below.refl _ wr) (.cells #[.int .u8 kd, .int .i64 oi, .int .i64 on, .string ob, .slice AF m c] 40)).size))
        have HB := Lib.hid (HB.out.alloc HB.out.size (.cells #[.int .u8 kd, .int .i64 oi, .int .i64 on, .string ob, .slice AF m c] 40))
        have p0 := (blk_cell HP.out 0).trans rfl
        have p1 := (blk_cell HP.out 1).trans rfl
        have p2 := (blk_cell HP.out 2).trans rfl
        have p3 := (blk_cell HP.out 3).trans rfl
        have p4 := (blk_cell HP.out 4).trans rfl
        rcases (show r = 0 ∨ r = 1 ∨ r = 2 ∨ r = 3 ∨ r = 4 by omega) with rfl | rfl | rfl | rfl | rfl
        · clear hr5
          have DD := Lib.hid (da_write HK.out HI.out.ok kd hr oi on ob fl hw1 HB.out.size)
          clear hr
          go_wp2_with fail
          refine DD.out.mono ?_
          rintro e w5 ⟨rfl, hz, haf⟩
          clear e0 e1 e2 e3 e4 DD
          obtain ⟨⟨W2, hk2⟩, hb2, hkp2⟩ := haf
          have HR := Lib.hid (HR.out.keepD HK.out HVB.out.1 hkp2)
          have HPX := Lib.hid (hkp2.blk HP.out (fun hx => by
            obtain ⟨c9, t9, hc9, ht9⟩ := HK.out.own_type hx
            have e9 := cells_type HP.out hc9
            subst e9
            revert ht9; simp))
          have HVB := Lib.hid (And.intro HVB.out.1 (fun x e => Nat.lt_of_lt_of_le (HVB.out.2 x e) hb2.size))
          have HB := Lib.hid (HB.out.trans hb2)
          have HK := Lib.hid hk2
          clear hk2 hb2 hkp2 p0 p1 p2 p3 p4 HP
          have p0 := (blk_cell HPX.out 0).trans rfl
          have p1 := (blk_cell HPX.out 1).trans rfl
          have p2 := (blk_cell HPX.out 2).trans rfl
          have p3 := (blk_cell HPX.out 3).trans rfl
          have p4 := (blk_cell HPX.out 4).trans rfl
          have DO := Lib.hid (rd_do HR.out HI.out kd oi on ob AF m c fl (HPF.out.2.2.below HB.out) HPF.out.2.1 hw1 HPF.out.1 HB.out.size)
          unfold opV at DO
          rw [hz] at DO
          go_wp2_with fail
          refine DO.out.mono ?_
          rintro e w6 ⟨rfl, ⟨A', B', o1', o2', left', hk6, hi6, hn6⟩, hb6, hkp6⟩
          clear p0 p1 p2 p3 p4 HPX DO
          have HK := Lib.hid (HK.out.keepR HR.out HVB.out.1 hkp6)
          have HVB := Lib.hid (And.intro (fun x e1 (e2 : B'.ownBlock = some x) => (hn6 x e2).elim (fun e3 => HVB.out.1 x e1 e3) (fun e3 => absurd (HVB.out.2 x e1) (Nat.not_lt.2 e3))) (fun x e => Nat.lt_of_lt_of_le (HVB.out.2 x e) hb6.size))
          have HR := Lib.hid hk6
          have HI := Lib.hid hi6
          have HB := Lib.hid (HB.out.trans hb6)
          clear hk6 hi6 hn6 hb6 hkp6
          obtain ⟨A3, c3, hA3⟩ := Kd.R_slice HR.out.ats
          rw [List.length_map] at hA3
          subst hA3
          go_wp2
          refine start_ (n := 18) (S := fun w' => w'.cell? ⟨h2, 2, none⟩ = some (.slice A3 (doS d kd oi on ob fl).waits.length c3) ∧ Dk w' w.heap.size h V W2 (doS d kd oi on ob fl)) (ds := []) #[false, false, false, false, false, false, false, false, false, false, false, false, false, false, false, false, false, false] (by kernel_rfl) rfl rfl ⟨HR.out.dk.c2, HK.out.drew⟩ (fun hHeld => ?_)
          have HB := Lib.hid (below_drew HB.out)
          have HK := Lib.hid HK.out.drew
          have HR := Lib.hid HR.out.drew
          refine pure_ (i := 0) (N := some 90) (v := ?_) (a' := ?_) #[true, false, false, false, false, false, false, false, false, false, false, false, false, false, false, false, false, false] rfl rfl (by kernel_rfl) (fun _ _ _ h => h) (Or.inl ⟨by rfl, ?_⟩) ?_ ?_
          rotate_left
          · intro w'
            go_simp
            with_reducible rfl
          rotate_left
          · simp only [Act.put, List.setIfInBounds_toArray, List.set_cons_zero, List.set_cons_succ, i64_w, i32_w]
            rfl
          refine pure_ (i := 1) (N := some 91) (v := ?_) (a' := ?_) #[true, true, false, false, false, false, false, false, false, false, false, false, false, false, false, false, false, false] rfl rfl (by kernel_rfl) (fun _ _ _ h => h) (Or.inl ⟨by rfl, ?_⟩) ?_ ?_
          rotate_left
          · intro w'
            go_simp
            with_reducible rfl
          rotate_left
          · simp only [Act.put, List.setIfInBounds_toArray, List.set_cons_zero, List.set_cons_succ, i64_w, i32_w]
            rfl
          refine pure_ (i := 2) (N := some 92) (v := ?_) (a' := ?_) #[true, true, true, false, false, false, false, false, false, false, false, false, false, false, false, false, false, false] rfl rfl (by kernel_rfl) (fun _ _ _ h => h) (Or.inl ⟨by rfl, ?_⟩) ?_ ?_
          rotate_left
          · intro w'
            go_simp
            with_reducible rfl
          rotate_left
          · simp only [Act.put, List.setIfInBounds_toArray, List.set_cons_zero, List.set_cons_succ, i64_w, i32_w]
            rfl
          refine pure_ (i := 3) (N := some 93) (v := ?_) (a' := ?_) #[true, true, true, true, false, false, false, false, false, false, false, false, false, false, false, false, false, false] rfl rfl (by kernel_rfl) (fun _ _ _ h => h) (Or.inl ⟨by rfl, ?_⟩) ?_ ?_
          rotate_left
          · intro w'
            go_simp
            with_reducible rfl
          rotate_left
          · simp only [Act.put, List.setIfInBounds_toArray, List.set_cons_zero, List.set_cons_succ, i64_w, i32_w]
            rfl
          refine pure_ (i := 4) (N := some 94) (v := ?_) (a' := ?_) #[true, true, true, true, true, false, false, false, false, false, false, false, false, false, false, false, false, false] rfl rfl (by kernel_rfl) (fun _ _ _ h => h) (Or.inl ⟨by rfl, ?_⟩) ?_ ?_
          rotate_left
          · intro w'
            go_simp
            with_reducible rfl
          rotate_left
          · simp only [Act.put, List.setIfInBounds_toArray, List.set_cons_zero, List.set_cons_succ, i64_w, i32_w]
            rfl
          refine pure_ (i := 5) (N := some 95) (v := ?_) (a' := ?_) #[true, true, true, true, true, true, false, false, false, false, false, false, false, false, false, false, false, false] rfl rfl (by kernel_rfl) (fun _ _ _ h => h) (Or.inl ⟨by rfl, ?_⟩) ?_ ?_
          rotate_left
          · intro w'
            go_simp
            with_reducible rfl
          rotate_left
          · simp only [Act.put, List.setIfInBounds_toArray, List.set_cons_zero, List.set_cons_succ, i64_w, i32_w]
            rfl
          refine pure_ (i := 6) (N := some 96) (v := ?_) (a' := ?_) #[true, true, true, true, true, true, true, false, false, false, false, false, false, false, false, false, false, false] rfl rfl (by kernel_rfl) (fun _ _ _ h => h) (Or.inl ⟨by rfl, ?_⟩) ?_ ?_
          rotate_left
          · intro w'
            go_simp
            with_reducible rfl
          rotate_left
          · simp only [Act.put, List.setIfInBounds_toArray, List.set_cons_zero, List.set_cons_succ, i64_w, i32_w]
            rfl
          refine pure_ (i := 7) (N := some 97) (v := ?_) (a' := ?_) #[true, true, true, true, true, true, true, true, false, false, false, false, false, false, false, false, false, false] rfl rfl (by kernel_rfl) (fun _ _ _ h => h) (Or.inl ⟨by rfl, ?_⟩) ?_ ?_
          rotate_left
          · intro w'
            go_simp
            with_reducible rfl
          rotate_left
          · simp only [Act.put, List.setIfInBounds_toArray, List.set_cons_zero, List.set_cons_succ, i64_w, i32_w]
            rfl
          refine pure_ (i := 8) (N := some 98) (v := ?_) (a' := ?_) #[true, true, true, true, true, true, true, true, true, false, false, false, false, false, false, false, false, false] rfl rfl (by kernel_rfl) (fun _ _ _ h => h) (Or.inl ⟨by rfl, ?_⟩) ?_ ?_
          rotate_left
          · intro w'
            go_simp
            with_reducible rfl
          rotate_left
          · simp only [Act.put, List.setIfInBounds_toArray, List.set_cons_zero, List.set_cons_succ, i64_w, i32_w]
            rfl
          refine pure_ (i := 9) (N := some 99) (v := ?_) (a' := ?_) #[true, true, true, true, true, true, true, true, true, true, false, false, false, false, false, false, false, false] rfl rfl (by kernel_rfl) (fun _ _ _ h => h) (Or.inl ⟨by rfl, ?_⟩) ?_ ?_
          rotate_left
          · intro w'
            go_simp
            with_reducible rfl
          rotate_left
          · simp only [Act.put, List.setIfInBounds_toArray, List.set_cons_zero, List.set_cons_succ, i64_w, i32_w]
            rfl
          refine pure_ (i := 11) (N := some 101) (v := ?_) (a' := ?_) #[true, true, true, true, true, true, true, true, true, true, false, true, false, false, false, false, false, false] rfl rfl (by kernel_rfl) (fun _ _ _ h => h) (Or.inl ⟨by rfl, ?_⟩) ?_ ?_
          rotate_left
          · intro w'
            go_simp
            with_reducible rfl
          rotate_left
          · simp only [Act.put, List.setIfInBounds_toArray, List.set_cons_zero, List.set_cons_succ, i64_w, i32_w]
            rfl
          refine pure_ (i := 12) (N := some 102) (v := ?_) (a' := ?_) #[true, true, true, true, true, true, true, true, true, true, false, true, true, false, false, false, false, false] rfl rfl (by kernel_rfl) (fun _ _ _ h => h) (Or.inl ⟨by rfl, ?_⟩) ?_ ?_
          rotate_left
          · intro w'
            go_simp
            with_reducible rfl
          rotate_left
          · simp only [Act.put, List.setIfInBounds_toArray, List.set_cons_zero, List.set_cons_succ, i64_w, i32_w]
            rfl
          refine pure_ (i := 13) (N := some 103) (v := ?_) (a' := ?_) #[true, true, true, true, true, true, true, true, true, true, false, true, true, true, false, false, false, false] rfl rfl (by kernel_rfl) (fun _ _ _ h => h) (Or.inl ⟨by rfl, ?_⟩) ?_ ?_
          rotate_left
          · intro w'
            go_simp
            with_reducible rfl
          rotate_left
          · simp only [Act.put, List.setIfInBounds_toArray, List.set_cons_zero, List.set_cons_succ, i64_w, i32_w]
            rfl
          refine take_ (i := 14) (N := some 104) (v := ?_) (a' := ?_) #[true, true, true, true, true, true, true, true, true, true, false, true, true, true, true, false, false, false] rfl rfl (by kernel_rfl) (fun _ _ _ h => h) (Or.inl ⟨by rfl, ?_⟩) hHeld ?_ ?_
          rotate_left
          · rintro w' ⟨s0, s1⟩
            go_simp
            with_reducible rfl
          rotate_left
          · simp only [Act.put, List.setIfInBounds_toArray, List.set_cons_zero, List.set_cons_succ, i64_w, i32_w]
            rfl
          refine pure_ (i := 15) (N := some 105) (v := ?_) (a' := ?_) #[true, true, true, true, true, true, true, true, true, true, false, true, true, true, true, true, false, false] rfl rfl (by kernel_rfl) (fun _ _ _ h => h) (Or.inl ⟨by rfl, ?_⟩) ?_ ?_
          rotate_left
          · intro w'
            go_simp
            with_reducible rfl
          rotate_left
          · simp only [Act.put, List.setIfInBounds_toArray, List.set_cons_zero, List.set_cons_succ, i64_w, i32_w]
            rfl
          refine one_ (i := 10) (N := some 100) #[true, true, true, true, true, true, true, true, true, true, true, true, true, true, true, true, false, false] rfl rfl (by kernel_rfl) (by decide) (fun K hK => ?_)
          refine goes_ Try.func19 (by kernel_rfl) rfl #[.pointer (some ⟨h, 0, none⟩)] (by rfl) rfl rfl (by (try simp only [List.map_toArray, List.map_cons, List.map_nil]); first | done | rfl) ?_
          with_reducible refine (dk_waits hHeld.2).mono ?_
          rintro e w10 ⟨rfl, rfl⟩
          refine ⟨_, rfl, ?_⟩
          refine hK.out _ _ ⟨hHeld.1, hHeld.2⟩ (fun hHeld => ?_)
          clear hK K
          refine norm_ (a' := ?_) ?_ ?_
          rotate_left
          · show Act.put _ (some 100) _ = _
            simp only [Act.put, List.setIfInBounds_toArray, List.set_cons_zero, List.set_cons_succ, i64_w, i32_w]
            rfl
          refine pure_ (i := 16) (N := some 106) (v := ?_) (a' := ?_) #[true, true, true, true, true, true, true, true, true, true, true, true, true, true, true, true, true, false] rfl rfl (by kernel_rfl) (fun _ _ _ h => h) (Or.inl ⟨by rfl, ?_⟩) ?_ ?_
          rotate_left
          · intro w'
            go_simp
            with_reducible rfl
          rotate_left
          · simp only [Act.put, List.setIfInBounds_toArray, List.set_cons_zero, List.set_cons_succ, i64_w, i32_w]
            rfl
          refine pure_ (i := 17) (N := some 107) (v := ?_) (a' := ?_) #[true, true, true, true, true, true, true, true, true, true, true, true, true, true, true, true, true, true] rfl rfl (by kernel_rfl) (fun _ _ _ h => h) (Or.inl ⟨by rfl, ?_⟩) ?_ ?_
          rotate_left
          · intro w'
            go_simp
            with_reducible rfl
          rotate_left
          · simp only [Act.put, List.setIfInBounds_toArray, List.set_cons_zero, List.set_cons_succ, i64_w, i32_w]
            rfl
          refine done_ (by kernel_rfl) ?_
          clear hHeld
          have hw := HW.out
          go_wp2
          go_roundw
          case rel => exact ⟨i + 1, doS d kd oi on ob fl, W2, _, B', o1', o2', left', by go_num, hlt, HDL.out.1, HDL.out.2, HK, HR, HI, HVB, HB⟩
          case measure => first | exact up_w hlt hw | exact up_w2 hlt
        · clear hr5
          have DD := Lib.hid (da_read HK.out HI.out.ok kd hr oi on ob fl hw1 HB.out.size)
          clear hr
          go_wp2_with fail
          refine DD.out.mono ?_
          rintro e w5 ⟨rfl, haf⟩
          clear e0 e1 e2 e3 e4 DD
          obtain ⟨⟨W2, hk2⟩, hb2, hkp2⟩ := haf
          have HR := Lib.hid (HR.out.keepD HK.out HVB.out.1 hkp2)
          have HPX := Lib.hid (hkp2.blk HP.out (fun hx => by
            obtain ⟨c9, t9, hc9, ht9⟩ := HK.out.own_type hx
            have e9 := cells_type HP.out hc9
            subst e9
            revert ht9; simp))
          have HVB := Lib.hid (And.intro HVB.out.1 (fun x e => Nat.lt_of_lt_of_le (HVB.out.2 x e) hb2.size))
          have HB := Lib.hid (HB.out.trans hb2)
          have HK := Lib.hid hk2
          clear hk2 hb2 hkp2 p0 p1 p2 p3 p4 HP
          have p0 := (blk_cell HPX.out 0).trans rfl
          have p1 := (blk_cell HPX.out 1).trans rfl
          have p2 := (blk_cell HPX.out 2).trans rfl
          have p3 := (blk_cell HPX.out 3).trans rfl
          have p4 := (blk_cell HPX.out 4).trans rfl
          have DO := Lib.hid (rd_do HR.out HI.out kd oi on ob AF m c fl (HPF.out.2.2.below HB.out) HPF.out.2.1 hw1 HPF.out.1 HB.out.size)
          unfold opV at DO
          skip
          go_wp2_with fail
          refine DO.out.mono ?_
          rintro e w6 ⟨rfl, ⟨A', B', o1', o2', left', hk6, hi6, hn6⟩, hb6, hkp6⟩
          clear p0 p1 p2 p3 p4 HPX DO
          have HK := Lib.hid (HK.out.keepR HR.out HVB.out.1 hkp6)
          have HVB := Lib.hid (And.intro (fun x e1 (e2 : B'.ownBlock = some x) => (hn6 x e2).elim (fun e3 => HVB.out.1 x e1 e3) (fun e3 => absurd (HVB.out.2 x e1) (Nat.not_lt.2 e3))) (fun x e => Nat.lt_of_lt_of_le (HVB.out.2 x e) hb6.size))
          have HR := Lib.hid hk6
          have HI := Lib.hid hi6
          have HB := Lib.hid (HB.out.trans hb6)
          clear hk6 hi6 hn6 hb6 hkp6
          obtain ⟨A3, c3, hA3⟩ := Kd.R_slice HR.out.ats
          rw [List.length_map] at hA3
          subst hA3
          go_wp2
          refine start_ (n := 18) (S := fun w' => w'.cell? ⟨h2, 2, none⟩ = some (.slice A3 (doS d kd oi on ob fl).waits.length c3) ∧ Dk w' w.heap.size h V W2 (doS d kd oi on ob fl)) (ds := []) #[false, false, false, false, false, false, false, false, false, false, false, false, false, false, false, false, false, false] (by kernel_rfl) rfl rfl ⟨HR.out.dk.c2, HK.out.drew⟩ (fun hHeld => ?_)
          have HB := Lib.hid (below_drew HB.out)
          have HK := Lib.hid HK.out.drew
          have HR := Lib.hid HR.out.drew
          refine pure_ (i := 0) (N := some 90) (v := ?_) (a' := ?_) #[true, false, false, false, false, false, false, false, false, false, false, false, false, false, false, false, false, false] rfl rfl (by kernel_rfl) (fun _ _ _ h => h) (Or.inl ⟨by rfl, ?_⟩) ?_ ?_
          rotate_left
          · intro w'
            go_simp
            with_reducible rfl
          rotate_left
          · simp only [Act.put, List.setIfInBounds_toArray, List.set_cons_zero, List.set_cons_succ, i64_w, i32_w]
            rfl
          refine pure_ (i := 1) (N := some 91) (v := ?_) (a' := ?_) #[true, true, false, false, false, false, false, false, false, false, false, false, false, false, false, false, false, false] rfl rfl (by kernel_rfl) (fun _ _ _ h => h) (Or.inl ⟨by rfl, ?_⟩) ?_ ?_
          rotate_left
          · intro w'
            go_simp
            with_reducible rfl
          rotate_left
          · simp only [Act.put, List.setIfInBounds_toArray, List.set_cons_zero, List.set_cons_succ, i64_w, i32_w]
            rfl
          refine pure_ (i := 2) (N := some 92) (v := ?_) (a' := ?_) #[true, true, true, false, false, false, false, false, false, false, false, false, false, false, false, false, false, false] rfl rfl (by kernel_rfl) (fun _ _ _ h => h) (Or.inl ⟨by rfl, ?_⟩) ?_ ?_
          rotate_left
          · intro w'
            go_simp
            with_reducible rfl
          rotate_left
          · simp only [Act.put, List.setIfInBounds_toArray, List.set_cons_zero, List.set_cons_succ, i64_w, i32_w]
            rfl
          refine pure_ (i := 3) (N := some 93) (v := ?_) (a' := ?_) #[true, true, true, true, false, false, false, false, false, false, false, false, false, false, false, false, false, false] rfl rfl (by kernel_rfl) (fun _ _ _ h => h) (Or.inl ⟨by rfl, ?_⟩) ?_ ?_
          rotate_left
          · intro w'
            go_simp
            with_reducible rfl
          rotate_left
          · simp only [Act.put, List.setIfInBounds_toArray, List.set_cons_zero, List.set_cons_succ, i64_w, i32_w]
            rfl
          refine pure_ (i := 4) (N := some 94) (v := ?_) (a' := ?_) #[true, true, true, true, true, false, false, false, false, false, false, false, false, false, false, false, false, false] rfl rfl (by kernel_rfl) (fun _ _ _ h => h) (Or.inl ⟨by rfl, ?_⟩) ?_ ?_
          rotate_left
          · intro w'
            go_simp
            with_reducible rfl
          rotate_left
          · simp only [Act.put, List.setIfInBounds_toArray, List.set_cons_zero, List.set_cons_succ, i64_w, i32_w]
            rfl
          refine pure_ (i := 5) (N := some 95) (v := ?_) (a' := ?_) #[true, true, true, true, true, true, false, false, false, false, false, false, false, false, false, false, false, false] rfl rfl (by kernel_rfl) (fun _ _ _ h => h) (Or.inl ⟨by rfl, ?_⟩) ?_ ?_
          rotate_left
          · intro w'
            go_simp
            with_reducible rfl
          rotate_left
          · simp only [Act.put, List.setIfInBounds_toArray, List.set_cons_zero, List.set_cons_succ, i64_w, i32_w]
            rfl
          refine pure_ (i := 6) (N := some 96) (v := ?_) (a' := ?_) #[true, true, true, true, true, true, true, false, false, false, false, false, false, false, false, false, false, false] rfl rfl (by kernel_rfl) (fun _ _ _ h => h) (Or.inl ⟨by rfl, ?_⟩) ?_ ?_
          rotate_left
          · intro w'
            go_simp
            with_reducible rfl
          rotate_left
          · simp only [Act.put, List.setIfInBounds_toArray, List.set_cons_zero, List.set_cons_succ, i64_w, i32_w]
            rfl
          refine pure_ (i := 7) (N := some 97) (v := ?_) (a' := ?_) #[true, true, true, true, true, true, true, true, false, false, false, false, false, false, false, false, false, false] rfl rfl (by kernel_rfl) (fun _ _ _ h => h) (Or.inl ⟨by rfl, ?_⟩) ?_ ?_
          rotate_left
          · intro w'
            go_simp
            with_reducible rfl
          rotate_left
          · simp only [Act.put, List.setIfInBounds_toArray, List.set_cons_zero, List.set_cons_succ, i64_w, i32_w]
            rfl
          refine pure_ (i := 8) (N := some 98) (v := ?_) (a' := ?_) #[true, true, true, true, true, true, true, true, true, false, false, false, false, false, false, false, false, false] rfl rfl (by kernel_rfl) (fun _ _ _ h => h) (Or.inl ⟨by rfl, ?_⟩) ?_ ?_
          rotate_left
          · intro w'
            go_simp
            with_reducible rfl
          rotate_left
          · simp only [Act.put, List.setIfInBounds_toArray, List.set_cons_zero, List.set_cons_succ, i64_w, i32_w]
            rfl
          refine pure_ (i := 9) (N := some 99) (v := ?_) (a' := ?_) #[true, true, true, true, true, true, true, true, true, true, false, false, false, false, false, false, false, false] rfl rfl (by kernel_rfl) (fun _ _ _ h => h) (Or.inl ⟨by rfl, ?_⟩) ?_ ?_
          rotate_left
          · intro w'
            go_simp
            with_reducible rfl
          rotate_left
          · simp only [Act.put, List.setIfInBounds_toArray, List.set_cons_zero, List.set_cons_succ, i64_w, i32_w]
            rfl
          refine pure_ (i := 11) (N := some 101) (v := ?_) (a' := ?_) #[true, true, true, true, true, true, true, true, true, true, false, true, false, false, false, false, false, false] rfl rfl (by kernel_rfl) (fun _ _ _ h => h) (Or.inl ⟨by rfl, ?_⟩) ?_ ?_
          rotate_left
          · intro w'
            go_simp
            with_reducible rfl
          rotate_left
          · simp only [Act.put, List.setIfInBounds_toArray, List.set_cons_zero, List.set_cons_succ, i64_w, i32_w]
            rfl
          refine pure_ (i := 12) (N := some 102) (v := ?_) (a' := ?_) #[true, true, true, true, true, true, true, true, true, true, false, true, true, false, false, false, false, false] rfl rfl (by kernel_rfl) (fun _ _ _ h => h) (Or.inl ⟨by rfl, ?_⟩) ?_ ?_
          rotate_left
          · intro w'
            go_simp
            with_reducible rfl
          rotate_left
          · simp only [Act.put, List.setIfInBounds_toArray, List.set_cons_zero, List.set_cons_succ, i64_w, i32_w]
            rfl
          refine pure_ (i := 13) (N := some 103) (v := ?_) (a' := ?_) #[true, true, true, true, true, true, true, true, true, true, false, true, true, true, false, false, false, false] rfl rfl (by kernel_rfl) (fun _ _ _ h => h) (Or.inl ⟨by rfl, ?_⟩) ?_ ?_
          rotate_left
          · intro w'
            go_simp
            with_reducible rfl
          rotate_left
          · simp only [Act.put, List.setIfInBounds_toArray, List.set_cons_zero, List.set_cons_succ, i64_w, i32_w]
            rfl
          refine take_ (i := 14) (N := some 104) (v := ?_) (a' := ?_) #[true, true, true, true, true, true, true, true, true, true, false, true, true, true, true, false, false, false] rfl rfl (by kernel_rfl) (fun _ _ _ h => h) (Or.inl ⟨by rfl, ?_⟩) hHeld ?_ ?_
          rotate_left
          · rintro w' ⟨s0, s1⟩
            go_simp
            with_reducible rfl
          rotate_left
          · simp only [Act.put, List.setIfInBounds_toArray, List.set_cons_zero, List.set_cons_succ, i64_w, i32_w]
            rfl
          refine pure_ (i := 15) (N := some 105) (v := ?_) (a' := ?_) #[true, true, true, true, true, true, true, true, true, true, false, true, true, true, true, true, false, false] rfl rfl (by kernel_rfl) (fun _ _ _ h => h) (Or.inl ⟨by rfl, ?_⟩) ?_ ?_
          rotate_left
          · intro w'
            go_simp
            with_reducible rfl
          rotate_left
          · simp only [Act.put, List.setIfInBounds_toArray, List.set_cons_zero, List.set_cons_succ, i64_w, i32_w]
            rfl
          refine one_ (i := 10) (N := some 100) #[true, true, true, true, true, true, true, true, true, true, true, true, true, true, true, true, false, false] rfl rfl (by kernel_rfl) (by decide) (fun K hK => ?_)
          refine goes_ Try.func19 (by kernel_rfl) rfl #[.pointer (some ⟨h, 0, none⟩)] (by rfl) rfl rfl (by (try simp only [List.map_toArray, List.map_cons, List.map_nil]); first | done | rfl) ?_
          with_reducible refine (dk_waits hHeld.2).mono ?_
          rintro e w10 ⟨rfl, rfl⟩
          refine ⟨_, rfl, ?_⟩
          refine hK.out _ _ ⟨hHeld.1, hHeld.2⟩ (fun hHeld => ?_)
          clear hK K
          refine norm_ (a' := ?_) ?_ ?_
          rotate_left
          · show Act.put _ (some 100) _ = _
            simp only [Act.put, List.setIfInBounds_toArray, List.set_cons_zero, List.set_cons_succ, i64_w, i32_w]
            rfl
          refine pure_ (i := 16) (N := some 106) (v := ?_) (a' := ?_) #[true, true, true, true, true, true, true, true, true, true, true, true, true, true, true, true, true, false] rfl rfl (by kernel_rfl) (fun _ _ _ h => h) (Or.inl ⟨by rfl, ?_⟩) ?_ ?_
          rotate_left
          · intro w'
            go_simp
            with_reducible rfl
          rotate_left
          · simp only [Act.put, List.setIfInBounds_toArray, List.set_cons_zero, List.set_cons_succ, i64_w, i32_w]
            rfl
          refine pure_ (i := 17) (N := some 107) (v := ?_) (a' := ?_) #[true, true, true, true, true, true, true, true, true, true, true, true, true, true, true, true, true, true] rfl rfl (by kernel_rfl) (fun _ _ _ h => h) (Or.inl ⟨by rfl, ?_⟩) ?_ ?_
          rotate_left
          · intro w'
            go_simp
            with_reducible rfl
          rotate_left
          · simp only [Act.put, List.setIfInBounds_toArray, List.set_cons_zero, List.set_cons_succ, i64_w, i32_w]
            rfl
          refine done_ (by kernel_rfl) ?_
          clear hHeld
          have hw := HW.out
          go_wp2
          go_roundw
          case rel => exact ⟨i + 1, doS d kd oi on ob fl, W2, _, B', o1', o2', left', by go_num, hlt, HDL.out.1, HDL.out.2, HK, HR, HI, HVB, HB⟩
          case measure => first | exact up_w hlt hw | exact up_w2 hlt
        · clear hr5
          have DD := Lib.hid (da_sync HK.out HI.out.ok kd hr oi on ob fl hw1 HB.out.size)
          clear hr
          go_wp2_with fail
          refine DD.out.mono ?_
          rintro e w5 ⟨rfl, hz, haf⟩
          clear e0 e1 e2 e3 e4 DD
          obtain ⟨⟨W2, hk2⟩, hb2, hkp2⟩ := haf
          have HR := Lib.hid (HR.out.keepD HK.out HVB.out.1 hkp2)
          have HPX := Lib.hid (hkp2.blk HP.out (fun hx => by
            obtain ⟨c9, t9, hc9, ht9⟩ := HK.out.own_type hx
            have e9 := cells_type HP.out hc9
            subst e9
            revert ht9; simp))
          have HVB := Lib.hid (And.intro HVB.out.1 (fun x e => Nat.lt_of_lt_of_le (HVB.out.2 x e) hb2.size))
          have HB := Lib.hid (HB.out.trans hb2)
          have HK := Lib.hid hk2
          clear hk2 hb2 hkp2 p0 p1 p2 p3 p4 HP
          have p0 := (blk_cell HPX.out 0).trans rfl
          have p1 := (blk_cell HPX.out 1).trans rfl
          have p2 := (blk_cell HPX.out 2).trans rfl
          have p3 := (blk_cell HPX.out 3).trans rfl
          have p4 := (blk_cell HPX.out 4).trans rfl
          have DO := Lib.hid (rd_do HR.out HI.out kd oi on ob AF m c fl (HPF.out.2.2.below HB.out) HPF.out.2.1 hw1 HPF.out.1 HB.out.size)
          unfold opV at DO
          rw [hz] at DO
          go_wp2_with fail
          refine DO.out.mono ?_
          rintro e w6 ⟨rfl, ⟨A', B', o1', o2', left', hk6, hi6, hn6⟩, hb6, hkp6⟩
          clear p0 p1 p2 p3 p4 HPX DO
          have HK := Lib.hid (HK.out.keepR HR.out HVB.out.1 hkp6)
          have HVB := Lib.hid (And.intro (fun x e1 (e2 : B'.ownBlock = some x) => (hn6 x e2).elim (fun e3 => HVB.out.1 x e1 e3) (fun e3 => absurd (HVB.out.2 x e1) (Nat.not_lt.2 e3))) (fun x e => Nat.lt_of_lt_of_le (HVB.out.2 x e) hb6.size))
          have HR := Lib.hid hk6
          have HI := Lib.hid hi6
          have HB := Lib.hid (HB.out.trans hb6)
          clear hk6 hi6 hn6 hb6 hkp6
          obtain ⟨A3, c3, hA3⟩ := Kd.R_slice HR.out.ats
          rw [List.length_map] at hA3
          subst hA3
          go_wp2
          refine start_ (n := 18) (S := fun w' => w'.cell? ⟨h2, 2, none⟩ = some (.slice A3 (doS d kd oi on ob fl).waits.length c3) ∧ Dk w' w.heap.size h V W2 (doS d kd oi on ob fl)) (ds := []) #[false, false, false, false, false, false, false, false, false, false, false, false, false, false, false, false, false, false] (by kernel_rfl) rfl rfl ⟨HR.out.dk.c2, HK.out.drew⟩ (fun hHeld => ?_)
          have HB := Lib.hid (below_drew HB.out)
          have HK := Lib.hid HK.out.drew
          have HR := Lib.hid HR.out.drew
          refine pure_ (i := 0) (N := some 90) (v := ?_) (a' := ?_) #[true, false, false, false, false, false, false, false, false, false, false, false, false, false, false, false, false, false] rfl rfl (by kernel_rfl) (fun _ _ _ h => h) (Or.inl ⟨by rfl, ?_⟩) ?_ ?_
          rotate_left
          · intro w'
            go_simp
            with_reducible rfl
          rotate_left
          · simp only [Act.put, List.setIfInBounds_toArray, List.set_cons_zero, List.set_cons_succ, i64_w, i32_w]
            rfl
          refine pure_ (i := 1) (N := some 91) (v := ?_) (a' := ?_) #[true, true, false, false, false, false, false, false, false, false, false, false, false, false, false, false, false, false] rfl rfl (by kernel_rfl) (fun _ _ _ h => h) (Or.inl ⟨by rfl, ?_⟩) ?_ ?_
          rotate_left
          · intro w'
            go_simp
            with_reducible rfl
          rotate_left
          · simp only [Act.put, List.setIfInBounds_toArray, List.set_cons_zero, List.set_cons_succ, i64_w, i32_w]
            rfl
          refine pure_ (i := 2) (N := some 92) (v := ?_) (a' := ?_) #[true, true, true, false, false, false, false, false, false, false, false, false, false, false, false, false, false, false] rfl rfl (by kernel_rfl) (fun _ _ _ h => h) (Or.inl ⟨by rfl, ?_⟩) ?_ ?_
          rotate_left
          · intro w'
            go_simp
            with_reducible rfl
          rotate_left
          · simp only [Act.put, List.setIfInBounds_toArray, List.set_cons_zero, List.set_cons_succ, i64_w, i32_w]
            rfl
          refine pure_ (i := 3) (N := some 93) (v := ?_) (a' := ?_) #[true, true, true, true, false, false, false, false, false, false, false, false, false, false, false, false, false, false] rfl rfl (by kernel_rfl) (fun _ _ _ h => h) (Or.inl ⟨by rfl, ?_⟩) ?_ ?_
          rotate_left
          · intro w'
            go_simp
            with_reducible rfl
          rotate_left
          · simp only [Act.put, List.setIfInBounds_toArray, List.set_cons_zero, List.set_cons_succ, i64_w, i32_w]
            rfl
          refine pure_ (i := 4) (N := some 94) (v := ?_) (a' := ?_) #[true, true, true, true, true, false, false, false, false, false, false, false, false, false, false, false, false, false] rfl rfl (by kernel_rfl) (fun _ _ _ h => h) (Or.inl ⟨by rfl, ?_⟩) ?_ ?_
          rotate_left
          · intro w'
            go_simp
            with_reducible rfl
          rotate_left
          · simp only [Act.put, List.setIfInBounds_toArray, List.set_cons_zero, List.set_cons_succ, i64_w, i32_w]
            rfl
          refine pure_ (i := 5) (N := some 95) (v := ?_) (a' := ?_) #[true, true, true, true, true, true, false, false, false, false, false, false, false, false, false, false, false, false] rfl rfl (by kernel_rfl) (fun _ _ _ h => h) (Or.inl ⟨by rfl, ?_⟩) ?_ ?_
          rotate_left
          · intro w'
            go_simp
            with_reducible rfl
          rotate_left
          · simp only [Act.put, List.setIfInBounds_toArray, List.set_cons_zero, List.set_cons_succ, i64_w, i32_w]
            rfl
          refine pure_ (i := 6) (N := some 96) (v := ?_) (a' := ?_) #[true, true, true, true, true, true, true, false, false, false, false, false, false, false, false, false, false, false] rfl rfl (by kernel_rfl) (fun _ _ _ h => h) (Or.inl ⟨by rfl, ?_⟩) ?_ ?_
          rotate_left
          · intro w'
            go_simp
            with_reducible rfl
          rotate_left
          · simp only [Act.put, List.setIfInBounds_toArray, List.set_cons_zero, List.set_cons_succ, i64_w, i32_w]
            rfl
          refine pure_ (i := 7) (N := some 97) (v := ?_) (a' := ?_) #[true, true, true, true, true, true, true, true, false, false, false, false, false, false, false, false, false, false] rfl rfl (by kernel_rfl) (fun _ _ _ h => h) (Or.inl ⟨by rfl, ?_⟩) ?_ ?_
          rotate_left
          · intro w'
            go_simp
            with_reducible rfl
          rotate_left
          · simp only [Act.put, List.setIfInBounds_toArray, List.set_cons_zero, List.set_cons_succ, i64_w, i32_w]
            rfl
          refine pure_ (i := 8) (N := some 98) (v := ?_) (a' := ?_) #[true, true, true, true, true, true, true, true, true, false, false, false, false, false, false, false, false, false] rfl rfl (by kernel_rfl) (fun _ _ _ h => h) (Or.inl ⟨by rfl, ?_⟩) ?_ ?_
          rotate_left
          · intro w'
            go_simp
            with_reducible rfl
          rotate_left
          · simp only [Act.put, List.setIfInBounds_toArray, List.set_cons_zero, List.set_cons_succ, i64_w, i32_w]
            rfl
          refine pure_ (i := 9) (N := some 99) (v := ?_) (a' := ?_) #[true, true, true, true, true, true, true, true, true, true, false, false, false, false, false, false, false, false] rfl rfl (by kernel_rfl) (fun _ _ _ h => h) (Or.inl ⟨by rfl, ?_⟩) ?_ ?_
          rotate_left
          · intro w'
            go_simp
            with_reducible rfl
          rotate_left
          · simp only [Act.put, List.setIfInBounds_toArray, List.set_cons_zero, List.set_cons_succ, i64_w, i32_w]
            rfl
          refine pure_ (i := 11) (N := some 101) (v := ?_) (a' := ?_) #[true, true, true, true, true, true, true, true, true, true, false, true, false, false, false, false, false, false] rfl rfl (by kernel_rfl) (fun _ _ _ h => h) (Or.inl ⟨by rfl, ?_⟩) ?_ ?_
          rotate_left
          · intro w'
            go_simp
            with_reducible rfl
          rotate_left
          · simp only [Act.put, List.setIfInBounds_toArray, List.set_cons_zero, List.set_cons_succ, i64_w, i32_w]
            rfl
          refine pure_ (i := 12) (N := some 102) (v := ?_) (a' := ?_) #[true, true, true, true, true, true, true, true, true, true, false, true, true, false, false, false, false, false] rfl rfl (by kernel_rfl) (fun _ _ _ h => h) (Or.inl ⟨by rfl, ?_⟩) ?_ ?_
          rotate_left
          · intro w'
            go_simp
            with_reducible rfl
          rotate_left
          · simp only [Act.put, List.setIfInBounds_toArray, List.set_cons_zero, List.set_cons_succ, i64_w, i32_w]
            rfl
          refine pure_ (i := 13) (N := some 103) (v := ?_) (a' := ?_) #[true, true, true, true, true, true, true, true, true, true, false, true, true, true, false, false, false, false] rfl rfl (by kernel_rfl) (fun _ _ _ h => h) (Or.inl ⟨by rfl, ?_⟩) ?_ ?_
          rotate_left
          · intro w'
            go_simp
            with_reducible rfl
          rotate_left
          · simp only [Act.put, List.setIfInBounds_toArray, List.set_cons_zero, List.set_cons_succ, i64_w, i32_w]
            rfl
          refine take_ (i := 14) (N := some 104) (v := ?_) (a' := ?_) #[true, true, true, true, true, true, true, true, true, true, false, true, true, true, true, false, false, false] rfl rfl (by kernel_rfl) (fun _ _ _ h => h) (Or.inl ⟨by rfl, ?_⟩) hHeld ?_ ?_
          rotate_left
          · rintro w' ⟨s0, s1⟩
            go_simp
            with_reducible rfl
          rotate_left
          · simp only [Act.put, List.setIfInBounds_toArray, List.set_cons_zero, List.set_cons_succ, i64_w, i32_w]
            rfl
          refine pure_ (i := 15) (N := some 105) (v := ?_) (a' := ?_) #[true, true, true, true, true, true, true, true, true, true, false, true, true, true, true, true, false, false] rfl rfl (by kernel_rfl) (fun _ _ _ h => h) (Or.inl ⟨by rfl, ?_⟩) ?_ ?_
          rotate_left
          · intro w'
            go_simp
            with_reducible rfl
          rotate_left
          · simp only [Act.put, List.setIfInBounds_toArray, List.set_cons_zero, List.set_cons_succ, i64_w, i32_w]
            rfl
          refine one_ (i := 10) (N := some 100) #[true, true, true, true, true, true, true, true, true, true, true, true, true, true, true, true, false, false] rfl rfl (by kernel_rfl) (by decide) (fun K hK => ?_)
          refine goes_ Try.func19 (by kernel_rfl) rfl #[.pointer (some ⟨h, 0, none⟩)] (by rfl) rfl rfl (by (try simp only [List.map_toArray, List.map_cons, List.map_nil]); first | done | rfl) ?_
          with_reducible refine (dk_waits hHeld.2).mono ?_
          rintro e w10 ⟨rfl, rfl⟩
          refine ⟨_, rfl, ?_⟩
          refine hK.out _ _ ⟨hHeld.1, hHeld.2⟩ (fun hHeld => ?_)
          clear hK K
          refine norm_ (a' := ?_) ?_ ?_
          rotate_left
          · show Act.put _ (some 100) _ = _
            simp only [Act.put, List.setIfInBounds_toArray, List.set_cons_zero, List.set_cons_succ, i64_w, i32_w]
            rfl
          refine pure_ (i := 16) (N := some 106) (v := ?_) (a' := ?_) #[true, true, true, true, true, true, true, true, true, true, true, true, true, true, true, true, true, false] rfl rfl (by kernel_rfl) (fun _ _ _ h => h) (Or.inl ⟨by rfl, ?_⟩) ?_ ?_
          rotate_left
          · intro w'
            go_simp
            with_reducible rfl
          rotate_left
          · simp only [Act.put, List.setIfInBounds_toArray, List.set_cons_zero, List.set_cons_succ, i64_w, i32_w]
            rfl
          refine pure_ (i := 17) (N := some 107) (v := ?_) (a' := ?_) #[true, true, true, true, true, true, true, true, true, true, true, true, true, true, true, true, true, true] rfl rfl (by kernel_rfl) (fun _ _ _ h => h) (Or.inl ⟨by rfl, ?_⟩) ?_ ?_
          rotate_left
          · intro w'
            go_simp
            with_reducible rfl
          rotate_left
          · simp only [Act.put, List.setIfInBounds_toArray, List.set_cons_zero, List.set_cons_succ, i64_w, i32_w]
            rfl
          refine done_ (by kernel_rfl) ?_
          clear hHeld
          have hw := HW.out
          go_wp2
          go_roundw
          case rel => exact ⟨i + 1, doS d kd oi on ob fl, W2, _, B', o1', o2', left', by go_num, hlt, HDL.out.1, HDL.out.2, HK, HR, HI, HVB, HB⟩
          case measure => first | exact up_w hlt hw | exact up_w2 hlt
        · clear hr5
          have DD := Lib.hid (da_fuse HK.out kd hr oi on ob fl)
          clear hr
          go_wp2_with fail
          refine DD.out.mono ?_
          rintro e w5 ⟨rfl, hz, haf⟩
          clear e0 e1 e2 e3 e4 DD
          obtain ⟨⟨W2, hk2⟩, hb2, hkp2⟩ := haf
          have HR := Lib.hid (HR.out.keepD HK.out HVB.out.1 hkp2)
          have HPX := Lib.hid (hkp2.blk HP.out (fun hx => by
            obtain ⟨c9, t9, hc9, ht9⟩ := HK.out.own_type hx
            have e9 := cells_type HP.out hc9
            subst e9
            revert ht9; simp))
          have HVB := Lib.hid (And.intro HVB.out.1 (fun x e => Nat.lt_of_lt_of_le (HVB.out.2 x e) hb2.size))
          have HB := Lib.hid (HB.out.trans hb2)
          have HK := Lib.hid hk2
          clear hk2 hb2 hkp2 p0 p1 p2 p3 p4 HP
          have p0 := (blk_cell HPX.out 0).trans rfl
          have p1 := (blk_cell HPX.out 1).trans rfl
          have p2 := (blk_cell HPX.out 2).trans rfl
          have p3 := (blk_cell HPX.out 3).trans rfl
          have p4 := (blk_cell HPX.out 4).trans rfl
          have DO := Lib.hid (rd_do HR.out HI.out kd oi on ob AF m c fl (HPF.out.2.2.below HB.out) HPF.out.2.1 hw1 HPF.out.1 HB.out.size)
          unfold opV at DO
          rw [hz] at DO
          go_wp2_with fail
          refine DO.out.mono ?_
          rintro e w6 ⟨rfl, ⟨A', B', o1', o2', left', hk6, hi6, hn6⟩, hb6, hkp6⟩
          clear p0 p1 p2 p3 p4 HPX DO
          have HK := Lib.hid (HK.out.keepR HR.out HVB.out.1 hkp6)
          have HVB := Lib.hid (And.intro (fun x e1 (e2 : B'.ownBlock = some x) => (hn6 x e2).elim (fun e3 => HVB.out.1 x e1 e3) (fun e3 => absurd (HVB.out.2 x e1) (Nat.not_lt.2 e3))) (fun x e => Nat.lt_of_lt_of_le (HVB.out.2 x e) hb6.size))
          have HR := Lib.hid hk6
          have HI := Lib.hid hi6
          have HB := Lib.hid (HB.out.trans hb6)
          clear hk6 hi6 hn6 hb6 hkp6
          obtain ⟨A3, c3, hA3⟩ := Kd.R_slice HR.out.ats
          rw [List.length_map] at hA3
          subst hA3
          go_wp2
          refine start_ (n := 18) (S := fun w' => w'.cell? ⟨h2, 2, none⟩ = some (.slice A3 (doS d kd oi on ob fl).waits.length c3) ∧ Dk w' w.heap.size h V W2 (doS d kd oi on ob fl)) (ds := []) #[false, false, false, false, false, false, false, false, false, false, false, false, false, false, false, false, false, false] (by kernel_rfl) rfl rfl ⟨HR.out.dk.c2, HK.out.drew⟩ (fun hHeld => ?_)
          have HB := Lib.hid (below_drew HB.out)
          have HK := Lib.hid HK.out.drew
          have HR := Lib.hid HR.out.drew
          refine pure_ (i := 0) (N := some 90) (v := ?_) (a' := ?_) #[true, false, false, false, false, false, false, false, false, false, false, false, false, false, false, false, false, false] rfl rfl (by kernel_rfl) (fun _ _ _ h => h) (Or.inl ⟨by rfl, ?_⟩) ?_ ?_
          rotate_left
          · intro w'
            go_simp
            with_reducible rfl
          rotate_left
          · simp only [Act.put, List.setIfInBounds_toArray, List.set_cons_zero, List.set_cons_succ, i64_w, i32_w]
            rfl
          refine pure_ (i := 1) (N := some 91) (v := ?_) (a' := ?_) #[true, true, false, false, false, false, false, false, false, false, false, false, false, false, false, false, false, false] rfl rfl (by kernel_rfl) (fun _ _ _ h => h) (Or.inl ⟨by rfl, ?_⟩) ?_ ?_
          rotate_left
          · intro w'
            go_simp
            with_reducible rfl
          rotate_left
          · simp only [Act.put, List.setIfInBounds_toArray, List.set_cons_zero, List.set_cons_succ, i64_w, i32_w]
            rfl
          refine pure_ (i := 2) (N := some 92) (v := ?_) (a' := ?_) #[true, true, true, false, false, false, false, false, false, false, false, false, false, false, false, false, false, false] rfl rfl (by kernel_rfl) (fun _ _ _ h => h) (Or.inl ⟨by rfl, ?_⟩) ?_ ?_
          rotate_left
          · intro w'
            go_simp
            with_reducible rfl
          rotate_left
          · simp only [Act.put, List.setIfInBounds_toArray, List.set_cons_zero, List.set_cons_succ, i64_w, i32_w]
            rfl
          refine pure_ (i := 3) (N := some 93) (v := ?_) (a' := ?_) #[true, true, true, true, false, false, false, false, false, false, false, false, false, false, false, false, false, false] rfl rfl (by kernel_rfl) (fun _ _ _ h => h) (Or.inl ⟨by rfl, ?_⟩) ?_ ?_
          rotate_left
          · intro w'
            go_simp
            with_reducible rfl
          rotate_left
          · simp only [Act.put, List.setIfInBounds_toArray, List.set_cons_zero, List.set_cons_succ, i64_w, i32_w]
            rfl
          refine pure_ (i := 4) (N := some 94) (v := ?_) (a' := ?_) #[true, true, true, true, true, false, false, false, false, false, false, false, false, false, false, false, false, false] rfl rfl (by kernel_rfl) (fun _ _ _ h => h) (Or.inl ⟨by rfl, ?_⟩) ?_ ?_
          rotate_left
          · intro w'
            go_simp
            with_reducible rfl
          rotate_left
          · simp only [Act.put, List.setIfInBounds_toArray, List.set_cons_zero, List.set_cons_succ, i64_w, i32_w]
            rfl
          refine pure_ (i := 5) (N := some 95) (v := ?_) (a' := ?_) #[true, true, true, true, true, true, false, false, false, false, false, false, false, false, false, false, false, false] rfl rfl (by kernel_rfl) (fun _ _ _ h => h) (Or.inl ⟨by rfl, ?_⟩) ?_ ?_
          rotate_left
          · intro w'
            go_simp
            with_reducible rfl
          rotate_left
          · simp only [Act.put, List.setIfInBounds_toArray, List.set_cons_zero, List.set_cons_succ, i64_w, i32_w]
            rfl
          refine pure_ (i := 6) (N := some 96) (v := ?_) (a' := ?_) #[true, true, true, true, true, true, true, false, false, false, false, false, false, false, false, false, false, false] rfl rfl (by kernel_rfl) (fun _ _ _ h => h) (Or.inl ⟨by rfl, ?_⟩) ?_ ?_
          rotate_left
          · intro w'
            go_simp
            with_reducible rfl
          rotate_left
          · simp only [Act.put, List.setIfInBounds_toArray, List.set_cons_zero, List.set_cons_succ, i64_w, i32_w]
            rfl
          refine pure_ (i := 7) (N := some 97) (v := ?_) (a' := ?_) #[true, true, true, true, true, true, true, true, false, false, false, false, false, false, false, false, false, false] rfl rfl (by kernel_rfl) (fun _ _ _ h => h) (Or.inl ⟨by rfl, ?_⟩) ?_ ?_
          rotate_left
          · intro w'
            go_simp
            with_reducible rfl
          rotate_left
          · simp only [Act.put, List.setIfInBounds_toArray, List.set_cons_zero, List.set_cons_succ, i64_w, i32_w]
            rfl
          refine pure_ (i := 8) (N := some 98) (v := ?_) (a' := ?_) #[true, true, true, true, true, true, true, true, true, false, false, false, false, false, false, false, false, false] rfl rfl (by kernel_rfl) (fun _ _ _ h => h) (Or.inl ⟨by rfl, ?_⟩) ?_ ?_
          rotate_left
          · intro w'
            go_simp
            with_reducible rfl
          rotate_left
          · simp only [Act.put, List.setIfInBounds_toArray, List.set_cons_zero, List.set_cons_succ, i64_w, i32_w]
            rfl
          refine pure_ (i := 9) (N := some 99) (v := ?_) (a' := ?_) #[true, true, true, true, true, true, true, true, true, true, false, false, false, false, false, false, false, false] rfl rfl (by kernel_rfl) (fun _ _ _ h => h) (Or.inl ⟨by rfl, ?_⟩) ?_ ?_
          rotate_left
          · intro w'
            go_simp
            with_reducible rfl
          rotate_left
          · simp only [Act.put, List.setIfInBounds_toArray, List.set_cons_zero, List.set_cons_succ, i64_w, i32_w]
            rfl
          refine pure_ (i := 11) (N := some 101) (v := ?_) (a' := ?_) #[true, true, true, true, true, true, true, true, true, true, false, true, false, false, false, false, false, false] rfl rfl (by kernel_rfl) (fun _ _ _ h => h) (Or.inl ⟨by rfl, ?_⟩) ?_ ?_
          rotate_left
          · intro w'
            go_simp
            with_reducible rfl
          rotate_left
          · simp only [Act.put, List.setIfInBounds_toArray, List.set_cons_zero, List.set_cons_succ, i64_w, i32_w]
            rfl
          refine pure_ (i := 12) (N := some 102) (v := ?_) (a' := ?_) #[true, true, true, true, true, true, true, true, true, true, false, true, true, false, false, false, false, false] rfl rfl (by kernel_rfl) (fun _ _ _ h => h) (Or.inl ⟨by rfl, ?_⟩) ?_ ?_
          rotate_left
          · intro w'
            go_simp
            with_reducible rfl
          rotate_left
          · simp only [Act.put, List.setIfInBounds_toArray, List.set_cons_zero, List.set_cons_succ, i64_w, i32_w]
            rfl
          refine pure_ (i := 13) (N := some 103) (v := ?_) (a' := ?_) #[true, true, true, true, true, true, true, true, true, true, false, true, true, true, false, false, false, false] rfl rfl (by kernel_rfl) (fun _ _ _ h => h) (Or.inl ⟨by rfl, ?_⟩) ?_ ?_
          rotate_left
          · intro w'
            go_simp
            with_reducible rfl
          rotate_left
          · simp only [Act.put, List.setIfInBounds_toArray, List.set_cons_zero, List.set_cons_succ, i64_w, i32_w]
            rfl
          refine take_ (i := 14) (N := some 104) (v := ?_) (a' := ?_) #[true, true, true, true, true, true, true, true, true, true, false, true, true, true, true, false, false, false] rfl rfl (by kernel_rfl) (fun _ _ _ h => h) (Or.inl ⟨by rfl, ?_⟩) hHeld ?_ ?_
          rotate_left
          · rintro w' ⟨s0, s1⟩
            go_simp
            with_reducible rfl
          rotate_left
          · simp only [Act.put, List.setIfInBounds_toArray, List.set_cons_zero, List.set_cons_succ, i64_w, i32_w]
            rfl
          refine pure_ (i := 15) (N := some 105) (v := ?_) (a' := ?_) #[true, true, true, true, true, true, true, true, true, true, false, true, true, true, true, true, false, false] rfl rfl (by kernel_rfl) (fun _ _ _ h => h) (Or.inl ⟨by rfl, ?_⟩) ?_ ?_
          rotate_left
          · intro w'
            go_simp
            with_reducible rfl
          rotate_left
          · simp only [Act.put, List.setIfInBounds_toArray, List.set_cons_zero, List.set_cons_succ, i64_w, i32_w]
            rfl
          refine one_ (i := 10) (N := some 100) #[true, true, true, true, true, true, true, true, true, true, true, true, true, true, true, true, false, false] rfl rfl (by kernel_rfl) (by decide) (fun K hK => ?_)
          refine goes_ Try.func19 (by kernel_rfl) rfl #[.pointer (some ⟨h, 0, none⟩)] (by rfl) rfl rfl (by (try simp only [List.map_toArray, List.map_cons, List.map_nil]); first | done | rfl) ?_
          with_reducible refine (dk_waits hHeld.2).mono ?_
          rintro e w10 ⟨rfl, rfl⟩
          refine ⟨_, rfl, ?_⟩
          refine hK.out _ _ ⟨hHeld.1, hHeld.2⟩ (fun hHeld => ?_)
          clear hK K
          refine norm_ (a' := ?_) ?_ ?_
          rotate_left
          · show Act.put _ (some 100) _ = _
            simp only [Act.put, List.setIfInBounds_toArray, List.set_cons_zero, List.set_cons_succ, i64_w, i32_w]
            rfl
          refine pure_ (i := 16) (N := some 106) (v := ?_) (a' := ?_) #[true, true, true, true, true, true, true, true, true, true, true, true, true, true, true, true, true, false] rfl rfl (by kernel_rfl) (fun _ _ _ h => h) (Or.inl ⟨by rfl, ?_⟩) ?_ ?_
          rotate_left
          · intro w'
            go_simp
            with_reducible rfl
          rotate_left
          · simp only [Act.put, List.setIfInBounds_toArray, List.set_cons_zero, List.set_cons_succ, i64_w, i32_w]
            rfl
          refine pure_ (i := 17) (N := some 107) (v := ?_) (a' := ?_) #[true, true, true, true, true, true, true, true, true, true, true, true, true, true, true, true, true, true] rfl rfl (by kernel_rfl) (fun _ _ _ h => h) (Or.inl ⟨by rfl, ?_⟩) ?_ ?_
          rotate_left
          · intro w'
            go_simp
            with_reducible rfl
          rotate_left
          · simp only [Act.put, List.setIfInBounds_toArray, List.set_cons_zero, List.set_cons_succ, i64_w, i32_w]
            rfl
          refine done_ (by kernel_rfl) ?_
          clear hHeld
          have hw := HW.out
          go_wp2
          go_roundw
          case rel => exact ⟨i + 1, doS d kd oi on ob fl, W2, _, B', o1', o2', left', by go_num, hlt, HDL.out.1, HDL.out.2, HK, HR, HI, HVB, HB⟩
          case measure => first | exact up_w hlt hw | exact up_w2 hlt
        · clear hr5
          have DD := Lib.hid (da_crash HK.out HI.out.ok kd hr oi on ob AF m c fl (HPF.out.2.2.below HB.out).fts HPF.out.2.1 hw1 HB.out.size)
          clear hr
          go_wp2_with fail
          refine DD.out.mono ?_
          rintro e w5 ⟨rfl, hz, haf⟩
          clear e0 e1 e2 e3 e4 DD
          obtain ⟨⟨W2, hk2⟩, hb2, hkp2⟩ := haf
          have HR := Lib.hid (HR.out.keepD HK.out HVB.out.1 hkp2)
          have HPX := Lib.hid (hkp2.blk HP.out (fun hx => by
            obtain ⟨c9, t9, hc9, ht9⟩ := HK.out.own_type hx
            have e9 := cells_type HP.out hc9
            subst e9
            revert ht9; simp))
          have HVB := Lib.hid (And.intro HVB.out.1 (fun x e => Nat.lt_of_lt_of_le (HVB.out.2 x e) hb2.size))
          have HB := Lib.hid (HB.out.trans hb2)
          have HK := Lib.hid hk2
          clear hk2 hb2 hkp2 p0 p1 p2 p3 p4 HP
          have p0 := (blk_cell HPX.out 0).trans rfl
          have p1 := (blk_cell HPX.out 1).trans rfl
          have p2 := (blk_cell HPX.out 2).trans rfl
          have p3 := (blk_cell HPX.out 3).trans rfl
          have p4 := (blk_cell HPX.out 4).trans rfl
          have DO := Lib.hid (rd_do HR.out HI.out kd oi on ob AF m c fl (HPF.out.2.2.below HB.out) HPF.out.2.1 hw1 HPF.out.1 HB.out.size)
          unfold opV at DO
          rw [hz] at DO
          go_wp2_with fail
          refine DO.out.mono ?_
          rintro e w6 ⟨rfl, ⟨A', B', o1', o2', left', hk6, hi6, hn6⟩, hb6, hkp6⟩
          clear p0 p1 p2 p3 p4 HPX DO
          have HK := Lib.hid (HK.out.keepR HR.out HVB.out.1 hkp6)
          have HVB := Lib.hid (And.intro (fun x e1 (e2 : B'.ownBlock = some x) => (hn6 x e2).elim (fun e3 => HVB.out.1 x e1 e3) (fun e3 => absurd (HVB.out.2 x e1) (Nat.not_lt.2 e3))) (fun x e => Nat.lt_of_lt_of_le (HVB.out.2 x e) hb6.size))
          have HR := Lib.hid hk6
          have HI := Lib.hid hi6
          have HB := Lib.hid (HB.out.trans hb6)
          clear hk6 hi6 hn6 hb6 hkp6
          obtain ⟨A3, c3, hA3⟩ := Kd.R_slice HR.out.ats
          rw [List.length_map] at hA3
          subst hA3
          go_wp2
          refine start_ (n := 18) (S := fun w' => w'.cell? ⟨h2, 2, none⟩ = some (.slice A3 (doS d kd oi on ob fl).waits.length c3) ∧ Dk w' w.heap.size h V W2 (doS d kd oi on ob fl)) (ds := []) #[false, false, false, false, false, false, false, false, false, false, false, false, false, false, false, false, false, false] (by kernel_rfl) rfl rfl ⟨HR.out.dk.c2, HK.out.drew⟩ (fun hHeld => ?_)
          have HB := Lib.hid (below_drew HB.out)
          have HK := Lib.hid HK.out.drew
          have HR := Lib.hid HR.out.drew
          refine pure_ (i := 0) (N := some 90) (v := ?_) (a' := ?_) #[true, false, false, false, false, false, false, false, false, false, false, false, false, false, false, false, false, false] rfl rfl (by kernel_rfl) (fun _ _ _ h => h) (Or.inl ⟨by rfl, ?_⟩) ?_ ?_
          rotate_left
          · intro w'
            go_simp
            with_reducible rfl
          rotate_left
          · simp only [Act.put, List.setIfInBounds_toArray, List.set_cons_zero, List.set_cons_succ, i64_w, i32_w]
            rfl
          refine pure_ (i := 1) (N := some 91) (v := ?_) (a' := ?_) #[true, true, false, false, false, false, false, false, false, false, false, false, false, false, false, false, false, false] rfl rfl (by kernel_rfl) (fun _ _ _ h => h) (Or.inl ⟨by rfl, ?_⟩) ?_ ?_
          rotate_left
          · intro w'
            go_simp
            with_reducible rfl
          rotate_left
          · simp only [Act.put, List.setIfInBounds_toArray, List.set_cons_zero, List.set_cons_succ, i64_w, i32_w]
            rfl
          refine pure_ (i := 2) (N := some 92) (v := ?_) (a' := ?_) #[true, true, true, false, false, false, false, false, false, false, false, false, false, false, false, false, false, false] rfl rfl (by kernel_rfl) (fun _ _ _ h => h) (Or.inl ⟨by rfl, ?_⟩) ?_ ?_
          rotate_left
          · intro w'
            go_simp
            with_reducible rfl
          rotate_left
          · simp only [Act.put, List.setIfInBounds_toArray, List.set_cons_zero, List.set_cons_succ, i64_w, i32_w]
            rfl
          refine pure_ (i := 3) (N := some 93) (v := ?_) (a' := ?_) #[true, true, true, true, false, false, false, false, false, false, false, false, false, false, false, false, false, false] rfl rfl (by kernel_rfl) (fun _ _ _ h => h) (Or.inl ⟨by rfl, ?_⟩) ?_ ?_
          rotate_left
          · intro w'
            go_simp
            with_reducible rfl
          rotate_left
          · simp only [Act.put, List.setIfInBounds_toArray, List.set_cons_zero, List.set_cons_succ, i64_w, i32_w]
            rfl
          refine pure_ (i := 4) (N := some 94) (v := ?_) (a' := ?_) #[true, true, true, true, true, false, false, false, false, false, false, false, false, false, false, false, false, false] rfl rfl (by kernel_rfl) (fun _ _ _ h => h) (Or.inl ⟨by rfl, ?_⟩) ?_ ?_
          rotate_left
          · intro w'
            go_simp
            with_reducible rfl
          rotate_left
          · simp only [Act.put, List.setIfInBounds_toArray, List.set_cons_zero, List.set_cons_succ, i64_w, i32_w]
            rfl
          refine pure_ (i := 5) (N := some 95) (v := ?_) (a' := ?_) #[true, true, true, true, true, true, false, false, false, false, false, false, false, false, false, false, false, false] rfl rfl (by kernel_rfl) (fun _ _ _ h => h) (Or.inl ⟨by rfl, ?_⟩) ?_ ?_
          rotate_left
          · intro w'
            go_simp
            with_reducible rfl
          rotate_left
          · simp only [Act.put, List.setIfInBounds_toArray, List.set_cons_zero, List.set_cons_succ, i64_w, i32_w]
            rfl
          refine pure_ (i := 6) (N := some 96) (v := ?_) (a' := ?_) #[true, true, true, true, true, true, true, false, false, false, false, false, false, false, false, false, false, false] rfl rfl (by kernel_rfl) (fun _ _ _ h => h) (Or.inl ⟨by rfl, ?_⟩) ?_ ?_
          rotate_left
          · intro w'
            go_simp
            with_reducible rfl
          rotate_left
          · simp only [Act.put, List.setIfInBounds_toArray, List.set_cons_zero, List.set_cons_succ, i64_w, i32_w]
            rfl
          refine pure_ (i := 7) (N := some 97) (v := ?_) (a' := ?_) #[true, true, true, true, true, true, true, true, false, false, false, false, false, false, false, false, false, false] rfl rfl (by kernel_rfl) (fun _ _ _ h => h) (Or.inl ⟨by rfl, ?_⟩) ?_ ?_
          rotate_left
          · intro w'
            go_simp
            with_reducible rfl
          rotate_left
          · simp only [Act.put, List.setIfInBounds_toArray, List.set_cons_zero, List.set_cons_succ, i64_w, i32_w]
            rfl
          refine pure_ (i := 8) (N := some 98) (v := ?_) (a' := ?_) #[true, true, true, true, true, true, true, true, true, false, false, false, false, false, false, false, false, false] rfl rfl (by kernel_rfl) (fun _ _ _ h => h) (Or.inl ⟨by rfl, ?_⟩) ?_ ?_
          rotate_left
          · intro w'
            go_simp
            with_reducible rfl
          rotate_left
          · simp only [Act.put, List.setIfInBounds_toArray, List.set_cons_zero, List.set_cons_succ, i64_w, i32_w]
            rfl
          refine pure_ (i := 9) (N := some 99) (v := ?_) (a' := ?_) #[true, true, true, true, true, true, true, true, true, true, false, false, false, false, false, false, false, false] rfl rfl (by kernel_rfl) (fun _ _ _ h => h) (Or.inl ⟨by rfl, ?_⟩) ?_ ?_
          rotate_left
          · intro w'
            go_simp
            with_reducible rfl
          rotate_left
          · simp only [Act.put, List.setIfInBounds_toArray, List.set_cons_zero, List.set_cons_succ, i64_w, i32_w]
            rfl
          refine pure_ (i := 11) (N := some 101) (v := ?_) (a' := ?_) #[true, true, true, true, true, true, true, true, true, true, false, true, false, false, false, false, false, false] rfl rfl (by kernel_rfl) (fun _ _ _ h => h) (Or.inl ⟨by rfl, ?_⟩) ?_ ?_
          rotate_left
          · intro w'
            go_simp
            with_reducible rfl
          rotate_left
          · simp only [Act.put, List.setIfInBounds_toArray, List.set_cons_zero, List.set_cons_succ, i64_w, i32_w]
            rfl
          refine pure_ (i := 12) (N := some 102) (v := ?_) (a' := ?_) #[true, true, true, true, true, true, true, true, true, true, false, true, true, false, false, false, false, false] rfl rfl (by kernel_rfl) (fun _ _ _ h => h) (Or.inl ⟨by rfl, ?_⟩) ?_ ?_
          rotate_left
          · intro w'
            go_simp
            with_reducible rfl
          rotate_left
          · simp only [Act.put, List.setIfInBounds_toArray, List.set_cons_zero, List.set_cons_succ, i64_w, i32_w]
            rfl
          refine pure_ (i := 13) (N := some 103) (v := ?_) (a' := ?_) #[true, true, true, true, true, true, true, true, true, true, false, true, true, true, false, false, false, false] rfl rfl (by kernel_rfl) (fun _ _ _ h => h) (Or.inl ⟨by rfl, ?_⟩) ?_ ?_
          rotate_left
          · intro w'
            go_simp
            with_reducible rfl
          rotate_left
          · simp only [Act.put, List.setIfInBounds_toArray, List.set_cons_zero, List.set_cons_succ, i64_w, i32_w]
            rfl
          refine take_ (i := 14) (N := some 104) (v := ?_) (a' := ?_) #[true, true, true, true, true, true, true, true, true, true, false, true, true, true, true, false, false, false] rfl rfl (by kernel_rfl) (fun _ _ _ h => h) (Or.inl ⟨by rfl, ?_⟩) hHeld ?_ ?_
          rotate_left
          · rintro w' ⟨s0, s1⟩
            go_simp
            with_reducible rfl
          rotate_left
          · simp only [Act.put, List.setIfInBounds_toArray, List.set_cons_zero, List.set_cons_succ, i64_w, i32_w]
            rfl
          refine pure_ (i := 15) (N := some 105) (v := ?_) (a' := ?_) #[true, true, true, true, true, true, true, true, true, true, false, true, true, true, true, true, false, false] rfl rfl (by kernel_rfl) (fun _ _ _ h => h) (Or.inl ⟨by rfl, ?_⟩) ?_ ?_
          rotate_left
          · intro w'
            go_simp
            with_reducible rfl
          rotate_left
          · simp only [Act.put, List.setIfInBounds_toArray, List.set_cons_zero, List.set_cons_succ, i64_w, i32_w]
            rfl
          refine one_ (i := 10) (N := some 100) #[true, true, true, true, true, true, true, true, true, true, true, true, true, true, true, true, false, false] rfl rfl (by kernel_rfl) (by decide) (fun K hK => ?_)
          refine goes_ Try.func19 (by kernel_rfl) rfl #[.pointer (some ⟨h, 0, none⟩)] (by rfl) rfl rfl (by (try simp only [List.map_toArray, List.map_cons, List.map_nil]); first | done | rfl) ?_
          with_reducible refine (dk_waits hHeld.2).mono ?_
          rintro e w10 ⟨rfl, rfl⟩
          refine ⟨_, rfl, ?_⟩
          refine hK.out _ _ ⟨hHeld.1, hHeld.2⟩ (fun hHeld => ?_)
          clear hK K
          refine norm_ (a' := ?_) ?_ ?_
          rotate_left
          · show Act.put _ (some 100) _ = _
            simp only [Act.put, List.setIfInBounds_toArray, List.set_cons_zero, List.set_cons_succ, i64_w, i32_w]
            rfl
          refine pure_ (i := 16) (N := some 106) (v := ?_) (a' := ?_) #[true, true, true, true, true, true, true, true, true, true, true, true, true, true, true, true, true, false] rfl rfl (by kernel_rfl) (fun _ _ _ h => h) (Or.inl ⟨by rfl, ?_⟩) ?_ ?_
          rotate_left
          · intro w'
            go_simp
            with_reducible rfl
          rotate_left
          · simp only [Act.put, List.setIfInBounds_toArray, List.set_cons_zero, List.set_cons_succ, i64_w, i32_w]
            rfl
          refine pure_ (i := 17) (N := some 107) (v := ?_) (a' := ?_) #[true, true, true, true, true, true, true, true, true, true, true, true, true, true, true, true, true, true] rfl rfl (by kernel_rfl) (fun _ _ _ h => h) (Or.inl ⟨by rfl, ?_⟩) ?_ ?_
          rotate_left
          · intro w'
            go_simp
            with_reducible rfl
          rotate_left
          · simp only [Act.put, List.setIfInBounds_toArray, List.set_cons_zero, List.set_cons_succ, i64_w, i32_w]
            rfl
          refine done_ (by kernel_rfl) ?_
          clear hHeld
          have hw := HW.out
          go_wp2
          go_roundw
          case rel => exact ⟨i + 1, doS d kd oi on ob fl, W2, _, B', o1', o2', left', by go_num, hlt, HDL.out.1, HDL.out.2, HK, HR, HI, HVB, HB⟩
          case measure => first | exact up_w hlt hw | exact up_w2 hlt
      · obtain rfl : i = len := by omega
        have x1 : decide ((i : Int) < (i : Int)) = false := by simp
        have x1n : decide (i < i) = false := by simp
        have hw1 : d.waits.length ≤ 1000000 := by omega
        have CR := Lib.hid (dk_crashK HK.out HI.out.ok none 0 0 [] (fts_nil _ _ _) rfl hw1 HB.out.size)
        rw [crashS_nil] at CR
        have hN4 : N ≤ 4096 := by rw [← hN]; exact HI.out.ok.len
        have OK2 := Lib.hid (show (⟨d.sure, [], -1, false⟩ : DkS).Ok from ⟨HI.out.ok.len, HI.out.ok.size, fun p hp => absurd hp (by simp), by show (-1 : Int) ≤ -1 ∧ (-1 : Int) ≤ 9223372036854775807; decide⟩)
        have MY := Lib.hid (fun (j : Nat) (hj : j < N) => show mayS (⟨d.sure, [], -1, false⟩ : DkS) j = 0 by unfold mayS; rw [if_neg (by simp), if_neg (by rw [show (⟨d.sure, [], -1, false⟩ : DkS).sure.length = N from hN]; omega)])
        have S1 := Lib.hid (show Sec N o1 (hereS d.sure) from hN ▸ HI.out.s1)
        clear hi hwl hw1
        go_wp2_with fail
        refine CR.out.mono ?_
        rintro e w5 ⟨rfl, hk5, hb5, hkp5⟩
        have HR := Lib.hid (HR.out.keepD HK.out HVB.out.1 hkp5)
        have HK := Lib.hid hk5
        have HB := Lib.hid (HB.out.trans hb5)
        clear hk5 hb5 hkp5 CR x1 x1n
        have HNI := Lib.hid (show (d.sure.length : Int) = (N : Int) by rw [hN])
        clear hN HI HVB
        obtain ⟨A1, c1, rfl, -⟩ := byt_same HR.out.s1
        have HO1 := Lib.hid S1.out.1
        go_wp2
        go_loopw [15] (fun v15 wr2 => ∃ j : Nat, v15 = .int .i64 j ∧ j ≤ N ∧ Hid (Dk wr2 w.heap.size h V (.slice none 0 0) ⟨d.sure, [], -1, false⟩) ∧ Hid (RDk wr2 w.heap.size h2 (.slice A1 o1.length c1) V2 AA BB o1 o2 d.waits left) ∧ Hid (Below w.heap.size w wr2)) (fun v15 _ => N - (intOf v15).toNat)
        case atStart => exact ⟨0, rfl, Nat.zero_le _, HK, HR, HB⟩
        case round =>
          clear HK HR HB
          obtain ⟨j, rfl, hj, HK, HR, HB⟩ := hrel
          have SC := Lib.hid (dk_sectors HK.out)
          simp only at SC
          rw [HNI.out] at SC
          by_cases hjn : j < N
          · have x1 : decide ((j : Int) < (N : Int)) = true := by simp; omega
            have x1n : decide (j < N) = true := by simp; omega
            go_wp2_with fail
            refine SC.out.mono ?_
            rintro e wq ⟨rfl, rfl⟩
            have RD := Lib.hid (dk_read HK.out OK2.out j (MY.out j hjn) (by simp))
            have hrs : readS (⟨d.sure, [], -1, false⟩ : DkS) j = hereS d.sure j := rfl
            rw [hrs] at RD
            have HSJ := Lib.hid (S1.out.2 j hjn)
            generalize hereS d.sure j = S at *
            clear hrs SC
            go_wp2_with fail
            refine RD.out.mono ?_
            rintro e w7 ⟨rfl, hb⟩
            have HK := Lib.hid (HK.out.below hb)
            have HR := Lib.hid (HR.out.below hb)
            have HB := Lib.hid (HB.out.trans (hb.mono HB.out.size))
            clear hb RD
            obtain ⟨g, c', e, -, hgl, -⟩ := HR.out.s1.form (by rw [HO1.out]; omega)
            clear hgl
            have hA : A1 = some ⟨g, 0, none⟩ := by cases e; rfl
            subst hA
            clear e
            have hcap := HR.out.s1.cap
            have HV := Lib.hid (show (⟨((o1.drop (64 * j)).take 64).toArray⟩ : ByteArray) = S by rw [HSJ.out])
            obtain ⟨q, hq⟩ : ∃ q, 64 * j = q := ⟨_, rfl⟩
            have hqi : 64 * (j : Int) = (q : Int) := by omega
            have hq1 : q + 64 ≤ o1.length := by rw [HO1.out]; omega
            rw [hq] at HV
            have hcv := HR.out.s1.sub_string q 64 (c1 - q) hq1
            rw [HV.out] at hcv
            have hcv2 := hcv
            rw [← hq] at hcv2
            have hqb : q ≤ 1000000 := by omega
            have hq2 : ¬ c1 = q := by omega
            have z0 := w64b hqb
            have z1 : wrap64 (64 * (j : Int)) = (q : Int) := by rw [hqi]; exact w64a hqb
            have u1 : (0 : Int) ≤ (q : Int) + 64 := by clear z1 z0; omega
            have u2 : (q : Int) + 64 ≤ (c1 : Int) := by clear z1 z0; omega
            have u3 : ((q : Int) + 64).toNat = q + 64 := by clear z1 z0; omega
            have u4 : wrap64 ((q : Int) + 64) = (q : Int) + 64 := by rw [z0]; rfl
            have d0 := HR.out.dk.c0
            have hw := succ_w hjn (show N ≤ 140737488351232 by clear z0 z1 u4; omega)
            have HW := Lib.hid hw; clear hw
            have u5 : (0 : Int) ≤ 64 * (j : Int) + 64 ∧ 64 * (j : Int) + 64 ≤ (c1 : Int) := by clear z1 z0 u4; omega
            clear z0 hqi hq hqb hcap
            have U := Lib.hid (And.intro u1 (And.intro u2 u3))
            go_wp2
            have hw := HW.out
            clear u4 u5 z1 u1 u2 u3 hcv hcv2 d0
            go_wp2
            go_roundw
            case rel => exact ⟨j + 1, by go_num, hjn, HK, HR, HB⟩
            case measure => first | exact up_w hjn hw | exact up_w2 hjn
          · have x1 : decide ((j : Int) < (N : Int)) = false := by simp; omega
            have x1n : decide (j < N) = false := by simp; omega
            go_wp2_with fail
            refine SC.out.mono ?_
            rintro e wq ⟨rfl, rfl⟩
            have z1 : wrap64 (64 * (N : Int)) = (o1.length : Int) := by rw [HO1.out]; exact (wrap64_id (by omega) (by omega)).trans (by omega)
            clear x1 x1n
            go_wp2
            refine start_ (n := 10) (S := fun w' => w'.cell? ⟨h2, 0, none⟩ = some (.slice A1 o1.length c1) ∧ Dk w' w.heap.size h V (.slice none 0 0) ⟨d.sure, [], -1, false⟩) (ds := []) #[false, false, false, false, false, false, false, false, false, false] (by kernel_rfl) rfl rfl ⟨HR.out.dk.c0, HK.out.drew⟩ (fun hHeld => ?_)
            have HB := Lib.hid (below_drew HB.out)
            refine pure_ (i := 0) (N := some 139) (v := ?_) (a' := ?_) #[true, false, false, false, false, false, false, false, false, false] rfl rfl (by kernel_rfl) (fun _ _ _ h => h) (Or.inl ⟨by rfl, ?_⟩) ?_ ?_
            rotate_left
            · intro w'
              go_simp
              with_reducible rfl
            rotate_left
            · simp only [Act.put, List.setIfInBounds_toArray, List.set_cons_zero, List.set_cons_succ, i64_w, i32_w]
              rfl
            refine pure_ (i := 3) (N := some 142) (v := ?_) (a' := ?_) #[true, false, false, true, false, false, false, false, false, false] rfl rfl (by kernel_rfl) (fun _ _ _ h => h) (Or.inl ⟨by rfl, ?_⟩) ?_ ?_
            rotate_left
            · intro w'
              go_simp
              with_reducible rfl
            rotate_left
            · simp only [Act.put, List.setIfInBounds_toArray, List.set_cons_zero, List.set_cons_succ, i64_w, i32_w]
              rfl
            refine pure_ (i := 4) (N := some 143) (v := ?_) (a' := ?_) #[true, false, false, true, true, false, false, false, false, false] rfl rfl (by kernel_rfl) (fun _ _ _ h => h) (Or.inl ⟨by rfl, ?_⟩) ?_ ?_
            rotate_left
            · intro w'
              go_simp
              with_reducible rfl
            rotate_left
            · simp only [Act.put, List.setIfInBounds_toArray, List.set_cons_zero, List.set_cons_succ, i64_w, i32_w]
              rfl
            refine pure_ (i := 5) (N := some 144) (v := ?_) (a' := ?_) #[true, false, false, true, true, true, false, false, false, false] rfl rfl (by kernel_rfl) (fun _ _ _ h => h) (Or.inl ⟨by rfl, ?_⟩) ?_ ?_
            rotate_left
            · intro w'
              go_simp
              with_reducible rfl
            rotate_left
            · simp only [Act.put, List.setIfInBounds_toArray, List.set_cons_zero, List.set_cons_succ, i64_w, i32_w]
              rfl
            refine take_ (i := 6) (N := some 145) (v := ?_) (a' := ?_) #[true, false, false, true, true, true, true, false, false, false] rfl rfl (by kernel_rfl) (fun _ _ _ h => h) (Or.inl ⟨by rfl, ?_⟩) hHeld ?_ ?_
            rotate_left
            · rintro w' ⟨s0, s1⟩
              go_simp
              with_reducible rfl
            rotate_left
            · simp only [Act.put, List.setIfInBounds_toArray, List.set_cons_zero, List.set_cons_succ, i64_w, i32_w]
              rfl
            refine pure_ (i := 7) (N := some 146) (v := ?_) (a' := ?_) #[true, false, false, true, true, true, true, true, false, false] rfl rfl (by kernel_rfl) (fun _ _ _ h => h) (Or.inl ⟨by rfl, ?_⟩) ?_ ?_
            rotate_left
            · intro w'
              go_simp
              with_reducible rfl
            rotate_left
            · simp only [Act.put, List.setIfInBounds_toArray, List.set_cons_zero, List.set_cons_succ, i64_w, i32_w]
              rfl
            refine one_ (i := 1) (N := some 140) #[true, true, false, true, true, true, true, true, false, false] rfl rfl (by kernel_rfl) (by decide) (fun K hK => ?_)
            refine goes_ Try.func20 (by kernel_rfl) rfl #[.pointer (some ⟨h, 0, none⟩)] (by rfl) rfl rfl (by (try simp only [List.map_toArray, List.map_cons, List.map_nil]); first | done | rfl) ?_
            with_reducible refine ((show Calls Try.prog _ #[.pointer (some ⟨h, 0, none⟩)] _ _ from by have SC2 := dk_sectors hHeld.2; simp only at SC2; rw [HNI.out] at SC2; exact SC2)).mono ?_
            rintro e w10 ⟨rfl, rfl⟩
            refine ⟨_, rfl, ?_⟩
            refine hK.out _ _ ⟨hHeld.1, hHeld.2⟩ (fun hHeld => ?_)
            clear hK K
            refine norm_ (a' := ?_) ?_ ?_
            rotate_left
            · show Act.put _ (some 140) _ = _
              simp only [Act.put, List.setIfInBounds_toArray, List.set_cons_zero, List.set_cons_succ, i64_w, i32_w]
              rfl
            refine pure_ (i := 2) (N := some 141) (v := ?_) (a' := ?_) #[true, true, true, true, true, true, true, true, false, false] rfl rfl (by kernel_rfl) (fun _ _ _ h => h) (Or.inl ⟨by rfl, ?_⟩) ?_ ?_
            rotate_left
            · intro w'
              go_simp
              with_reducible rfl
            rotate_left
            · simp only [Act.put, List.setIfInBounds_toArray, List.set_cons_zero, List.set_cons_succ, i64_w, i32_w]
              rfl
            refine pure_ (i := 8) (N := some 147) (v := ?_) (a' := ?_) #[true, true, true, true, true, true, true, true, true, false] rfl rfl (by kernel_rfl) (fun _ _ _ h => h) (Or.inl ⟨by rfl, ?_⟩) ?_ ?_
            rotate_left
            · intro w'
              go_simp
              with_reducible rfl
            rotate_left
            · simp only [Act.put, List.setIfInBounds_toArray, List.set_cons_zero, List.set_cons_succ, i64_w, i32_w]
              rfl
            refine pure_ (i := 9) (N := some 4) (v := ?_) (a' := ?_) #[true, true, true, true, true, true, true, true, true, true] rfl rfl (by kernel_rfl) (fun _ _ _ h => h) (Or.inl ⟨by rfl, ?_⟩) ?_ ?_
            rotate_left
            · intro w'
              go_simp
              with_reducible rfl
            rotate_left
            · simp only [Act.put, List.setIfInBounds_toArray, List.set_cons_zero, List.set_cons_succ, i64_w, i32_w]
              rfl
            refine done_ (by kernel_rfl) ?_

            go_wp2
            go_ret
            exact ⟨rfl, HB.out⟩
end Go.Proofs.Ytoandabafkdgjaa.My
