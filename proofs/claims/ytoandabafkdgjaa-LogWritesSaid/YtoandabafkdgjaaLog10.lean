/- log.Append: a record that fits. -/
import Derived.Test.YtoandabafkdgjaaLog9
import Derived.Test.YtoandabafkdgjaaRow
namespace Go.Proofs.Ytoandabafkdgjaa.My
set_option linter.unusedSimpArgs false
set_option linter.unusedVariables false
open Go.RowKit Go.Proofs.YtoandabafkdgjaaW.PrintWords Go.Proofs.YtoandabafkdgjaaW.PrintLast Go.Proofs.Ytoandabafkdgjaa.Pm

def strV : Value → ByteArray
  | .string s => s
  | _ => ⟨#[]⟩
/-- Of a disk what a log's calls leave: nothing lost, and so many bytes. -/
def Upd (d d' : DkS) (L : List UInt8) : Prop := d'.Ok ∧ d'.fuse = -1 ∧ d'.gone = false ∧ d'.sure = d.sure ∧ allL d' d.sure.length = L
/-- One sector more. -/
theorem Upd.sector {d d' : DkS} {L R : List UInt8} {e k i f n : Nat} {s' : ByteArray} (u : Upd d d' (splice L e (R.take k))) (hL : L.length = 64 * d.sure.length) (hi : i < d.sure.length) (hp : e + k = 64 * i + f) (hk : k ≤ R.length) (hR : e + R.length ≤ L.length)
    (hfn : f + n ≤ 64) (hn : n ≤ R.length - k) (hs : bl s' = (bl (readS d' i)).take f ++ (R.drop k).take n ++ (bl (readS d' i)).drop (f + n)) : Upd d (writeS d' i s') (splice L e (R.take (k + n))) := by
  obtain ⟨u1, u2, u3, u4, u5⟩ := u
  have hsz := lastW_size u1 (i := i) (by rw [u4]; exact hi)
  have hyl : ((R.drop k).take n).length = n := by rw [List.length_take, List.length_drop]; omega
  have hs64 : s'.size = 64 := by
    rw [← bl_length, hs, List.length_append, List.length_append, hyl, List.length_take, List.length_drop, bl_length, hsz]
    omega
  have hkl : (R.take k).length = k := by rw [List.length_take]; omega
  refine ⟨writeS_ok u1 (by rw [u4]; exact hi) hs64, ?_, ?_, u4, ?_⟩
  · unfold writeS; simp only; rw [if_neg (by omega)]; exact u2
  · unfold writeS; simp only; rw [if_neg (by omega)]; exact u3
  · have hw := allL_write u1 (i := i) (b := s') (by rw [u4]; exact hi) hs64
    have hg := allL_get u1 _ (Nat.le_refl _) i (by rw [u4]; exact hi)
    rw [u4] at hw hg
    have hsl : (splice L e (R.take k)).length = L.length := length_splice _ _ _ (by rw [hkl]; omega)
    have hin := splice_in (L := allL d' d.sure.length) (y := (R.drop k).take n) (s := bl (readS d' i)) (a := 64 * i) (f := f) hg.symm (by rw [u5, hsl, hL]; omega) (by rw [hyl]; exact hfn)
    rw [hyl, ← hs] at hin
    rw [hw, hin, u5, ← hp]
    have hss := splice_splice (L := L) (x := R.take k) (y := (R.drop k).take n) (e := e) (by rw [hkl, hyl]; omega)
    rw [hkl] at hss
    rw [hss, List.take_add]
theorem bl_sector {s b : ByteArray} {f n k : Nat} {R : List UInt8} (hb : bl b = R.drop k) (hs : s.size = 64) (hfn : f + n ≤ 64) : bl (s.extract 0 f ++ b.extract 0 n ++ s.extract (f + n) s.size) = (bl s).take f ++ (R.drop k).take n ++ (bl s).drop (f + n) := by
  rw [bl_append, bl_append, bl_extract, bl_extract, bl_extract, hb, List.drop_zero, List.drop_zero, List.take_of_length_le (l := bl s) (i := s.size) (by rw [bl_length]; exact Nat.le_refl _)]
set_option maxRecDepth 100000 in
set_option maxHeartbeats 8000000 in
theorem append_ok {w : World} {base g h e : Nat} {V W : Value} {d : DkS} (k : Dk w base h V W d) (l : IsLg tab w g h e false) (ho : d.Ok) (hgo : d.gone = false) (hf : d.fuse = -1) (hl : d.waits.length ≤ 100000) (hbw : base ≤ w.heap.size) (hgb : base ≤ g) (r : ByteArray) (hr : 1 ≤ r.size ∧ r.size ≤ 4000) (hful : e + (6 + r.size) ≤ 64 * d.sure.length) :
    Calls Try.prog 26 #[.pointer (some ⟨g, 0, none⟩), .string r] w fun x w' => x = .returned (.int .i64 0) ∧ (∃ W' d', Dk w' base h V W' d' ∧ Upd d d' (splice (allL d d.sure.length) e (bl (recS r))) ∧ d'.waits.length ≤ d.waits.length + 100) ∧ IsLg tab w' g h ((e + (6 + r.size) : Nat) : Int) false ∧ ByG h V g w w' ∧ Below base w w' := by
  have c0 := l.c0
  have c1 := l.c1
  have c2 := l.c2
  have LF := Lib.hid (fun w => logfits_any (r.size : Int) w)
  rw [show (decide (1 ≤ (r.size : Int)) && decide ((r.size : Int) ≤ 4000)) = true by rw [Bool.and_eq_true]; simp only [decide_eq_true_eq]; omega] at LF
  have HLL := Lib.hid (allL_len ho d.sure.length (Nat.le_refl _))
  have HU0 := Lib.hid (show Upd d d (allL d d.sure.length) from ⟨ho, hf, hgo, rfl, rfl⟩)
  obtain ⟨N, hN⟩ : ∃ N, d.sure.length = N := ⟨_, rfl⟩
  have hN4 : N ≤ 4096 := by rw [← hN]; exact ho.len
  have SC := Lib.hid (fun (w' : World) (hb : Below w.heap.size w w') => dk_sectors (k.below hb))
  rw [hN] at SC hful HLL HU0 ⊢
  have HN := Lib.hid hN; clear hN
  have MA := Lib.hid (fun w => made_any r w (by omega))
  have hRS := recS_size r
  have hi1 : (Try.prog.info? 53).map (·.size) = some tab.size := by unfold tab; rw [tabTo_size]; kernel_rfl
  have HI := Lib.hid hi1; clear hi1
  generalize recS r = R at *
  obtain ⟨a6, ha6⟩ : ∃ a6, 6 + r.size = a6 := ⟨_, rfl⟩
  obtain ⟨nn, hnn⟩ : ∃ nn, 64 * N = nn := ⟨_, rfl⟩
  obtain ⟨df, hdf⟩ : ∃ df, nn - e = df := ⟨_, rfl⟩
  have Hq1 := Lib.hid (show wrap64 (6 + (r.size : Int)) = (a6 : Int) from (wrap64_id (by omega) (by omega)).trans (by omega))
  have Hq2 := Lib.hid (show wrap64 ((N : Int) * 64) = (nn : Int) from (wrap64_id (by omega) (by omega)).trans (by omega))
  have Hq3 := Lib.hid (show wrap64 ((nn : Int) - (e : Int)) = (df : Int) from (wrap64_id (by omega) (by omega)).trans (by omega))
  have y : decide ((df : Int) < (a6 : Int)) = false := decide_eq_false (by omega)
  have yn : decide (df < a6) = false := decide_eq_false (by omega)
  rw [ha6] at hful hRS ⊢
  obtain ⟨ee, hee⟩ : ∃ ee, e + a6 = ee := ⟨_, rfl⟩
  have Hq4 := Lib.hid (show wrap64 ((e : Int) + (R.size : Int)) = (ee : Int) from (wrap64_id (by omega) (by omega)).trans (by omega))
  have HE := Lib.hid hee
  obtain ⟨q, hq⟩ : ∃ q, e / 64 = q := ⟨_, rfl⟩
  have Hq5 := Lib.hid (show Int.tdiv (e : Int) 64 = (q : Int) from by rw [← hq]; exact (Int.tdiv_eq_ediv_of_nonneg (by omega)).trans (by omega))
  have Hq6 := Lib.hid (show (e : Int) / 64 = (q : Int) from by omega)
  have Hq7 := Lib.hid (show wrap64 (q : Int) = (q : Int) from wrap64_id (by omega) (by omega))
  have HQ := Lib.hid (And.intro hq (And.intro hRS (And.intro hful (And.intro hN4 (And.intro hl (And.intro hnn (And.intro hee (show a6 ≤ 4006 by omega))))))))
  clear ha6 hdf hq hRS hful hr hN4 hl hnn
  rw [hee]
  clear hee
  have HB := Lib.hid (Below.refl w.heap.size w)
  have HK := Lib.hid k
  have HLG := Lib.hid l
  clear k l ho hf hgo
  have HBW := Lib.hid (And.intro hbw hgb); clear hbw hgb
  have q1 := Hq1.out
  have q2 := Hq2.out
  have q3 := Hq3.out
  clear Hq1 Hq2 Hq3
  generalize hTT : tab = T at *
  clear hTT
  go_enter Try.func26, Try.ntmps26
  go_wp2_with fail
  refine (LF.out _).mono ?_
  rintro e2 w1 ⟨rfl, rfl⟩
  go_wp2
  refine start_ (n := 16) (S := fun w' => w'.cell? ⟨g, 256, none⟩ = some (.pointer (some ⟨h, 0, none⟩)) ∧ w'.cell? ⟨g, 257, none⟩ = some (.int .i64 (e : Int))) (ds := []) #[false, false, false, false, false, false, false, false, false, false, false, false, false, false, false, false] (by kernel_rfl) rfl rfl ⟨(show w.drew.cell? _ = _ from c0), (show w.drew.cell? _ = _ from c1)⟩ (fun hHeld => ?_)
  have HB := Lib.hid (below_drew HB.out)
  refine pure_ (i := 0) (N := some 24) (v := ?_) (a' := ?_) #[true, false, false, false, false, false, false, false, false, false, false, false, false, false, false, false] rfl rfl (by kernel_rfl) (fun _ _ _ h => h) (Or.inl ⟨by rfl, ?_⟩) ?_ ?_
  rotate_left
  · intro w'
    go_simp
    with_reducible rfl
  rotate_left
  · simp only [Act.put, List.setIfInBounds_toArray, List.set_cons_zero, List.set_cons_succ, i64_w, i32_w]
    rfl
  refine pure_ (i := 1) (N := some 25) (v := ?_) (a' := ?_) #[true, true, false, false, false, false, false, false, false, false, false, false, false, false, false, false] rfl rfl (by kernel_rfl) (fun _ _ _ h => h) (Or.inl ⟨by rfl, ?_⟩) ?_ ?_
  rotate_left
  · intro w'
    go_simp
    with_reducible rfl
  rotate_left
  · simp only [Act.put, List.setIfInBounds_toArray, List.set_cons_zero, List.set_cons_succ, i64_w, i32_w]
    rfl
  refine pure_ (i := 2) (N := some 26) (v := ?_) (a' := ?_) #[true, true, true, false, false, false, false, false, false, false, false, false, false, false, false, false] rfl rfl (by kernel_rfl) (fun _ _ _ h => h) (Or.inl ⟨by rfl, ?_⟩) ?_ ?_
  rotate_left
  · intro w'
    go_simp
    with_reducible rfl
  rotate_left
  · simp only [Act.put, List.setIfInBounds_toArray, List.set_cons_zero, List.set_cons_succ, i64_w, i32_w]
    rfl
  refine pure_ (i := 3) (N := some 27) (v := ?_) (a' := ?_) #[true, true, true, true, false, false, false, false, false, false, false, false, false, false, false, false] rfl rfl (by kernel_rfl) (fun _ _ _ h => h) (Or.inl ⟨by rfl, ?_⟩) ?_ ?_
  rotate_left
  · intro w'
    go_simp
    with_reducible rfl
  rotate_left
  · simp only [Act.put, List.setIfInBounds_toArray, List.set_cons_zero, List.set_cons_succ, i64_w, i32_w]
    rfl
  refine pure_ (i := 4) (N := some 28) (v := ?_) (a' := ?_) #[true, true, true, true, true, false, false, false, false, false, false, false, false, false, false, false] rfl rfl (by kernel_rfl) (fun _ _ _ h => h) (Or.inl ⟨by rfl, ?_⟩) ?_ ?_
  rotate_left
  · intro w'
    go_simp
    with_reducible rfl
  rotate_left
  · simp only [Act.put, List.setIfInBounds_toArray, List.set_cons_zero, List.set_cons_succ, i64_w, i32_w]
    rfl
  refine pure_ (i := 5) (N := some 29) (v := ?_) (a' := ?_) #[true, true, true, true, true, true, false, false, false, false, false, false, false, false, false, false] rfl rfl (by kernel_rfl) (fun _ _ _ h => h) (Or.inl ⟨by rfl, ?_⟩) ?_ ?_
  rotate_left
  · intro w'
    go_simp
    with_reducible rfl
  rotate_left
  · simp only [Act.put, List.setIfInBounds_toArray, List.set_cons_zero, List.set_cons_succ, i64_w, i32_w]
    rfl
  refine pure_ (i := 9) (N := some 33) (v := ?_) (a' := ?_) #[true, true, true, true, true, true, false, false, false, true, false, false, false, false, false, false] rfl rfl (by kernel_rfl) (fun _ _ _ h => h) (Or.inl ⟨by rfl, ?_⟩) ?_ ?_
  rotate_left
  · intro w'
    go_simp
    with_reducible rfl
  rotate_left
  · simp only [Act.put, List.setIfInBounds_toArray, List.set_cons_zero, List.set_cons_succ, i64_w, i32_w]
    rfl
  refine pure_ (i := 10) (N := some 34) (v := ?_) (a' := ?_) #[true, true, true, true, true, true, false, false, false, true, true, false, false, false, false, false] rfl rfl (by kernel_rfl) (fun _ _ _ h => h) (Or.inl ⟨by rfl, ?_⟩) ?_ ?_
  rotate_left
  · intro w'
    go_simp
    with_reducible rfl
  rotate_left
  · simp only [Act.put, List.setIfInBounds_toArray, List.set_cons_zero, List.set_cons_succ, i64_w, i32_w]
    rfl
  refine pure_ (i := 11) (N := some 35) (v := ?_) (a' := ?_) #[true, true, true, true, true, true, false, false, false, true, true, true, false, false, false, false] rfl rfl (by kernel_rfl) (fun _ _ _ h => h) (Or.inl ⟨by rfl, ?_⟩) ?_ ?_
  rotate_left
  · intro w'
    go_simp
    with_reducible rfl
  rotate_left
  · simp only [Act.put, List.setIfInBounds_toArray, List.set_cons_zero, List.set_cons_succ, i64_w, i32_w]
    rfl
  refine take_ (i := 6) (N := some 30) (v := ?_) (a' := ?_) #[true, true, true, true, true, true, true, false, false, true, true, true, false, false, false, false] rfl rfl (by kernel_rfl) (fun _ _ _ h => h) (Or.inl ⟨by rfl, ?_⟩) hHeld ?_ ?_
  rotate_left
  · rintro w' ⟨s0, s1⟩
    go_simp
    with_reducible rfl
  rotate_left
  · simp only [Act.put, List.setIfInBounds_toArray, List.set_cons_zero, List.set_cons_succ, i64_w, i32_w]
    rfl
  refine take_ (i := 12) (N := some 36) (v := ?_) (a' := ?_) #[true, true, true, true, true, true, true, false, false, true, true, true, true, false, false, false] rfl rfl (by kernel_rfl) (fun _ _ _ h => h) (Or.inl ⟨by rfl, ?_⟩) hHeld ?_ ?_
  rotate_left
  · rintro w' ⟨s0, s1⟩
    go_simp
    with_reducible rfl
  rotate_left
  · simp only [Act.put, List.setIfInBounds_toArray, List.set_cons_zero, List.set_cons_succ, i64_w, i32_w]
    rfl
  refine one_ (i := 7) (N := some 31) #[true, true, true, true, true, true, true, true, false, true, true, true, true, false, false, false] rfl rfl (by kernel_rfl) (by decide) (fun K hK => ?_)
  refine goes_ Try.func20 (by kernel_rfl) rfl #[.pointer (some ⟨h, 0, none⟩)] (by rfl) rfl rfl (by (try simp only [List.map_toArray, List.map_cons, List.map_nil]); first | done | rfl) ?_
  with_reducible refine ((SC.out _ HB.out)).mono ?_
  rintro e w5 ⟨rfl, hw5⟩
  refine ⟨_, rfl, ?_⟩
  subst hw5
  refine hK.out _ _ ⟨hHeld.1, hHeld.2⟩ (fun hHeld => ?_)
  clear hK K
  refine norm_ (a' := ?_) ?_ ?_
  rotate_left
  · show Act.put _ (some 31) _ = _
    simp only [Act.put, List.setIfInBounds_toArray, List.set_cons_zero, List.set_cons_succ, i64_w, i32_w]
    rfl
  refine pure_ (i := 8) (N := some 32) (v := ?_) (a' := ?_) #[true, true, true, true, true, true, true, true, true, true, true, true, true, false, false, false] rfl rfl (by kernel_rfl) (fun _ _ _ h => h) (Or.inl ⟨by rfl, ?_⟩) ?_ ?_
  rotate_left
  · intro w'
    go_simp
    with_reducible rfl
  rotate_left
  · simp only [Act.put, List.setIfInBounds_toArray, List.set_cons_zero, List.set_cons_succ, i64_w, i32_w]
    rfl
  refine pure_ (i := 13) (N := some 37) (v := ?_) (a' := ?_) #[true, true, true, true, true, true, true, true, true, true, true, true, true, true, false, false] rfl rfl (by kernel_rfl) (fun _ _ _ h => h) (Or.inl ⟨by rfl, ?_⟩) ?_ ?_
  rotate_left
  · intro w'
    go_simp
    with_reducible rfl
  rotate_left
  · simp only [Act.put, List.setIfInBounds_toArray, List.set_cons_zero, List.set_cons_succ, i64_w, i32_w]
    rfl
  refine pure_ (i := 14) (N := some 38) (v := ?_) (a' := ?_) #[true, true, true, true, true, true, true, true, true, true, true, true, true, true, true, false] rfl rfl (by kernel_rfl) (fun _ _ _ h => h) (Or.inl ⟨by rfl, ?_⟩) ?_ ?_
  rotate_left
  · intro w'
    go_simp
    with_reducible rfl
  rotate_left
  · simp only [Act.put, List.setIfInBounds_toArray, List.set_cons_zero, List.set_cons_succ, i64_w, i32_w]
    rfl
  refine pure_ (i := 15) (N := some 23) (v := ?_) (a' := ?_) #[true, true, true, true, true, true, true, true, true, true, true, true, true, true, true, true] rfl rfl (by kernel_rfl) (fun _ _ _ h => h) (Or.inl ⟨by rfl, ?_⟩) ?_ ?_
  rotate_left
  · intro w'
    go_simp
    with_reducible rfl
  rotate_left
  · simp only [Act.put, List.setIfInBounds_toArray, List.set_cons_zero, List.set_cons_succ, i64_w, i32_w]
    rfl
  refine done_ (by kernel_rfl) ?_

  replace HK := Lib.hid (HK.out.below HB.out)
  replace HLG := Lib.hid (HLG.out.below HB.out)
  have HBY := Lib.hid (Bys.below (h := h) (V := V) HB.out)
  replace HB := Lib.hid (HB.out.mono HBW.out.1)
  clear c0 c1 c2 q1 q2 q3 y yn hHeld SC LF
  have c0 := HLG.out.c0
  have c1 := HLG.out.c1
  generalize hW9 : w.drew = w9 at *
  clear hW9
  go_wp2_with (first | refine wpList_load_part rfl 53 _ rfl g 0 rfl T _ HLG.out.range Try.underlying53 rfl HI.out ?_ | fail)
  refine (MA.out _).mono ?_
  rintro e2 w2 ⟨rfl, hb⟩
  replace HB := Lib.hid (HB.out.trans (hb.mono (Nat.le_trans HBW.out.1 HBY.out.1)))
  replace HBY := Lib.hid (HBY.out.trans (Bys.below hb))
  replace HK := Lib.hid (HK.out.below hb)
  replace HLG := Lib.hid (HLG.out.below hb)
  clear hb c0 c1 MA
  have c1 := HLG.out.c1
  have q4 := Hq4.out
  have q5 := Hq5.out
  have q6 := Hq6.out
  have Hq4' := Hq4
  clear Hq4
  go_wp2
  clear q4 q5 q6 c1
  have HBL := Lib.hid (bl_length R)
  generalize hWL : w2 = wl at *
  clear hWL
  go_loopw [5, 7] (fun v5 v7 wr => ∃ (i k : Nat) (b : ByteArray) (W' : Value) (d' : DkS), v5 = .string b ∧ v7 = .int .i64 (i : Int) ∧ k ≤ R.size ∧ b.size = R.size - k ∧ Hid (bl b = (bl R).drop k) ∧ Hid (k = R.size ∨ (64 * i ≤ e + k ∧ e + k < 64 * i + 64 ∧ (k = 0 ∨ (e + k = 64 * i ∧ e ≤ 64 * i)))) ∧ Hid (64 * i ≤ e + k + 63 ∧ q ≤ i) ∧ Hid (Dk wr base h V W' d') ∧ Hid (Upd d d' (splice (allL d N) e ((bl R).take k))) ∧ Hid (d'.waits.length ≤ d.waits.length + (i - q)) ∧ Hid (Bys h V wl wr) ∧ Hid (Below base w wr)) (fun v5 _ _ => (strV v5).size)
  case atStart =>
    exact ⟨q, 0, R, _, d, rfl, by rw [Hq7.out], Nat.zero_le _, by omega, Lib.hid rfl, Lib.hid (.inr ⟨by have := HQ.out.1; omega, by have := HQ.out.1; omega, .inl rfl⟩), Lib.hid ⟨by have := HQ.out.1; omega, Nat.le_refl _⟩, HK, Lib.hid (by rw [List.take_zero]; have h0 : splice (allL d N) e [] = allL d N := (by unfold splice; simp); rw [h0]; exact HU0.out), Lib.hid (by omega), Lib.hid (Bys.refl _ _ _), HB⟩
  case round =>
    clear HB
    obtain ⟨i, k, b, W', d', rfl, rfl, hkR, hbz, HBB, HP, HP2, HKD, HU, HWL, HBYL, HB⟩ := hrel
    by_cases hk : k = R.size
    · have he : b.toList.isEmpty = true := by rw [str_e]; exact decide_eq_true (by omega)
      have HLG2 := Lib.hid (HLG.out.bys HK.out HBYL.out)
      have c1 := HLG2.out.c1
      have f1 := HLG2.out.f 257
      have HUF := Lib.hid (show Upd d d' (splice (allL d N) e (bl R)) by have hu := HU.out; rw [hk, List.take_of_length_le (by rw [HBL.out]; exact Nat.le_refl _)] at hu; exact hu)
      have HWF := Lib.hid (show d'.waits.length ≤ d.waits.length + 100 by have h1 := HWL.out; have h2 := HP2.out; have h3 := HQ.out; omega)
      clear hbz hkR hk HP HP2 HBB HU HWL
      go_wp2
      go_ret
      have Hq4 := Hq4'.out
      rw [Hq4]
      refine ⟨rfl, ⟨W', d', HKD.out.set_far HLG2.out.2 (by decide) (by decide) (by decide) _ _, HUF.out, HWF.out⟩, HLG2.out.set1 _, ((HBY.out.trans HBYL.out).g g).trans (ByG.set h V g _ 257 _), ?_⟩
      exact below_setc HB.out HBW.out.2 _
    · have he : b.toList.isEmpty = false := by rw [str_e]; exact decide_eq_false (by omega)
      obtain ⟨f, hf⟩ : ∃ f, e - 64 * i = f := ⟨_, rfl⟩
      have hpos := HP.out.resolve_left hk
      have hef : e + k = 64 * i + f := by omega
      have hf64 : f < 64 := by omega
      have hiN : i < N := by have := HQ.out; omega
      obtain ⟨n, hn⟩ : ∃ n, min (R.size - k) (64 - f) = n := ⟨_, rfl⟩
      have hfn : f + n ≤ 64 := by omega
      have hnk : n ≤ R.size - k := by omega
      have hn1 : 1 ≤ n := by omega
      obtain ⟨u1, u2, u3, u4, u5⟩ := HU.out
      have hm : mayS d' i = 0 := by unfold mayS; rw [if_neg (by rw [u3]; decide), if_neg (by rw [u4, HN.out]; omega)]
      have hwl : d'.waits.length ≤ 1000000 := by have h1 := HWL.out; have h2 := HP2.out; have h3 := HQ.out; omega
      have RD := Lib.hid (dk_read HKD.out u1 i hm hwl)
      have hsz := lastW_size u1 (i := i) (by rw [u4, HN.out]; exact hiN)
      have HSEC := Lib.hid (bl_sector (n := n) HBB.out hsz hfn)
      have hs64 : ((readS d' i).extract 0 f ++ b.extract 0 n ++ (readS d' i).extract (f + n) (readS d' i).size).size = 64 := by
        rw [← bl_length, HSEC.out, List.length_append, List.length_append, List.length_take, List.length_take, List.length_drop, List.length_drop, bl_length, HBL.out, hsz]
        omega
      have HUN := Lib.hid (Upd.sector (d := d) (d' := d') (L := allL d N) (R := bl R) (e := e) (n := n) (f := f) (k := k) (i := i) (s' := (readS d' i).extract 0 f ++ b.extract 0 n ++ (readS d' i).extract (f + n) (readS d' i).size) HU.out (by rw [HN.out]; exact HLL.out) (by rw [HN.out]; exact hiN) hef (by rw [HBL.out]; exact hkR) (by rw [HBL.out, HLL.out]; have := HQ.out; omega) hfn (by rw [HBL.out]; exact hnk) HSEC.out)
      have WR := Lib.hid (fun (wx : World) (hb : Below wr.heap.size wr wx) => dk_writeK (HKD.out.below hb) u1 i ((readS d' i).extract 0 f ++ b.extract 0 n ++ (readS d' i).extract (f + n) (readS d' i).size) hm hs64 hwl (Nat.le_trans (Nat.le_trans HBW.out.1 (Nat.le_trans HBY.out.1 HBYL.out.1)) hb.size))
      have HFS := Lib.hid (And.intro hef (And.intro hf64 (And.intro hiN (And.intro hfn (And.intro hnk hn1)))))
      have HLG2 := Lib.hid (HLG.out.bys HK.out HBYL.out)
      have c0 := HLG2.out.c0
      have c1 := HLG2.out.c1
      have e1 : e ≤ 262144 := by have := HQ.out; omega
      have i1 : i ≤ 4096 := by have := HQ.out; omega
      have z1 : max ((e : Int) - (i : Int) * 64) 0 = (f : Int) := by omega
      have z2 : min (b.size : Int) (64 - (f : Int)) = (n : Int) := by omega
      have hb1 : b.size ≤ 5000 := by have := HQ.out; omega
      have HBN := Lib.hid (show bl (b.extract n b.size) = (bl R).drop (k + n) by rw [bl_extract, List.take_of_length_le (by rw [bl_length]; exact Nat.le_refl _), HBB.out, List.drop_drop])
      have hbs : (b.extract n b.size).size = R.size - (k + n) := by rw [ByteArray.size_extract]; omega
      have HBS := Lib.hid (And.intro hbs (show k + n ≤ R.size by omega))
      have HPN := Lib.hid (show k + n = R.size ∨ (64 * (i + 1) ≤ e + (k + n) ∧ e + (k + n) < 64 * (i + 1) + 64 ∧ (k + n = 0 ∨ (e + (k + n) = 64 * (i + 1) ∧ e ≤ 64 * (i + 1)))) by omega)
      have HPM := Lib.hid (show 64 * (i + 1) ≤ e + (k + n) + 63 ∧ q ≤ i + 1 by have := HP2.out; omega)
      have HWN := Lib.hid (show ∀ s', (writeS d' i s').waits.length ≤ d.waits.length + (i + 1 - q) from fun s' => by
        have h1 := HWL.out
        have h2 := HP2.out
        show (d'.waits ++ [(i, s')]).length ≤ _
        rw [List.length_append, List.length_singleton]
        omega)
      have HMS := Lib.hid (show (b.extract n b.size).size < b.size by omega)
      have b1 : n ≤ b.size := by omega
      clear hbz hkR hk HP HP2 HBB HU HWL hpos hef hiN hn hnk hn1 hf u1 u2 u3 u4 u5 hm hwl hs64 hbs
      generalize writeS d' i = WS at *
      generalize readS d' i = s at *
      obtain ⟨m, hm⟩ : ∃ m, f + n = m := ⟨_, rfl⟩
      rw [hm] at WR HUN
      have a1 : f ≤ s.size := by omega
      have a1i : (f : Int) ≤ (s.size : Int) := by omega
      have a2 : m ≤ s.size := by omega
      have a2i : (m : Int) ≤ (s.size : Int) := by omega
      have a3 : (n : Int) ≤ (b.size : Int) := by omega
      have qm : wrap64 ((f : Int) + (n : Int)) = (m : Int) := (wrap64_id (by omega) (by omega)).trans (by omega)
      have b2 : (9223372036854775807 < (s.extract 0 f).size + (b.extract 0 n).size) = False := eq_false (by rw [ByteArray.size_extract, ByteArray.size_extract]; clear qm; omega)
      have b3 : (9223372036854775807 < f + n) = False := eq_false (by clear qm; omega)
      have b4 : (9223372036854775807 < (s.extract 0 f ++ b.extract 0 n).size + (s.extract m s.size).size) = False := eq_false (by rw [ByteArray.size_append, ByteArray.size_extract, ByteArray.size_extract, ByteArray.size_extract]; clear qm; omega)
      have b5 : (9223372036854775807 < f + n + (s.size - m)) = False := eq_false (by clear qm; omega)
      have HAB := Lib.hid (And.intro a1i (And.intro a2i (And.intro a3 (And.intro qm (And.intro b2 (And.intro b3 (And.intro b4 b5)))))))
      clear a1i a2i a3 qm b2 b3 b4 b5 hm hsz hfn
      go_wp2_with fail
      refine RD.out.mono ?_
      rintro e3 wx ⟨rfl, hb⟩
      have HBYL0 := HBYL
      have WR2 := Lib.hid (WR.out wx.drew (below_drew hb))
      replace HKD := Lib.hid (HKD.out.below hb)
      replace HBYL := Lib.hid (HBYL.out.trans (Bys.below hb))
      replace HLG2 := Lib.hid (HLG2.out.below hb)
      replace HB := Lib.hid (HB.out.trans (hb.mono (Nat.le_trans HBW.out.1 (Nat.le_trans HBY.out.1 HBYL0.out.1))))
      clear hb WR RD c0 c1
      have c0 := HLG2.out.c0
      go_wp2
      obtain ⟨a1i, a2i, a3, qm, b2, b3, b4, b5⟩ := HAB.out
      refine start_ (n := 20) (S := fun w' => w'.cell? ⟨g, 256, none⟩ = some (.pointer (some ⟨h, 0, none⟩))) (ds := []) #[false, false, false, false, false, false, false, false, false, false, false, false, false, false, false, false, false, false, false, false] (by kernel_rfl) rfl rfl ((show wx.drew.cell? _ = _ from c0)) (fun hHeld => ?_)
      have HKD := Lib.hid HKD.out.drew
      have HBYL := Lib.hid (HBYL.out.trans (Bys.below (below_drew (Below.refl _ _))))
      have HLG2 := Lib.hid (HLG2.out.below (below_drew (Below.refl _ _)))
      have HB := Lib.hid (HB.out.trans (below_drew (Below.refl _ _)))
      refine pure_ (i := 0) (N := some 88) (v := ?_) (a' := ?_) #[true, false, false, false, false, false, false, false, false, false, false, false, false, false, false, false, false, false, false, false] rfl rfl (by kernel_rfl) (fun _ _ _ h => h) (Or.inl ⟨by rfl, ?_⟩) ?_ ?_
      rotate_left
      · intro w'
        go_simp
        with_reducible rfl
      rotate_left
      · simp only [Act.put, List.setIfInBounds_toArray, List.set_cons_zero, List.set_cons_succ, i64_w, i32_w]
        rfl
      refine pure_ (i := 1) (N := some 89) (v := ?_) (a' := ?_) #[true, true, false, false, false, false, false, false, false, false, false, false, false, false, false, false, false, false, false, false] rfl rfl (by kernel_rfl) (fun _ _ _ h => h) (Or.inl ⟨by rfl, ?_⟩) ?_ ?_
      rotate_left
      · intro w'
        go_simp
        with_reducible rfl
      rotate_left
      · simp only [Act.put, List.setIfInBounds_toArray, List.set_cons_zero, List.set_cons_succ, i64_w, i32_w]
        rfl
      refine pure_ (i := 2) (N := some 90) (v := ?_) (a' := ?_) #[true, true, true, false, false, false, false, false, false, false, false, false, false, false, false, false, false, false, false, false] rfl rfl (by kernel_rfl) (fun _ _ _ h => h) (Or.inl ⟨by rfl, ?_⟩) ?_ ?_
      rotate_left
      · intro w'
        go_simp
        with_reducible rfl
      rotate_left
      · simp only [Act.put, List.setIfInBounds_toArray, List.set_cons_zero, List.set_cons_succ, i64_w, i32_w]
        rfl
      refine pure_ (i := 4) (N := some 92) (v := ?_) (a' := ?_) #[true, true, true, false, true, false, false, false, false, false, false, false, false, false, false, false, false, false, false, false] rfl rfl (by kernel_rfl) (fun _ _ _ h => h) (Or.inl ⟨by rfl, ?_⟩) ?_ ?_
      rotate_left
      · intro w'
        go_simp
        with_reducible rfl
      rotate_left
      · simp only [Act.put, List.setIfInBounds_toArray, List.set_cons_zero, List.set_cons_succ, i64_w, i32_w]
        rfl
      refine pure_ (i := 5) (N := some 93) (v := ?_) (a' := ?_) #[true, true, true, false, true, true, false, false, false, false, false, false, false, false, false, false, false, false, false, false] rfl rfl (by kernel_rfl) (fun _ _ _ h => h) (Or.inl ⟨by rfl, ?_⟩) ?_ ?_
      rotate_left
      · intro w'
        go_simp
        with_reducible rfl
      rotate_left
      · simp only [Act.put, List.setIfInBounds_toArray, List.set_cons_zero, List.set_cons_succ, i64_w, i32_w]
        rfl
      refine pure_ (i := 6) (N := some 94) (v := ?_) (a' := ?_) #[true, true, true, false, true, true, true, false, false, false, false, false, false, false, false, false, false, false, false, false] rfl rfl (by kernel_rfl) (fun _ _ _ h => h) (Or.inl ⟨by rfl, ?_⟩) ?_ ?_
      rotate_left
      · intro w'
        go_simp
        with_reducible rfl
      rotate_left
      · simp only [Act.put, List.setIfInBounds_toArray, List.set_cons_zero, List.set_cons_succ, i64_w, i32_w]
        rfl
      refine pure_ (i := 7) (N := some 95) (v := ?_) (a' := ?_) #[true, true, true, false, true, true, true, true, false, false, false, false, false, false, false, false, false, false, false, false] rfl rfl (by kernel_rfl) (fun _ _ _ h => h) (Or.inl ⟨by rfl, ?_⟩) ?_ ?_
      rotate_left
      · intro w'
        go_simp
        with_reducible rfl
      rotate_left
      · simp only [Act.put, List.setIfInBounds_toArray, List.set_cons_zero, List.set_cons_succ, i64_w, i32_w]
        rfl
      refine pure_ (i := 8) (N := some 96) (v := ?_) (a' := ?_) #[true, true, true, false, true, true, true, true, true, false, false, false, false, false, false, false, false, false, false, false] rfl rfl (by kernel_rfl) (fun _ _ _ h => h) (Or.inl ⟨by rfl, ?_⟩) ?_ ?_
      rotate_left
      · intro w'
        go_simp
        with_reducible rfl
      rotate_left
      · simp only [Act.put, List.setIfInBounds_toArray, List.set_cons_zero, List.set_cons_succ, i64_w, i32_w]
        rfl
      refine pure_ (i := 9) (N := some 97) (v := ?_) (a' := ?_) #[true, true, true, false, true, true, true, true, true, true, false, false, false, false, false, false, false, false, false, false] rfl rfl (by kernel_rfl) (fun _ _ _ h => h) (Or.inl ⟨by rfl, ?_⟩) ?_ ?_
      rotate_left
      · intro w'
        go_simp
        with_reducible rfl
      rotate_left
      · simp only [Act.put, List.setIfInBounds_toArray, List.set_cons_zero, List.set_cons_succ, i64_w, i32_w]
        rfl
      refine pure_ (i := 10) (N := some 98) (v := ?_) (a' := ?_) #[true, true, true, false, true, true, true, true, true, true, true, false, false, false, false, false, false, false, false, false] rfl rfl (by kernel_rfl) (fun _ _ _ h => h) (Or.inl ⟨by rfl, ?_⟩) ?_ ?_
      rotate_left
      · intro w'
        go_simp
        with_reducible rfl
      rotate_left
      · simp only [Act.put, List.setIfInBounds_toArray, List.set_cons_zero, List.set_cons_succ, i64_w, i32_w]
        rfl
      refine pure_ (i := 11) (N := some 99) (v := ?_) (a' := ?_) #[true, true, true, false, true, true, true, true, true, true, true, true, false, false, false, false, false, false, false, false] rfl rfl (by kernel_rfl) (fun _ _ _ h => h) (Or.inl ⟨by rfl, ?_⟩) ?_ ?_
      rotate_left
      · intro w'
        go_simp
        with_reducible rfl
      rotate_left
      · simp only [Act.put, List.setIfInBounds_toArray, List.set_cons_zero, List.set_cons_succ, i64_w, i32_w]
        rfl
      refine pure_ (i := 12) (N := some 100) (v := ?_) (a' := ?_) #[true, true, true, false, true, true, true, true, true, true, true, true, true, false, false, false, false, false, false, false] rfl rfl (by kernel_rfl) (fun _ _ _ h => h) (Or.inl ⟨by rfl, ?_⟩) ?_ ?_
      rotate_left
      · intro w'
        go_simp
        with_reducible rfl
      rotate_left
      · simp only [Act.put, List.setIfInBounds_toArray, List.set_cons_zero, List.set_cons_succ, i64_w, i32_w]
        rfl
      refine pure_ (i := 13) (N := some 101) (v := ?_) (a' := ?_) #[true, true, true, false, true, true, true, true, true, true, true, true, true, true, false, false, false, false, false, false] rfl rfl (by kernel_rfl) (fun _ _ _ h => h) (Or.inl ⟨by rfl, ?_⟩) ?_ ?_
      rotate_left
      · intro w'
        go_simp
        with_reducible rfl
      rotate_left
      · simp only [Act.put, List.setIfInBounds_toArray, List.set_cons_zero, List.set_cons_succ, i64_w, i32_w]
        rfl
      refine pure_ (i := 14) (N := some 102) (v := ?_) (a' := ?_) #[true, true, true, false, true, true, true, true, true, true, true, true, true, true, true, false, false, false, false, false] rfl rfl (by kernel_rfl) (fun _ _ _ h => h) (Or.inl ⟨by rfl, ?_⟩) ?_ ?_
      rotate_left
      · intro w'
        go_simp
        with_reducible rfl
      rotate_left
      · simp only [Act.put, List.setIfInBounds_toArray, List.set_cons_zero, List.set_cons_succ, i64_w, i32_w]
        rfl
      refine pure_ (i := 15) (N := some 103) (v := ?_) (a' := ?_) #[true, true, true, false, true, true, true, true, true, true, true, true, true, true, true, true, false, false, false, false] rfl rfl (by kernel_rfl) (fun _ _ _ h => h) (Or.inl ⟨by rfl, ?_⟩) ?_ ?_
      rotate_left
      · intro w'
        go_simp
        with_reducible rfl
      rotate_left
      · simp only [Act.put, List.setIfInBounds_toArray, List.set_cons_zero, List.set_cons_succ, i64_w, i32_w]
        rfl
      refine pure_ (i := 16) (N := some 104) (v := ?_) (a' := ?_) #[true, true, true, false, true, true, true, true, true, true, true, true, true, true, true, true, true, false, false, false] rfl rfl (by kernel_rfl) (fun _ _ _ h => h) (Or.inl ⟨by rfl, ?_⟩) ?_ ?_
      rotate_left
      · intro w'
        go_simp
        with_reducible rfl
      rotate_left
      · simp only [Act.put, List.setIfInBounds_toArray, List.set_cons_zero, List.set_cons_succ, i64_w, i32_w]
        rfl
      refine pure_ (i := 17) (N := some 105) (v := ?_) (a' := ?_) #[true, true, true, false, true, true, true, true, true, true, true, true, true, true, true, true, true, true, false, false] rfl rfl (by kernel_rfl) (fun _ _ _ h => h) (Or.inl ⟨by rfl, ?_⟩) ?_ ?_
      rotate_left
      · intro w'
        go_simp
        with_reducible rfl
      rotate_left
      · simp only [Act.put, List.setIfInBounds_toArray, List.set_cons_zero, List.set_cons_succ, i64_w, i32_w]
        rfl
      refine take_ (i := 3) (N := some 91) (v := ?_) (a' := ?_) #[true, true, true, true, true, true, true, true, true, true, true, true, true, true, true, true, true, true, false, false] rfl rfl (by kernel_rfl) (fun _ _ _ h => h) (Or.inl ⟨by rfl, ?_⟩) hHeld ?_ ?_
      rotate_left
      · intro w' s0
        go_simp
        with_reducible rfl
      rotate_left
      · simp only [Act.put, List.setIfInBounds_toArray, List.set_cons_zero, List.set_cons_succ, i64_w, i32_w]
        rfl
      refine one_ (i := 18) (N := some 106) #[true, true, true, true, true, true, true, true, true, true, true, true, true, true, true, true, true, true, true, false] rfl rfl (by kernel_rfl) (by decide) (fun K hK => ?_)
      refine goes_ Try.func10 (by kernel_rfl) rfl #[.pointer (some ⟨h, 0, none⟩), .int .i64 (i : Int), .string (s.extract 0 f ++ b.extract 0 n ++ s.extract m s.size)] (by rfl) rfl rfl (by (try simp only [List.map_toArray, List.map_cons, List.map_nil]); first | done | rfl) ?_
      with_reducible refine ((WR2.out)).mono ?_
      rintro e w5 ⟨rfl, ⟨W2, hk2⟩, hb5, hp5⟩
      refine ⟨_, rfl, ?_⟩
      refine hK.out _ _ ((IsLg.bys HLG2.out HKD.out (Bys.keeps HKD.out hp5)).c0) (fun hHeld => ?_)
      clear hK K
      refine norm_ (a' := ?_) ?_ ?_
      rotate_left
      · show Act.put _ (some 106) _ = _
        simp only [Act.put, List.setIfInBounds_toArray, List.set_cons_zero, List.set_cons_succ, i64_w, i32_w]
        rfl
      refine pure_ (i := 19) (N := some 12) (v := ?_) (a' := ?_) #[true, true, true, true, true, true, true, true, true, true, true, true, true, true, true, true, true, true, true, true] rfl rfl (by kernel_rfl) (fun _ _ _ h => h) (Or.inl ⟨by rfl, ?_⟩) ?_ ?_
      rotate_left
      · intro w'
        go_simp
        with_reducible rfl
      rotate_left
      · simp only [Act.put, List.setIfInBounds_toArray, List.set_cons_zero, List.set_cons_succ, i64_w, i32_w]
        rfl
      refine done_ (by kernel_rfl) ?_

      clear c0 hHeld
      replace HBYL := Lib.hid (HBYL.out.trans (Bys.keeps HKD.out hp5))
      have HK5 := Lib.hid hk2
      replace HB := Lib.hid (HB.out.trans hb5)
      clear hp5 hk2 hb5 WR2 z1 z2 a1 a2 a1i a2i qm b2 b3 b4 b5
      have hw : wrap64 ((i : Int) + 1) = ((i + 1 : Nat) : Int) := wrap64_id (by omega) (by omega)
      go_wp2
      go_roundw
      case rel => exact ⟨i + 1, k + n, b.extract n b.size, W2, WS (s.extract 0 f ++ b.extract 0 n ++ s.extract m s.size), by first | rfl | (congr 1), by go_num, HBS.out.2, HBS.out.1, HBN, HPN, HPM, HK5, HUN, Lib.hid (HWN.out _), HBYL, HB⟩
      case measure => exact HMS.out
end Go.Proofs.Ytoandabafkdgjaa.My
