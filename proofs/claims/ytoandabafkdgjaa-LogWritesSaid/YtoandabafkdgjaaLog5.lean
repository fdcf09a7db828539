/- log.wipe. -/
import Derived.Test.YtoandabafkdgjaaLog4
namespace Go.Proofs.Ytoandabafkdgjaa.My
set_option linter.unusedSimpArgs false
set_option linter.unusedVariables false
open Go.RowKit Go.Proofs.YtoandabafkdgjaaW.PrintWords Go.Proofs.YtoandabafkdgjaaW.PrintLast Go.Proofs.Ytoandabafkdgjaa.Pm

def zeros (n : Nat) : ByteArray := ⟨(List.replicate n (0 : UInt8)).toArray⟩
theorem zeros_size (n : Nat) : (zeros n).size = n := by unfold zeros; exact List.size_toArray.trans List.length_replicate
theorem repeatL_zero : ∀ n, Lib.repeatL [(0 : UInt8)] n = List.replicate n 0
  | 0 => rfl
  | n + 1 => by
    have := repeatL_zero n
    first | (rw [Lib.repeatL, this]; rfl) | (simp [Lib.repeatL, this, List.replicate_succ])
theorem repeat_zeros (n : Nat) (w : World) (hn : n ≤ 64) : Calls Try.prog 44 #[.string ⟨#[0]⟩, .int .i64 (n : Int)] w fun e w' => e = .returned (.string (zeros n)) ∧ Below w.heap.size w w' := by
  have h := Try.strings_Repeat ⟨#[0]⟩ n w (by first | decide | omega | (simp [ByteArray.size]; omega)) (by first | decide | omega | (simp [ByteArray.size]; omega))
  have e : (⟨#[0]⟩ : ByteArray).data.toList = [(0 : UInt8)] := rfl
  rw [e, repeatL_zero] at h
  exact h
/-- A sector that is noughts from a byte on. -/
def cleanS (s : ByteArray) (n : Nat) : ByteArray := s.extract 0 n ++ zeros (64 - n)
def wipeS (d : DkS) (i n : Nat) : DkS := if (cleanS (readS d i) n).toList = (readS d i).toList then d else writeS d i (cleanS (readS d i) n)
set_option maxRecDepth 100000 in
set_option maxHeartbeats 8000000 in
theorem wipe_any {w : World} {base h : Nat} {V W : Value} {d : DkS} (k : Dk w base h V W d) (ho : d.Ok) (hg : d.gone = false) (hl : d.waits.length ≤ 1000000) (i : Nat) (hi : i < d.sure.length) (n : Nat) (hn : n ≤ 64) (hbw : base ≤ w.heap.size) :
    Calls Try.prog 36 #[.pointer (some ⟨h, 0, none⟩), .int .i64 (i : Int), .int .i64 (n : Int)] w fun e w' => e = .returned (.int .i64 0) ∧ (∃ W', Dk w' base h V W' (wipeS d i n)) ∧ Below base w w' ∧ Keeps (OwnD h V W) w w' := by
  have hm : mayS d i = 0 := by unfold mayS; rw [if_neg (by rw [hg]; decide), if_neg (by omega)]
  have hs := lastW_size ho hi
  have RD := Lib.hid (dk_read k ho i hm hl)
  have RP := Lib.hid (fun w => repeat_zeros (64 - n) w (by omega))
  have hcl : (cleanS (readS d i) n).size = 64 := by unfold cleanS; rw [ByteArray.size_append, ByteArray.size_extract, zeros_size]; omega
  have WR := Lib.hid (fun (w' : World) (k' : Dk w' base h V W d) (hb : base ≤ w'.heap.size) => dk_writeK k' ho i (cleanS (readS d i) n) hm hcl hl hb)
  have HK := Lib.hid k
  have HB := Lib.hid (Below.refl base w)
  have HP := Lib.hid (Keeps.refl (OwnD h V W) w)
  have HE := Lib.hid (show cleanS (readS d i) n = (readS d i).extract 0 n ++ zeros (64 - n) from rfl)
  have hz := zeros_size (64 - n)
  have HWS := Lib.hid (show wipeS d i n = if (cleanS (readS d i) n).toList = (readS d i).toList then d else writeS d i (cleanS (readS d i) n) from rfl)
  generalize wipeS d i n = dd at *
  generalize cleanS (readS d i) n = cl at *
  generalize readS d i = s at *
  have q1 : wrap64 (64 - (n : Int)) = ((64 - n : Nat) : Int) := (wrap64_id (by omega) (by omega)).trans (by omega)
  have Q1 := Lib.hid q1; clear q1
  have u1 : n ≤ s.size := by omega
  have u2 : (n : Int) ≤ (s.size : Int) := by omega
  have b1 : (9223372036854775807 < (s.extract 0 n).size + (zeros (64 - n)).size) = False := eq_false (by rw [ByteArray.size_extract]; omega)
  have b2 : (9223372036854775807 < n + (zeros (64 - n)).size) = False := eq_false (by omega)
  have b3 : (9223372036854775807 < n + (64 - n)) = False := eq_false (by omega)
  generalize zeros (64 - n) = z at *
  generalize hqq : 64 - n = qq at *
  clear hqq hs hcl k ho hg hl hi hm
  go_enter Try.func36, Try.ntmps36
  go_wp2_with fail
  refine RD.out.mono ?_
  rintro e w1 ⟨rfl, hb⟩
  replace HK := Lib.hid (HK.out.below hb)
  replace HB := Lib.hid (HB.out.trans (hb.mono hbw))
  replace HP := Lib.hid (HP.out.below hb)
  clear hb RD
  have RP2 := Lib.hid (fun w => show Calls Try.prog 44 #[.string ⟨#[0]⟩, .int .i64 (wrap64 (64 - (n : Int)))] w (fun e w' => e = .returned (.string z) ∧ Below w.heap.size w w') by rw [Q1.out]; exact RP.out w)
  go_wp2
  refine start_ (n := 8) (S := fun w' => True) (ds := []) #[false, false, false, false, false, false, false, false] (by kernel_rfl) rfl rfl trivial (fun hHeld => ?_)
  have HB := Lib.hid (below_drew HB.out)
  have HK := Lib.hid HK.out.drew
  have HP := Lib.hid HP.out.drew
  refine pure_ (i := 0) (N := some 19) (v := ?_) (a' := ?_) #[true, false, false, false, false, false, false, false] rfl rfl (by kernel_rfl) (fun _ _ _ h => h) (Or.inl ⟨by rfl, ?_⟩) ?_ ?_
  rotate_left
  · intro w'
    go_simp
    with_reducible rfl
  rotate_left
  · simp only [Act.put, List.setIfInBounds_toArray, List.set_cons_zero, List.set_cons_succ, i64_w, i32_w]
    rfl
  refine pure_ (i := 1) (N := some 20) (v := ?_) (a' := ?_) #[true, true, false, false, false, false, false, false] rfl rfl (by kernel_rfl) (fun _ _ _ h => h) (Or.inl ⟨by rfl, ?_⟩) ?_ ?_
  rotate_left
  · intro w'
    go_simp
    with_reducible rfl
  rotate_left
  · simp only [Act.put, List.setIfInBounds_toArray, List.set_cons_zero, List.set_cons_succ, i64_w, i32_w]
    rfl
  refine pure_ (i := 2) (N := some 21) (v := ?_) (a' := ?_) #[true, true, true, false, false, false, false, false] rfl rfl (by kernel_rfl) (fun _ _ _ h => h) (Or.inl ⟨by rfl, ?_⟩) ?_ ?_
  rotate_left
  · intro w'
    go_simp
    with_reducible rfl
  rotate_left
  · simp only [Act.put, List.setIfInBounds_toArray, List.set_cons_zero, List.set_cons_succ, i64_w, i32_w]
    rfl
  refine pure_ (i := 3) (N := some 22) (v := ?_) (a' := ?_) #[true, true, true, true, false, false, false, false] rfl rfl (by kernel_rfl) (fun _ _ _ h => h) (Or.inl ⟨by rfl, ?_⟩) ?_ ?_
  rotate_left
  · intro w'
    go_simp
    with_reducible rfl
  rotate_left
  · simp only [Act.put, List.setIfInBounds_toArray, List.set_cons_zero, List.set_cons_succ, i64_w, i32_w]
    rfl
  refine pure_ (i := 4) (N := some 23) (v := ?_) (a' := ?_) #[true, true, true, true, true, false, false, false] rfl rfl (by kernel_rfl) (fun _ _ _ h => h) (Or.inl ⟨by rfl, ?_⟩) ?_ ?_
  rotate_left
  · intro w'
    go_simp
    with_reducible rfl
  rotate_left
  · simp only [Act.put, List.setIfInBounds_toArray, List.set_cons_zero, List.set_cons_succ, i64_w, i32_w]
    rfl
  refine one_ (i := 5) (N := some 24) #[true, true, true, true, true, true, false, false] rfl rfl (by kernel_rfl) (by decide) (fun K hK => ?_)
  refine goes_ Try.func44 (by kernel_rfl) rfl #[.string ⟨#[0]⟩, .int .i64 (wrap64 (64 - (n : Int)))] (by rfl) rfl rfl (by (try simp only [List.map_toArray, List.map_cons, List.map_nil]); first | done | rfl) ?_
  with_reducible refine (RP2.out _).mono ?_
  rintro e w5 ⟨rfl, hb⟩
  refine ⟨_, rfl, ?_⟩
  have HB := Lib.hid (HB.out.trans (hb.mono (Nat.le_trans hbw HB.out.size)))
  have HK := Lib.hid (HK.out.below hb)
  have HP := Lib.hid (HP.out.below hb)
  refine hK.out _ _ trivial (fun hHeld => ?_)
  clear hK K
  refine norm_ (a' := ?_) ?_ ?_
  rotate_left
  · show Act.put _ (some 24) _ = _
    simp only [Act.put, List.setIfInBounds_toArray, List.set_cons_zero, List.set_cons_succ, i64_w, i32_w]
    rfl
  refine pure_ (i := 6) (N := some 25) (v := ?_) (a' := ?_) #[true, true, true, true, true, true, true, false] rfl rfl (by kernel_rfl) (fun _ _ _ h => h) (Or.inl ⟨by rfl, ?_⟩) ?_ ?_
  rotate_left
  · intro w'
    go_simp
    with_reducible rfl
  rotate_left
  · simp only [Act.put, List.setIfInBounds_toArray, List.set_cons_zero, List.set_cons_succ, i64_w, i32_w]
    rfl
  refine pure_ (i := 7) (N := some 9) (v := ?_) (a' := ?_) #[true, true, true, true, true, true, true, true] rfl rfl (by kernel_rfl) (fun _ _ _ h => h) (Or.inl ⟨by rfl, ?_⟩) ?_ ?_
  rotate_left
  · intro w'
    go_simp
    with_reducible rfl
  rotate_left
  · simp only [Act.put, List.setIfInBounds_toArray, List.set_cons_zero, List.set_cons_succ, i64_w, i32_w]
    rfl
  refine done_ (by kernel_rfl) ?_

  rw [← HE.out]
  clear hHeld u1 u2 b1 b2 b3
  by_cases hc : cl.toList = s.toList
  · have HD := Lib.hid (show dd = d by rw [HWS.out, if_pos hc])
    have hc1 : (cl.toList == s.toList) = true := by simpa using hc
    go_wp2
    go_ret
    rw [HD.out]
    exact ⟨rfl, ⟨_, HK.out⟩, HB.out, HP.out⟩
  · have HD := Lib.hid (show dd = writeS d i cl by rw [HWS.out, if_neg hc])
    have hc1 : (cl.toList == s.toList) = false := by simpa using hc
    go_wp2_with fail
    refine (WR.out _ HK.out (Nat.le_trans hbw HB.out.size)).mono ?_
    rintro e w6 ⟨rfl, ⟨W', hk⟩, hb, hp⟩
    replace HB := Lib.hid (HB.out.trans hb)
    replace HP := Lib.hid (HP.out.trans hp)
    go_wp2
    go_ret
    rw [HD.out]
    exact ⟨rfl, ⟨W', hk⟩, HB.out, HP.out⟩
end Go.Proofs.Ytoandabafkdgjaa.My
