/- The law CrcBit walked: one bit that is turned makes another sum. -/
import Derived.Test.YtdiocapnoinmlaaLawParts
namespace Go.Proofs.Ytdiocapnoinmlaa.My
set_option linter.unusedSimpArgs false
set_option linter.unusedVariables false
open Go.RowKit Go.Proofs.YtdiocapnoinmlaaW.PrintWords Go.Proofs.YtdiocapnoinmlaaW.PrintLast Go.Proofs.Ytdiocapnoinmlaa.Pm

theorem xor_cancel_r {a b c : Nat} (h : a ^^^ c = b ^^^ c) : a = b := by
  have := congrArg (fun x => x ^^^ c) h
  simpa [Nat.xor_assoc] using this
theorem xor_cancel_l {a b c : Nat} (h : c ^^^ a = c ^^^ b) : a = b := by
  rw [Nat.xor_comm c, Nat.xor_comm c] at h
  exact xor_cancel_r h
theorem step_inj {a b : Nat} (ha : a < 4294967296) (hb : b < 4294967296) (h : step a = step b) : a = b := by
  unfold step at h
  have h1 : a / 2 < 2 ^ 31 := by omega
  have h2 : b / 2 < 2 ^ 31 := by omega
  by_cases pa : a % 2 = 1 <;> by_cases pb : b % 2 = 1
  · rw [if_pos pa, if_pos pb] at h
    have := xor_cancel_r h
    omega
  · rw [if_pos pa, if_neg pb, Nat.xor_zero] at h
    have e : (a / 2) ^^^ (b / 2) = 2197175160 := by
      rw [← h, ← Nat.xor_assoc, Nat.xor_self, Nat.zero_xor]
    have := Nat.xor_lt_two_pow h1 h2
    omega
  · rw [if_neg pa, if_pos pb, Nat.xor_zero] at h
    have e : (b / 2) ^^^ (a / 2) = 2197175160 := by
      rw [h, ← Nat.xor_assoc, Nat.xor_self, Nat.zero_xor]
    have := Nat.xor_lt_two_pow h2 h1
    omega
  · rw [if_neg pa, if_neg pb, Nat.xor_zero, Nat.xor_zero] at h
    omega
theorem steps_inj (k : Nat) {a b : Nat} (ha : a < 4294967296) (hb : b < 4294967296) (h : steps k a = steps k b) : a = b := by
  induction k generalizing a b with
  | zero => exact h
  | succ k ih => exact step_inj ha hb (ih (step_lt ha) (step_lt hb) h)
theorem xor_byte_lt {s : Nat} (b : UInt8) (h : s < 4294967296) : s ^^^ b.toNat < 4294967296 := Nat.xor_lt_two_pow (n := 32) h (by have := b.toNat_lt; omega)
theorem tabStep_inj {s t : Nat} {b : UInt8} (hs : s < 4294967296) (ht : t < 4294967296) (h : tabStep s b = tabStep t b) : s = t := by
  rw [tabStep_steps, tabStep_steps] at h
  exact xor_cancel_r (steps_inj 8 (xor_byte_lt b hs) (xor_byte_lt b ht) h)
theorem tabStep_other {s : Nat} {b c : UInt8} (hs : s < 4294967296) (h : b ≠ c) : tabStep s b ≠ tabStep s c := by
  rw [tabStep_steps, tabStep_steps]
  intro e
  exact h (UInt8.toNat.inj (xor_cancel_l (steps_inj 8 (xor_byte_lt b hs) (xor_byte_lt c hs) e)))
theorem more_inj (l : List UInt8) {s t : Nat} (hs : s < 4294967296) (ht : t < 4294967296) (h : s ≠ t) : more s l ≠ more t l := by
  induction l generalizing s t with
  | nil => exact h
  | cons b l ih => exact ih (tabStep_lt b hs) (tabStep_lt b ht) (fun e => h (tabStep_inj hs ht e))
theorem sum_other (l r : List UInt8) (b c : UInt8) (h : b ≠ c) : sumL (l ++ b :: r) ≠ sumL (l ++ c :: r) := by
  have hm := more_lt l (show 4294967295 < 4294967296 by omega)
  have e : ∀ x, more 4294967295 (l ++ x :: r) = more (tabStep (more 4294967295 l) x) r := fun x => by simp [more]
  unfold sumL ends
  rw [e, e]
  have h1 := more_inj r (tabStep_lt b hm) (tabStep_lt c hm) (tabStep_other hm h)
  have h2 := more_lt r (tabStep_lt b hm)
  have h3 := more_lt r (tabStep_lt c hm)
  omega
theorem sum_set (l : List UInt8) (j : Nat) (hj : j < l.length) (c : UInt8) (h : l[j] ≠ c) : sumL l ≠ sumL (l.set j c) := by
  have e1 : l = l.take j ++ l[j] :: l.drop (j + 1) := by
    rw [← List.drop_eq_getElem_cons hj, List.take_append_drop]
  have e2 : l.set j c = l.take j ++ c :: l.drop (j + 1) := List.set_eq_take_append_cons_drop.trans (if_pos hj)
  rw [e2]
  conv => lhs; rw [e1]
  exact sum_other _ _ _ _ h

theorem div8_fact (k q : Nat) (h : k / 8 = q) (hk : k < 20000) : wrap64 ((k : Int) / 8) = (q : Int) := by
  rw [wrap64_id (by omega) (by omega)]; omega
theorem mod8_fact (k r : Nat) (h : k % 8 = r) : Int.tmod (k : Int) 8 = (r : Int) := by
  rw [Int.tmod_eq_emod_of_nonneg (by omega)]; omega
theorem bit_turned : ∀ (r : Fin 8) (x : Fin 256), x.val ^^^ 2 ^ r.val ≠ x.val ∧ x.val ^^^ 2 ^ r.val < 256 := by decide +kernel
theorem bit_byte (x : UInt8) (r : Nat) (hr : r < 8) : ∃ y : UInt8, Go.bits .xor .u8 (x.toNat : Int) (IntKind.u8.wrap (2 ^ r)) = (y.toNat : Int) ∧ x ≠ y := by
  have h2 : (2 : Nat) ^ r < 256 := by have : (2 : Nat) ^ r ≤ 2 ^ 7 := Nat.pow_le_pow_right (by omega) (by omega); omega
  have e : IntKind.u8.wrap ((2 : Int) ^ r) = ((2 ^ r : Nat) : Int) := by
    rw [show (2 : Int) ^ r = ((2 ^ r : Nat) : Int) from by simp]
    generalize 2 ^ r = p at *
    exact IntWalk.u8_in _ (by omega)
  have h := bit_turned ⟨r, hr⟩ ⟨x.toNat, x.toNat_lt⟩
  simp only at h
  refine ⟨UInt8.ofNat (x.toNat ^^^ 2 ^ r), ?_, ?_⟩
  · rw [e, u8_xor_nat _ _ x.toNat_lt h2, toNat_ofNat8 h.2]
  · intro hx
    have := congrArg UInt8.toNat hx
    rw [toNat_ofNat8 h.2] at this
    exact h.1 this.symm
set_option maxHeartbeats 4000000 in
theorem crc_bit (b : ByteArray) (c : Nat) (w : World) (hc : c < 65536) (hb : b.size ≤ 2000) (hb0 : 0 < b.size) :
    Calls Try.prog 7 #[.string b, .int .u16 c] w fun e w' => e = .returned (.bool true) ∧ Below w.heap.size w w' := by
  have b1 : decide (2000 < (b.size : Int)) = false := by simp; omega
  have b2 : ((b.size : Int) == 0) = false := beq_eq_false_iff_ne.2 (by omega)
  have HB := Lib.hid (Below.refl w.heap.size w)
  obtain ⟨k, hk⟩ : ∃ k : Nat, c % (8 * b.size) = k := ⟨_, rfl⟩
  have hkb : k < 8 * b.size := hk ▸ Nat.mod_lt c (show 0 < 8 * b.size by omega)
  have hki : (c : Int) % (8 * (b.size : Int)) = (k : Int) := by rw [← hk, Int.natCast_emod]; rfl
  clear hk
  have hw48 : IntKind.i64.wrap (c : Int) = (c : Int) := IntWalk.i64_in _ (by omega)
  have kb := fun W => print_bytes (P := Try.prog) 9 22 5 Try.underlying9 Try.underlying22 Try.underlying5 b W
  go_enter Try.func7, Try.ntmps7
  go_wp2_with fail
  refine (awake02 _).mono ?_
  rintro e wq1 ⟨rfl, hb⟩
  have HB := Lib.hid (HB.out.trans (hb.mono HB.out.size)); clear hb
  go_wp2
  have hrow := ByteRow.of_bytes wq1 5 b
  have hB := bytes_below HB.out HB.out.size 5 b
  have hg : wq1.heap.size < (Lib.bytesWorld wq1 5 b).heap.size := by rw [Lib.bytesWorld_size]; omega
  have hgl := HB.out.size
  have HB := Lib.hid hB; clear hB
  generalize Lib.bytesWorld wq1 5 b = w2 at *
  generalize grownCap wq1 b.size 0 5 = cap at *
  generalize wq1.heap.size = g at *
  obtain ⟨q, hq⟩ : ∃ q, k / 8 = q := ⟨_, rfl⟩
  obtain ⟨r, hr⟩ : ∃ r, k % 8 = r := ⟨_, rfl⟩
  have hr8 : r < 8 := by omega
  have hql : q < b.data.toList.length := by rw [show b.data.toList.length = b.size from bl_length b]; omega
  have hqi : (q : Int) < (b.size : Int) := by omega
  have hri : (r : Int) ≤ 8 := by omega
  have w1 := div8_fact k q hq (by omega)
  have w2' := mod8_fact k r hr
  obtain ⟨hc1, hf1⟩ := hrow q hql
  have HR := Lib.hid hrow; clear hrow
  generalize hx : b.data.toList[q] = x at *
  have HX := Lib.hid hx; clear hx
  clear hq hr
  refine start_ (n := 11) (S := fun w' => w'.cell? ⟨g, q, none⟩ = some (.int .u8 (x.toNat : Int))) (ds := [10]) #[false, false, false, false, false, false, false, false, false, false, false] (by kernel_rfl) rfl rfl (hc1) (fun hHeld => ?_)
  refine pure_ (i := 0) (N := some 29) (v := ?_) (a' := ?_) #[true, false, false, false, false, false, false, false, false, false, false] rfl rfl (by kernel_rfl) (fun _ _ _ h => h) (Or.inl ⟨by rfl, ?_⟩) ?_ ?_
  rotate_left
  · intro w'
    go_simp
    with_reducible rfl
  rotate_left
  · simp only [Act.put, List.setIfInBounds_toArray, List.set_cons_zero, List.set_cons_succ, i64_w, i32_w]
    rfl
  refine pure_ (i := 1) (N := some 30) (v := ?_) (a' := ?_) #[true, true, false, false, false, false, false, false, false, false, false] rfl rfl (by kernel_rfl) (fun _ _ _ h => h) (Or.inl ⟨by rfl, ?_⟩) ?_ ?_
  rotate_left
  · intro w'
    go_simp
    with_reducible rfl
  rotate_left
  · simp only [Act.put, List.setIfInBounds_toArray, List.set_cons_zero, List.set_cons_succ, i64_w, i32_w]
    rfl
  refine pure_ (i := 2) (N := some 31) (v := ?_) (a' := ?_) #[true, true, true, false, false, false, false, false, false, false, false] rfl rfl (by kernel_rfl) (fun _ _ _ h => h) (Or.inl ⟨by rfl, ?_⟩) ?_ ?_
  rotate_left
  · intro w'
    go_simp
    with_reducible rfl
  rotate_left
  · simp only [Act.put, List.setIfInBounds_toArray, List.set_cons_zero, List.set_cons_succ, i64_w, i32_w]
    rfl
  refine pure_ (i := 3) (N := some 32) (v := ?_) (a' := ?_) #[true, true, true, true, false, false, false, false, false, false, false] rfl rfl (by kernel_rfl) (fun _ _ _ h => h) (Or.inl ⟨by rfl, ?_⟩) ?_ ?_
  rotate_left
  · intro w'
    go_simp
    with_reducible rfl
  rotate_left
  · simp only [Act.put, List.setIfInBounds_toArray, List.set_cons_zero, List.set_cons_succ, i64_w, i32_w]
    rfl
  refine pure_ (i := 5) (N := some 34) (v := ?_) (a' := ?_) #[true, true, true, true, false, true, false, false, false, false, false] rfl rfl (by kernel_rfl) (fun _ _ _ h => h) (Or.inl ⟨by rfl, ?_⟩) ?_ ?_
  rotate_left
  · intro w'
    go_simp
    with_reducible rfl
  rotate_left
  · simp only [Act.put, List.setIfInBounds_toArray, List.set_cons_zero, List.set_cons_succ, i64_w, i32_w]
    rfl
  refine pure_ (i := 6) (N := some 35) (v := ?_) (a' := ?_) #[true, true, true, true, false, true, true, false, false, false, false] rfl rfl (by kernel_rfl) (fun _ _ _ h => h) (Or.inl ⟨by rfl, ?_⟩) ?_ ?_
  rotate_left
  · intro w'
    go_simp
    with_reducible rfl
  rotate_left
  · simp only [Act.put, List.setIfInBounds_toArray, List.set_cons_zero, List.set_cons_succ, i64_w, i32_w]
    rfl
  refine pure_ (i := 7) (N := some 36) (v := ?_) (a' := ?_) #[true, true, true, true, false, true, true, true, false, false, false] rfl rfl (by kernel_rfl) (fun _ _ _ h => h) (Or.inl ⟨by rfl, ?_⟩) ?_ ?_
  rotate_left
  · intro w'
    go_simp
    with_reducible rfl
  rotate_left
  · simp only [Act.put, List.setIfInBounds_toArray, List.set_cons_zero, List.set_cons_succ, i64_w, i32_w]
    rfl
  refine take_ (i := 4) (N := some 33) (v := ?_) (a' := ?_) #[true, true, true, true, true, true, true, true, false, false, false] rfl rfl (by kernel_rfl) (fun _ _ _ h => h) (Or.inl ⟨by rfl, ?_⟩) hHeld ?_ ?_
  rotate_left
  · intro w' s0
    go_simp
    with_reducible rfl
  rotate_left
  · simp only [Act.put, List.setIfInBounds_toArray, List.set_cons_zero, List.set_cons_succ, i64_w, i32_w]
    rfl
  refine pure_ (i := 8) (N := some 37) (v := ?_) (a' := ?_) #[true, true, true, true, true, true, true, true, true, false, false] rfl rfl (by kernel_rfl) (fun _ _ _ h => h) (Or.inl ⟨by rfl, ?_⟩) ?_ ?_
  rotate_left
  · intro w'
    go_simp
    with_reducible rfl
  rotate_left
  · simp only [Act.put, List.setIfInBounds_toArray, List.set_cons_zero, List.set_cons_succ, i64_w, i32_w]
    rfl
  refine pure_ (i := 9) (N := some 38) (v := ?_) (a' := ?_) #[true, true, true, true, true, true, true, true, true, true, false] rfl rfl (by kernel_rfl) (fun _ _ _ h => h) (Or.inl ⟨by rfl, ?_⟩) ?_ ?_
  rotate_left
  · intro w'
    go_simp
    with_reducible rfl
  rotate_left
  · simp only [Act.put, List.setIfInBounds_toArray, List.set_cons_zero, List.set_cons_succ, i64_w, i32_w]
    rfl
  refine last_ (i := 10) (N := none) #[true, true, true, true, true, true, true, true, true, true, true] rfl rfl (by kernel_rfl) (by decide) (fun K hK => ?_)
  refine skip_ (w1 := ?_) (by rfl) rfl ?_ ?_
  rotate_left
  · go_simp
    rfl
  refine hK.out _ _ ?_
  clear hK K
  refine done_ (by kernel_rfl) ?_

  obtain ⟨y, hy, hxy⟩ := bit_byte x r hr8
  rw [hy]
  have hsum := sum_set b.data.toList q hql y (by rw [HX.out]; exact hxy)
  have hRY := HR.out.set q y _ rfl hql
  have HB := Lib.hid (HB.out.setCell (p := ⟨g, q, none⟩) hgl (.int .u8 (y.toNat : Int)))
  have hg' : g < (w2.setCell ⟨g, q, none⟩ (.int .u8 (y.toNat : Int))).heap.size := by simpa using hg
  have HB := Lib.hid (below_drew HB.out)
  have HRY := Lib.hid hRY.drew
  have hg2 : g < (w2.setCell ⟨g, q, none⟩ (.int .u8 (y.toNat : Int))).drew.heap.size := hg'
  clear hRY hg' hy HX HR hc1 hf1 hHeld
  generalize (w2.setCell ⟨g, q, none⟩ (.int .u8 (y.toNat : Int))).drew = w3 at *
  obtain ⟨l', hl'⟩ : ∃ l', b.data.toList.set q y = l' := ⟨_, rfl⟩
  have hlen : l'.length = b.size := by rw [← hl', List.length_set]; exact bl_length b
  rw [hl'] at hsum HRY
  clear hl'
  have hsum' : ((sumL b.data.toList : Int) == (sumL l' : Int)) = false := beq_eq_false_iff_ne.2 (fun h => hsum (by omega))
  have hsum2 : ((sumL b.data.toList : Int) != (sumL l' : Int)) = true := by rw [bne, hsum']; rfl
  have hstr := fun (w : World) (h : ByteRow w g l') => h.str cap
  rw [hlen] at hstr
  have HSTR := Lib.hid hstr; clear hstr
  have M := Lib.hid crc_make
  have U := Lib.hid (fun w => crc_sum b w (by omega))
  have V := Lib.hid (fun w => crc_sum ⟨l'.toArray⟩ w (by rw [← bl_length, show bl ⟨l'.toArray⟩ = l' from rfl]; omega))
  rw [show (⟨l'.toArray⟩ : ByteArray).data.toList = l' from rfl] at V
  have hi1 : (Try.prog.info? 42).map (·.size) = some tab.size := by unfold tab; rw [tabTo_size]; kernel_rfl
  have h0 : (tabTo 0).size = tab.size := by unfold tab; rw [tabTo_size, tabTo_size]
  have h1 : tab.all (·.oneCell') = true := tabTo_one 256
  have hz := zeroTable
  have HI := Lib.hid hi1; clear hi1
  have H0 := Lib.hid h0; clear h0
  have H1 := Lib.hid h1; clear h1
  generalize tab = T at *
  generalize tabTo 0 = T0 at *
  generalize sumL b.data.toList = s1 at *
  generalize sumL l' = s2 at *
  clear hsum kb hxy
  go_wp2_with fail
  refine (M.out _).mono ?_
  rintro e w4 ⟨rfl, hb⟩
  have HRY := Lib.hid (HRY.out.below hb hg2)
  have hg2 := Nat.lt_of_lt_of_le hg2 hb.size
  have HB := Lib.hid (HB.out.trans (hb.mono HB.out.size)); clear hb
  have b0 := blk_new w4 (.cells T0 42)
  have B0 := Lib.hid b0; clear b0
  go_wp2_with (refine wpList_store_row rfl 42 _ _ rfl w4.heap.size T rfl rfl 42 T0 B0.out HI.out H0.out H1.out ?_; rw [World.setRow_alloc_new])
  obtain ⟨gt, hgg⟩ : ∃ gt, w4.heap.size = gt := ⟨_, rfl⟩
  have k0 := blk_new w4 (.cells T 42)
  have HRY := Lib.hid (HRY.out.below (below_alloc (Below.refl _ _) (.cells T 42)) hg2)
  have hg3 : g < (w4.alloc (.cells T 42)).heap.size := by simp; omega
  have HB := Lib.hid (below_alloc HB.out (.cells T 42))
  rw [hgg] at k0 ⊢
  clear hgg hg2
  generalize w4.alloc (.cells T 42) = w5 at *
  refine start_ (n := 9) (S := fun w' => w'.heap[gt]? = some (.cells T 42 (0, 0)) ∧ ByteRow w' g l' ∧ g < w'.heap.size) (ds := []) #[false, false, false, false, false, false, false, false, false] (by kernel_rfl) rfl rfl ⟨k0, HRY.out, hg3⟩ (fun hHeld => ?_)
  have HB := Lib.hid (below_drew HB.out)
  refine pure_ (i := 1) (N := some 41) (v := ?_) (a' := ?_) #[false, true, false, false, false, false, false, false, false] rfl rfl (by kernel_rfl) (fun _ _ _ h => h) (Or.inl ⟨by rfl, ?_⟩) ?_ ?_
  rotate_left
  · intro w'
    go_simp
    with_reducible rfl
  rotate_left
  · simp only [Act.put, List.setIfInBounds_toArray, List.set_cons_zero, List.set_cons_succ, i64_w, i32_w]
    rfl
  refine pure_ (i := 4) (N := some 44) (v := ?_) (a' := ?_) #[false, true, false, false, true, false, false, false, false] rfl rfl (by kernel_rfl) (fun _ _ _ h => h) (Or.inl ⟨by rfl, ?_⟩) ?_ ?_
  rotate_left
  · intro w'
    go_simp
    with_reducible rfl
  rotate_left
  · simp only [Act.put, List.setIfInBounds_toArray, List.set_cons_zero, List.set_cons_succ, i64_w, i32_w]
    rfl
  refine take_ (i := 0) (N := some 40) (v := ?_) (a' := ?_) #[true, true, false, false, true, false, false, false, false] rfl rfl (by kernel_rfl) (fun _ _ _ h => h) (Or.inl ⟨by rfl, ?_⟩) hHeld ?_ ?_
  rotate_left
  · rintro w' ⟨s0, s1, s2⟩
    refine run_row 42 (.tmp 7) ?_ gt ?_ 42 T (0, 0) _ s0 Try.underlying42 rfl HI.out <;> rfl
  rotate_left
  · simp only [Act.put, List.setIfInBounds_toArray, List.set_cons_zero, List.set_cons_succ, i64_w, i32_w]
    rfl
  refine take_ (i := 3) (N := some 43) (v := ?_) (a' := ?_) #[true, true, false, true, true, false, false, false, false] rfl rfl (by kernel_rfl) (fun _ _ _ h => h) (Or.inl ⟨by rfl, ?_⟩) hHeld ?_ ?_
  rotate_left
  · rintro w' ⟨s0, s1, s2⟩
    refine run_row 42 (.tmp 7) ?_ gt ?_ 42 T (0, 0) _ s0 Try.underlying42 rfl HI.out <;> rfl
  rotate_left
  · simp only [Act.put, List.setIfInBounds_toArray, List.set_cons_zero, List.set_cons_succ, i64_w, i32_w]
    rfl
  refine take_ (i := 5) (N := some 45) (v := ?_) (a' := ?_) #[true, true, false, true, true, true, false, false, false] rfl rfl (by kernel_rfl) (fun _ _ _ h => h) (Or.inl ⟨by rfl, ?_⟩) hHeld ?_ ?_
  rotate_left
  · rintro w' ⟨s0, s1, s2⟩
    refine run_conv 22 9 (.tmp 44) ?_ (.slice (some ⟨g, 0, none⟩) b.size cap) (.string ⟨l'.toArray⟩) ?_ (HSTR.out _ s1) <;> rfl
  rotate_left
  · simp only [Act.put, List.setIfInBounds_toArray, List.set_cons_zero, List.set_cons_succ, i64_w, i32_w]
    rfl
  refine one_ (i := 2) (N := some 42) #[true, true, true, true, true, true, false, false, false] rfl rfl (by kernel_rfl) (by decide) (fun K hK => ?_)
  refine goes_ Try.func19 (by kernel_rfl) rfl #[.agg T, .string b] (by rfl) rfl rfl (by (try simp only [List.map_toArray, List.map_cons, List.map_nil]); first | done | rfl) ?_
  with_reducible refine (U.out _).mono ?_
  rintro e w6 ⟨rfl, hb⟩
  refine ⟨_, rfl, ?_⟩
  have HB := Lib.hid (HB.out.trans (hb.mono HB.out.size))
  refine hK.out _ _ ⟨blk_below hHeld.1 hb, hHeld.2.1.below hb hHeld.2.2, Nat.lt_of_lt_of_le hHeld.2.2 hb.size⟩ (fun hHeld => ?_)
  clear hK K
  refine norm_ (a' := ?_) ?_ ?_
  rotate_left
  · show Act.put _ (some 42) _ = _
    simp only [Act.put, List.setIfInBounds_toArray, List.set_cons_zero, List.set_cons_succ, i64_w, i32_w]
    rfl
  refine one_ (i := 6) (N := some 46) #[true, true, true, true, true, true, true, false, false] rfl rfl (by kernel_rfl) (by decide) (fun K hK => ?_)
  refine goes_ Try.func19 (by kernel_rfl) rfl #[.agg T, .string ⟨l'.toArray⟩] (by rfl) rfl rfl (by (try simp only [List.map_toArray, List.map_cons, List.map_nil]); first | done | rfl) ?_
  with_reducible refine (V.out _).mono ?_
  rintro e w7 ⟨rfl, hb⟩
  refine ⟨_, rfl, ?_⟩
  have HB := Lib.hid (HB.out.trans (hb.mono HB.out.size))
  refine hK.out _ _ ⟨blk_below hHeld.1 hb, hHeld.2.1.below hb hHeld.2.2, Nat.lt_of_lt_of_le hHeld.2.2 hb.size⟩ (fun hHeld => ?_)
  clear hK K
  refine norm_ (a' := ?_) ?_ ?_
  rotate_left
  · show Act.put _ (some 46) _ = _
    simp only [Act.put, List.setIfInBounds_toArray, List.set_cons_zero, List.set_cons_succ, i64_w, i32_w]
    rfl
  refine pure_ (i := 7) (N := some 47) (v := ?_) (a' := ?_) #[true, true, true, true, true, true, true, true, false] rfl rfl (by kernel_rfl) (fun _ _ _ h => h) (Or.inl ⟨by rfl, ?_⟩) ?_ ?_
  rotate_left
  · intro w'
    go_simp
    with_reducible rfl
  rotate_left
  · simp only [Act.put, List.setIfInBounds_toArray, List.set_cons_zero, List.set_cons_succ, i64_w, i32_w]
    rfl
  refine pure_ (i := 8) (N := some 4) (v := ?_) (a' := ?_) #[true, true, true, true, true, true, true, true, true] rfl rfl (by kernel_rfl) (fun _ _ _ h => h) (Or.inl ⟨by rfl, ?_⟩) ?_ ?_
  rotate_left
  · intro w'
    go_simp
    with_reducible rfl
  rotate_left
  · simp only [Act.put, List.setIfInBounds_toArray, List.set_cons_zero, List.set_cons_succ, i64_w, i32_w]
    rfl
  refine done_ (by kernel_rfl) ?_

  go_wp2
  go_ret
  exact ⟨rfl, HB.out⟩
theorem crc_bit_walk (a0 : ByteArray) (a1 : Int) (W : World) (h0 : a0.size ≤ 140737488351232) (h1 : (Lit.int .u16 a1).wf = true) :
    Calls Try.prog 7 #[.string a0, .int .u16 a1] W fun e w' => e = .returned (.bool true) ∧ Below W.heap.size W w' := by
  have h := wf_u16 h1
  obtain ⟨n, rfl⟩ := Int.eq_ofNat_of_zero_le h.1
  have HB := Lib.hid (Below.refl W.heap.size W)
  by_cases hb : a0.size ≤ 2000
  · by_cases hb0 : a0.size = 0
    · have b1 : decide (2000 < (a0.size : Int)) = false := by simp; omega
      have b2 : ((a0.size : Int) == 0) = true := beq_iff_eq.2 (by omega)
      clear hb0
      go_enter Try.func7, Try.ntmps7
      go_wp2_with fail
      refine (awake02 _).mono ?_
      rintro e wq2 ⟨rfl, hb⟩
      have HB := Lib.hid (HB.out.trans (hb.mono HB.out.size)); clear hb
      go_wp2_with fail
      refine (awake02 _).mono ?_
      rintro e wq3 ⟨rfl, hb⟩
      have HB := Lib.hid (HB.out.trans (hb.mono HB.out.size)); clear hb
      go_wp2
      go_ret
      exact ⟨rfl, HB.out⟩
    · exact crc_bit a0 n W (by omega) hb (by omega)
  · have b1 : decide (2000 < (a0.size : Int)) = true := by simp; omega
    go_enter Try.func7, Try.ntmps7
    go_wp2_with fail
    refine (awake02 _).mono ?_
    rintro e wq4 ⟨rfl, hb⟩
    have HB := Lib.hid (HB.out.trans (hb.mono HB.out.size)); clear hb
    go_wp2_with fail
    refine (awake02 _).mono ?_
    rintro e wq5 ⟨rfl, hb⟩
    have HB := Lib.hid (HB.out.trans (hb.mono HB.out.size)); clear hb
    go_wp2
    go_ret
    exact ⟨rfl, HB.out⟩
end Go.Proofs.Ytdiocapnoinmlaa.My
