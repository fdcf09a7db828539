/- isoglossref07.Disk: Do's errors, Read, Fuse. -/
import Derived.Test.YtoandabafkdgjaaRDisk2
namespace Go.Proofs.Ytoandabafkdgjaa.My
set_option linter.unusedSimpArgs false
set_option linter.unusedVariables false
open Go.RowKit Go.Proofs.YtoandabafkdgjaaW.PrintWords Go.Proofs.YtoandabafkdgjaaW.PrintLast Go.Proofs.Ytoandabafkdgjaa.Pm

theorem Byt.sub_string {w : World} {base g len cap : Nat} {o : List UInt8} (h : Byt w base (.slice (some ⟨g, 0, none⟩) len cap) o) (a k c : Nat) (ha : a + k ≤ o.length) :
    (convert 30 9 (.slice (some ⟨g, a, none⟩) k c)).run Try.prog w = .ok (.string ⟨((o.drop a).take k).toArray⟩) w := by
  have hl : (nb ((o.drop a).take k)).length = k := by rw [nb_length, List.length_take, List.length_drop]; omega
  have := run_convert_bytes_arg (P := Try.prog) w 30 5 Try.underlying30 Try.underlying5 g a k c (nb ((o.drop a).take k)) hl (fun i hi => by
    rcases Nat.eq_zero_or_pos o.length with h0 | h0
    · omega
    · obtain ⟨g', cap', e, -, -, hc⟩ := h.form h0
      cases e
      have := hc (a + i) (by omega)
      rw [this]
      simp [nb, List.getD_eq_getElem?_getD, hi, List.getElem?_take, List.getElem?_drop, List.getElem?_eq_getElem (show a + i < o.length by omega)]) 9 Try.underlying9
  rw [strOfNums_nb] at this
  exact this
theorem Byt.cap {w : World} {base len cap : Nat} {A : Option Addr} {o : List UInt8} (h : Byt w base (.slice A len cap) o) : len ≤ cap := by
  obtain ⟨-, ⟨e, -⟩ | ⟨g, cap', cur, e, -, -, hle, -⟩⟩ := h
  · cases e; exact Nat.le_refl _
  · cases e; exact hle
theorem w64a {q : Nat} (h : q ≤ 1000000) : wrap64 (q : Int) = (q : Int) := wrap64_id (by omega) (by omega)
theorem w64b {q : Nat} (h : q ≤ 1000000) : wrap64 ((q : Int) + 64) = ((q + 64 : Nat) : Int) := wrap64_id (by omega) (by omega)
/-- A call, as a value. -/
def opV (kd : Nat) (i n : Int) (b : ByteArray) (AF : Option Addr) (m c : Nat) : Value := .agg #[.int .u8 kd, .int .i64 i, .int .i64 n, .string b, .slice AF m c]
section
variable {w : World} {base h : Nat} {V1 V2 A B : Value} {o1 o2 : List UInt8} {l : List (Nat × ByteArray)} {left : Int}
set_option maxRecDepth 100000 in
set_option maxHeartbeats 4000000 in
theorem rd_lost (k : RDk w base h V1 V2 A B o1 o2 l 0) (kd : Nat) (hk : kd % 5 < 3) (i n : Int) (b : ByteArray) (AF : Option Addr) (m c : Nat) :
    Calls Try.prog 18 #[.pointer (some ⟨h, 0, none⟩), opV kd i n b AF m c] w fun e w' => e = .returned (.tuple #[.string ⟨#[]⟩, .int .i64 6]) ∧ Below w.heap.size w w' := by
  have HB := Lib.hid ((Below.refl w.heap.size w).alloc (Nat.le_refl _) (.cells #[.int .u8 kd, .int .i64 i, .int .i64 n, .string b, .slice AF m c] 40))
  have HK := Lib.hid (k.alloc (.cells #[.int .u8 kd, .int .i64 i, .int .i64 n, .string b, .slice AF m c] 40))
  have c4 := HK.out.dk.c4
  have p0 : World.cell? _ ⟨w.heap.size, 0, none⟩ = some (.int .u8 kd) := (blk_cell (blk_new w (.cells #[.int .u8 kd, .int .i64 i, .int .i64 n, .string b, .slice AF m c] 40)) 0).trans rfl
  obtain ⟨r, hr⟩ : ∃ r, kd % 5 = r := ⟨_, rfl⟩
  have hri : (kd : Int) % 5 = (r : Int) := by omega
  rw [hr] at hk
  have x0 : decide ((r : Int) < 3) = true := by simp; omega
  clear hk hr k
  unfold opV
  go_enter Try.func18, Try.ntmps18
  go_wp2
  go_ret2
  exact ⟨rfl, HB.out⟩
/-- What stands ahead of each walk of Do. -/
theorem rd_facts (k : RDk w base h V1 V2 A B o1 o2 l left) {n : Nat} (ho : o2.length = 64 * n) (hn : n ≤ 4096) : ∃ (A2 : Option Addr) (m2 c2 : Nat), V2 = .slice A2 m2 c2 ∧ m2 = 64 * n ∧ ((m2 : Int) / 64) = (n : Int) ∧ ((m2 : Int).tdiv 64) = (n : Int) ∧ wrap64 (n : Int) = (n : Int) := by
  obtain ⟨A2, c2, e⟩ := k.s2.slice
  refine ⟨A2, _, c2, e, ho, ?_, ?_, wrap64_id (by omega) (by omega)⟩
  · omega
  · rw [Int.tdiv_eq_ediv_of_nonneg (by omega)]; omega
set_option maxRecDepth 100000 in
set_option maxHeartbeats 4000000 in
theorem rd_arg1 (k : RDk w base h V1 V2 A B o1 o2 l left) {N : Nat} (ho : o2.length = 64 * N) (hn4 : N ≤ 4096) (hleft : left ≠ 0) (kd : Nat) (i n : Int) (b : ByteArray) (AF : Option Addr) (m c : Nat) (hk : kd % 5 < 2) (hi : i < 0) :
    Calls Try.prog 18 #[.pointer (some ⟨h, 0, none⟩), opV kd i n b AF m c] w fun e w' => e = .returned (.tuple #[.string ⟨#[]⟩, .int .i64 1]) ∧ Below w.heap.size w w' := by
  have HB := Lib.hid ((Below.refl w.heap.size w).alloc (Nat.le_refl _) (.cells #[.int .u8 kd, .int .i64 i, .int .i64 n, .string b, .slice AF m c] 40))
  obtain ⟨A2, m2, c2, rfl, hm2, hqq⟩ := rd_facts k ho hn4
  have QQ := Lib.hid hqq; clear hqq
  have HK := Lib.hid (k.alloc (.cells #[.int .u8 kd, .int .i64 i, .int .i64 n, .string b, .slice AF m c] 40))
  have c1 := HK.out.dk.c1
  have c4 := HK.out.dk.c4
  have HP := Lib.hid (blk_new w (.cells #[.int .u8 kd, .int .i64 i, .int .i64 n, .string b, .slice AF m c] 40))
  have p0 := (blk_cell HP.out 0).trans rfl
  have p1 := (blk_cell HP.out 1).trans rfl
  have p3 := (blk_cell HP.out 3).trans rfl
  have y4 : (left == 0) = false := by simpa using hleft
  clear k ho hm2
  obtain ⟨r, hr⟩ : ∃ r, kd % 5 = r := ⟨_, rfl⟩
  have hri : (kd : Int) % 5 = (r : Int) := by omega
  rw [hr] at hk
  have x0 : decide ((r : Int) < 3) = true := by simp; omega
  have x1 : decide ((r : Int) < 2) = true := by simp; omega
  clear hr hk
  have x2 : decide (i < 0) = true := by simpa using hi
  obtain ⟨q1, q2, q3⟩ := QQ.out
  unfold opV
  go_enter Try.func18, Try.ntmps18
  go_wp2
  go_quiet (fail)
  go_wp2
  go_ret2
  exact ⟨rfl, pw_below_drewN HB.out _⟩
set_option maxRecDepth 100000 in
set_option maxHeartbeats 4000000 in
theorem rd_arg2 (k : RDk w base h V1 V2 A B o1 o2 l left) {N : Nat} (ho : o2.length = 64 * N) (hn4 : N ≤ 4096) (hleft : left ≠ 0) (kd : Nat) (i n : Int) (b : ByteArray) (AF : Option Addr) (m c : Nat) (hk : kd % 5 < 2) (hi0 : 0 ≤ i) (hi : (N : Int) ≤ i) :
    Calls Try.prog 18 #[.pointer (some ⟨h, 0, none⟩), opV kd i n b AF m c] w fun e w' => e = .returned (.tuple #[.string ⟨#[]⟩, .int .i64 1]) ∧ Below w.heap.size w w' := by
  have HB := Lib.hid ((Below.refl w.heap.size w).alloc (Nat.le_refl _) (.cells #[.int .u8 kd, .int .i64 i, .int .i64 n, .string b, .slice AF m c] 40))
  obtain ⟨A2, m2, c2, rfl, hm2, hqq⟩ := rd_facts k ho hn4
  have QQ := Lib.hid hqq; clear hqq
  have HK := Lib.hid (k.alloc (.cells #[.int .u8 kd, .int .i64 i, .int .i64 n, .string b, .slice AF m c] 40))
  have c1 := HK.out.dk.c1
  have c4 := HK.out.dk.c4
  have HP := Lib.hid (blk_new w (.cells #[.int .u8 kd, .int .i64 i, .int .i64 n, .string b, .slice AF m c] 40))
  have p0 := (blk_cell HP.out 0).trans rfl
  have p1 := (blk_cell HP.out 1).trans rfl
  have p3 := (blk_cell HP.out 3).trans rfl
  have y4 : (left == 0) = false := by simpa using hleft
  clear k ho hm2
  obtain ⟨r, hr⟩ : ∃ r, kd % 5 = r := ⟨_, rfl⟩
  have hri : (kd : Int) % 5 = (r : Int) := by omega
  rw [hr] at hk
  have x0 : decide ((r : Int) < 3) = true := by simp; omega
  have x1 : decide ((r : Int) < 2) = true := by simp; omega
  clear hr hk
  have x2 : decide (i < 0) = false := by simp; omega
  have x3 : decide ((N : Int) ≤ i) = true := by simpa using hi
  obtain ⟨q1, q2, q3⟩ := QQ.out
  unfold opV
  go_enter Try.func18, Try.ntmps18
  go_wp2
  go_quiet (fail)
  go_wp2
  go_ret2
  exact ⟨rfl, pw_below_drewN HB.out _⟩
set_option maxRecDepth 100000 in
set_option maxHeartbeats 4000000 in
theorem rd_arg3 (k : RDk w base h V1 V2 A B o1 o2 l left) {N : Nat} (ho : o2.length = 64 * N) (hn4 : N ≤ 4096) (hleft : left ≠ 0) (kd : Nat) (i n : Int) (b : ByteArray) (AF : Option Addr) (m c : Nat) (hk : kd % 5 = 0) (hi0 : 0 ≤ i) (hi : i < (N : Int)) (hb : b.size ≠ 64) :
    Calls Try.prog 18 #[.pointer (some ⟨h, 0, none⟩), opV kd i n b AF m c] w fun e w' => e = .returned (.tuple #[.string ⟨#[]⟩, .int .i64 1]) ∧ Below w.heap.size w w' := by
  have HB := Lib.hid ((Below.refl w.heap.size w).alloc (Nat.le_refl _) (.cells #[.int .u8 kd, .int .i64 i, .int .i64 n, .string b, .slice AF m c] 40))
  obtain ⟨A2, m2, c2, rfl, hm2, hqq⟩ := rd_facts k ho hn4
  have QQ := Lib.hid hqq; clear hqq
  have HK := Lib.hid (k.alloc (.cells #[.int .u8 kd, .int .i64 i, .int .i64 n, .string b, .slice AF m c] 40))
  have c1 := HK.out.dk.c1
  have c4 := HK.out.dk.c4
  have HP := Lib.hid (blk_new w (.cells #[.int .u8 kd, .int .i64 i, .int .i64 n, .string b, .slice AF m c] 40))
  have p0 := (blk_cell HP.out 0).trans rfl
  have p1 := (blk_cell HP.out 1).trans rfl
  have p3 := (blk_cell HP.out 3).trans rfl
  have y4 : (left == 0) = false := by simpa using hleft
  clear k ho hm2
  have hri : (kd : Int) % 5 = 0 := by omega
  have x2 : decide (i < 0) = false := by simp; omega
  have x3 : decide ((N : Int) ≤ i) = false := by simp; omega
  have x5 : ((b.size : Int) != 64) = true := by simp; omega
  have x6 : ((b.size : Int) == 64) = false := by simp; omega
  obtain ⟨q1, q2, q3⟩ := QQ.out
  unfold opV
  go_enter Try.func18, Try.ntmps18
  go_wp2
  go_quiet (fail)
  go_wp2
  go_ret2
  exact ⟨rfl, pw_below_drewN HB.out _⟩
set_option maxRecDepth 100000 in
set_option maxHeartbeats 4000000 in
theorem rd_read (k : RDk w base h V1 V2 A B o1 o2 l left) {N : Nat} (ho : o2.length = 64 * N) (hn4 : N ≤ 4096) (hleft : left ≠ 0) (kd : Nat) (hk : kd % 5 = 1) (i : Int) (hi0 : 0 ≤ i) (hi : i < (N : Int)) {fr : Nat → ByteArray} (hf : Sec N o2 fr) (n : Int) (b : ByteArray) (AF : Option Addr) (m c : Nat) :
    Calls Try.prog 18 #[.pointer (some ⟨h, 0, none⟩), opV kd i n b AF m c] w fun e w' => e = .returned (.tuple #[.string (fr i.toNat), .int .i64 0]) ∧ Below w.heap.size w w' := by
  have HB := Lib.hid ((Below.refl w.heap.size w).alloc (Nat.le_refl _) (.cells #[.int .u8 kd, .int .i64 i, .int .i64 n, .string b, .slice AF m c] 40))
  obtain ⟨A2, m2, c2, rfl, hm2, hqq⟩ := rd_facts k ho hn4
  have QQ := Lib.hid hqq; clear hqq
  have HK := Lib.hid (k.alloc (.cells #[.int .u8 kd, .int .i64 i, .int .i64 n, .string b, .slice AF m c] 40))
  have c1 := HK.out.dk.c1
  have c4 := HK.out.dk.c4
  have HP := Lib.hid (blk_new w (.cells #[.int .u8 kd, .int .i64 i, .int .i64 n, .string b, .slice AF m c] 40))
  have p0 := (blk_cell HP.out 0).trans rfl
  have p1 := (blk_cell HP.out 1).trans rfl
  have p3 := (blk_cell HP.out 3).trans rfl
  have y4 : (left == 0) = false := by simpa using hleft
  have hri : (kd : Int) % 5 = 1 := by omega
  have x2 : decide (i < 0) = false := by simp; omega
  have x3 : decide ((N : Int) ≤ i) = false := by simp; omega
  obtain ⟨g, c', e, -, hgl, -⟩ := HK.out.s2.form (by rw [ho]; omega)
  clear hgl
  have hA : A2 = some ⟨g, 0, none⟩ := by cases e; rfl
  subst hA
  clear e
  have hin : i.toNat < N := by omega
  have HQ1' := Lib.hid (show 64 * i.toNat + 64 ≤ 64 * N by omega)
  have hq1 : 64 * i.toNat + 64 ≤ m2 := by omega
  have hcap := HK.out.s2.cap
  have HV := Lib.hid (show (⟨((o2.drop (64 * i.toNat)).take 64).toArray⟩ : ByteArray) = fr i.toNat by rw [hf.2 _ hin])
  have HO := Lib.hid ho
  obtain ⟨q, hq⟩ : ∃ q, 64 * i.toNat = q := ⟨_, rfl⟩
  have hqi : 64 * i = (q : Int) := by omega
  rw [hq] at hq1 HV HQ1'
  have HQ1 := HQ1'
  clear HQ1'
  have hqb : q ≤ 1000000 := by omega
  have hq2 : ¬ c2 = q := by omega
  have hq3 : q + 64 ≤ c2 := by omega
  have z1 : wrap64 (64 * i) = (q : Int) := by rw [hqi]; exact w64a hqb
  have z2 : wrap64 ((q : Int) + 64) = ((q + 64 : Nat) : Int) := w64b hqb
  clear hq hqi hin
  generalize fr i.toNat = SS at *
  have ZZ := Lib.hid (And.intro z1 (And.intro z2 (And.intro hq2 (And.intro hq3 hqb))))
  clear k hf ho hm2 z1 z2 hq2 hq3 hqb hq1 hcap
  obtain ⟨q1, q2, q3⟩ := QQ.out
  unfold opV
  go_enter Try.func18, Try.ntmps18
  go_wp2
  go_quiet (fail)
  go_wp2
  obtain ⟨z1, z2, hq2, hq3, hqb⟩ := ZZ.out
  have u1 : (0 : Int) ≤ (q : Int) + 64 := by clear z1 z2; omega
  have u2 : (q : Int) + 64 ≤ (c2 : Int) := by clear z1 z2; omega
  have u3 : ((q : Int) + 64).toNat = q + 64 := by clear z1 z2; omega
  have u4 : wrap64 ((q : Int) + 64) = (q : Int) + 64 := by rw [z2]; rfl
  clear z2 hq3
  have HB := Lib.hid (pw_below_drewN HB.out nq)
  have HK := Lib.hid (HK.out.below (pw_below_drewN (Below.refl _ _) nq))
  have HP := Lib.hid (blk_below HP.out (pw_below_drewN (Below.refl _ _) nq))
  clear c1 c4 p0 p1 p3 q1 q2 q3
  generalize (World.drewN _ nq) = w1 at *
  generalize hpp : w.heap.size = pp at *
  have HQL := Lib.hid (show q + 64 ≤ o2.length by rw [HO.out]; exact HQ1.out)
  refine start_ (n := 15) (S := fun w' => w'.cell? ⟨h, 1, none⟩ = some (.slice (some ⟨g, 0, none⟩) m2 c2) ∧ w'.cell? ⟨pp, 1, none⟩ = some (.int .i64 i) ∧ Byt w' base (.slice (some ⟨g, 0, none⟩) m2 c2) o2) (ds := []) #[false, false, false, false, false, false, false, false, false, false, false, false, false, false, false] (by kernel_rfl) rfl rfl ⟨HK.out.dk.c1, (blk_cell HP.out 1).trans rfl, HK.out.s2⟩ (fun hHeld => ?_)
  have HB := Lib.hid (below_drew HB.out)
  refine pure_ (i := 0) (N := some 99) (v := ?_) (a' := ?_) #[true, false, false, false, false, false, false, false, false, false, false, false, false, false, false] rfl rfl (by kernel_rfl) (fun _ _ _ h => h) (Or.inl ⟨by rfl, ?_⟩) ?_ ?_
  rotate_left
  · intro w'
    go_simp
    with_reducible rfl
  rotate_left
  · simp only [Act.put, List.setIfInBounds_toArray, List.set_cons_zero, List.set_cons_succ, i64_w, i32_w]
    rfl
  refine pure_ (i := 1) (N := some 100) (v := ?_) (a' := ?_) #[true, true, false, false, false, false, false, false, false, false, false, false, false, false, false] rfl rfl (by kernel_rfl) (fun _ _ _ h => h) (Or.inl ⟨by rfl, ?_⟩) ?_ ?_
  rotate_left
  · intro w'
    go_simp
    with_reducible rfl
  rotate_left
  · simp only [Act.put, List.setIfInBounds_toArray, List.set_cons_zero, List.set_cons_succ, i64_w, i32_w]
    rfl
  refine pure_ (i := 2) (N := some 101) (v := ?_) (a' := ?_) #[true, true, true, false, false, false, false, false, false, false, false, false, false, false, false] rfl rfl (by kernel_rfl) (fun _ _ _ h => h) (Or.inl ⟨by rfl, ?_⟩) ?_ ?_
  rotate_left
  · intro w'
    go_simp
    with_reducible rfl
  rotate_left
  · simp only [Act.put, List.setIfInBounds_toArray, List.set_cons_zero, List.set_cons_succ, i64_w, i32_w]
    rfl
  refine pure_ (i := 4) (N := some 103) (v := ?_) (a' := ?_) #[true, true, true, false, true, false, false, false, false, false, false, false, false, false, false] rfl rfl (by kernel_rfl) (fun _ _ _ h => h) (Or.inl ⟨by rfl, ?_⟩) ?_ ?_
  rotate_left
  · intro w'
    go_simp
    with_reducible rfl
  rotate_left
  · simp only [Act.put, List.setIfInBounds_toArray, List.set_cons_zero, List.set_cons_succ, i64_w, i32_w]
    rfl
  refine pure_ (i := 7) (N := some 106) (v := ?_) (a' := ?_) #[true, true, true, false, true, false, false, true, false, false, false, false, false, false, false] rfl rfl (by kernel_rfl) (fun _ _ _ h => h) (Or.inl ⟨by rfl, ?_⟩) ?_ ?_
  rotate_left
  · intro w'
    go_simp
    with_reducible rfl
  rotate_left
  · simp only [Act.put, List.setIfInBounds_toArray, List.set_cons_zero, List.set_cons_succ, i64_w, i32_w]
    rfl
  refine take_ (i := 3) (N := some 102) (v := ?_) (a' := ?_) #[true, true, true, true, true, false, false, true, false, false, false, false, false, false, false] rfl rfl (by kernel_rfl) (fun _ _ _ h => h) (Or.inl ⟨by rfl, ?_⟩) hHeld ?_ ?_
  rotate_left
  · rintro w' ⟨s0, s1, s2⟩
    go_simp
    with_reducible rfl
  rotate_left
  · simp only [Act.put, List.setIfInBounds_toArray, List.set_cons_zero, List.set_cons_succ, i64_w, i32_w]
    rfl
  refine take_ (i := 5) (N := some 104) (v := ?_) (a' := ?_) #[true, true, true, true, true, true, false, true, false, false, false, false, false, false, false] rfl rfl (by kernel_rfl) (fun _ _ _ h => h) (Or.inl ⟨by rfl, ?_⟩) hHeld ?_ ?_
  rotate_left
  · rintro w' ⟨s0, s1, s2⟩
    go_simp
    with_reducible rfl
  rotate_left
  · simp only [Act.put, List.setIfInBounds_toArray, List.set_cons_zero, List.set_cons_succ, i64_w, i32_w]
    rfl
  refine pure_ (i := 6) (N := some 105) (v := ?_) (a' := ?_) #[true, true, true, true, true, true, true, true, false, false, false, false, false, false, false] rfl rfl (by kernel_rfl) (fun _ _ _ h => h) (Or.inl ⟨by rfl, ?_⟩) ?_ ?_
  rotate_left
  · intro w'
    go_simp
    with_reducible rfl
  rotate_left
  · simp only [Act.put, List.setIfInBounds_toArray, List.set_cons_zero, List.set_cons_succ, i64_w, i32_w]
    rfl
  refine take_ (i := 8) (N := some 107) (v := ?_) (a' := ?_) #[true, true, true, true, true, true, true, true, true, false, false, false, false, false, false] rfl rfl (by kernel_rfl) (fun _ _ _ h => h) (Or.inl ⟨by rfl, ?_⟩) hHeld ?_ ?_
  rotate_left
  · rintro w' ⟨s0, s1, s2⟩
    go_simp
    with_reducible rfl
  rotate_left
  · simp only [Act.put, List.setIfInBounds_toArray, List.set_cons_zero, List.set_cons_succ, i64_w, i32_w]
    rfl
  refine pure_ (i := 9) (N := some 108) (v := ?_) (a' := ?_) #[true, true, true, true, true, true, true, true, true, true, false, false, false, false, false] rfl rfl (by kernel_rfl) (fun _ _ _ h => h) (Or.inl ⟨by rfl, ?_⟩) ?_ ?_
  rotate_left
  · intro w'
    go_simp
    with_reducible rfl
  rotate_left
  · simp only [Act.put, List.setIfInBounds_toArray, List.set_cons_zero, List.set_cons_succ, i64_w, i32_w]
    rfl
  refine pure_ (i := 10) (N := some 109) (v := ?_) (a' := ?_) #[true, true, true, true, true, true, true, true, true, true, true, false, false, false, false] rfl rfl (by kernel_rfl) (fun _ _ _ h => h) (Or.inl ⟨by rfl, ?_⟩) ?_ ?_
  rotate_left
  · intro w'
    go_simp
    with_reducible rfl
  rotate_left
  · simp only [Act.put, List.setIfInBounds_toArray, List.set_cons_zero, List.set_cons_succ, i64_w, i32_w]
    rfl
  refine pure_ (i := 11) (N := some 110) (v := ?_) (a' := ?_) #[true, true, true, true, true, true, true, true, true, true, true, true, false, false, false] rfl rfl (by kernel_rfl) (fun _ _ _ h => h) (Or.inl ⟨by rfl, ?_⟩) ?_ ?_
  rotate_left
  · intro w'
    go_simp
    with_reducible rfl
  rotate_left
  · simp only [Act.put, List.setIfInBounds_toArray, List.set_cons_zero, List.set_cons_succ, i64_w, i32_w]
    rfl
  refine take_ (i := 12) (N := some 111) (v := ?_) (a' := ?_) #[true, true, true, true, true, true, true, true, true, true, true, true, true, false, false] rfl rfl (by kernel_rfl) (fun _ _ _ h => h) (Or.inl ⟨by rfl, ?_⟩) hHeld ?_ ?_
  rotate_left
  · rintro w' ⟨s0, s1, s2⟩
    refine run_conv 30 9 (.tmp 110) ?_ (.slice (some ⟨g, q, none⟩) 64 (c2 - q)) (.string SS) ?_ (by rw [← HV.out]; exact s2.sub_string q 64 _ HQL.out) <;> rfl
  rotate_left
  · simp only [Act.put, List.setIfInBounds_toArray, List.set_cons_zero, List.set_cons_succ, i64_w, i32_w]
    rfl
  refine pure_ (i := 13) (N := some 4) (v := ?_) (a' := ?_) #[true, true, true, true, true, true, true, true, true, true, true, true, true, true, false] rfl rfl (by kernel_rfl) (fun _ _ _ h => h) (Or.inl ⟨by rfl, ?_⟩) ?_ ?_
  rotate_left
  · intro w'
    go_simp
    with_reducible rfl
  rotate_left
  · simp only [Act.put, List.setIfInBounds_toArray, List.set_cons_zero, List.set_cons_succ, i64_w, i32_w]
    rfl
  refine pure_ (i := 14) (N := some 5) (v := ?_) (a' := ?_) #[true, true, true, true, true, true, true, true, true, true, true, true, true, true, true] rfl rfl (by kernel_rfl) (fun _ _ _ h => h) (Or.inl ⟨by rfl, ?_⟩) ?_ ?_
  rotate_left
  · intro w'
    go_simp
    with_reducible rfl
  rotate_left
  · simp only [Act.put, List.setIfInBounds_toArray, List.set_cons_zero, List.set_cons_succ, i64_w, i32_w]
    rfl
  refine done_ (by kernel_rfl) ?_

  go_wp2
  go_ret2
  exact ⟨rfl, by rw [hpp]; exact HB.out⟩
set_option maxRecDepth 100000 in
set_option maxHeartbeats 4000000 in
theorem rd_fuse0 (k : RDk w base h V1 V2 A B o1 o2 l 0) (kd : Nat) (hk : kd % 5 = 3) (i n : Int) (b : ByteArray) (AF : Option Addr) (m c : Nat) :
    Calls Try.prog 18 #[.pointer (some ⟨h, 0, none⟩), opV kd i n b AF m c] w fun e w' => e = .returned (.tuple #[.string ⟨#[]⟩, .int .i64 0]) ∧ Below w.heap.size w w' := by
  have HB := Lib.hid ((Below.refl w.heap.size w).alloc (Nat.le_refl _) (.cells #[.int .u8 kd, .int .i64 i, .int .i64 n, .string b, .slice AF m c] 40))
  have HK := Lib.hid (k.alloc (.cells #[.int .u8 kd, .int .i64 i, .int .i64 n, .string b, .slice AF m c] 40))
  have HP := Lib.hid (blk_new w (.cells #[.int .u8 kd, .int .i64 i, .int .i64 n, .string b, .slice AF m c] 40))
  have p0 := (blk_cell HP.out 0).trans rfl
  have hri : (kd : Int) % 5 = 3 := by omega
  clear k hk
  unfold opV
  go_enter Try.func18, Try.ntmps18
  go_wp2
  go_quiet (fail)
  clear p0
  have HB := Lib.hid (pw_below_drewN HB.out nq)
  have HK := Lib.hid (HK.out.below (pw_below_drewN (Below.refl _ _) nq))
  generalize (World.drewN _ nq) = w1 at *
  have c4 := HK.out.dk.c4
  go_wp2
  go_ret2
  exact ⟨rfl, HB.out⟩
set_option maxRecDepth 100000 in
set_option maxHeartbeats 4000000 in
theorem rd_fuse (k : RDk w base h V1 V2 A B o1 o2 l left) (hleft : left ≠ 0) (kd : Nat) (hk : kd % 5 = 3) (i n : Int) (b : ByteArray) (AF : Option Addr) (m c : Nat) (hbw : base ≤ w.heap.size) :
    Calls Try.prog 18 #[.pointer (some ⟨h, 0, none⟩), opV kd i n b AF m c] w fun e w' => e = .returned (.tuple #[.string ⟨#[]⟩, .int .i64 0]) ∧ RDk w' base h V1 V2 A B o1 o2 l (max n (-1)) ∧ Below base w w' ∧ Keeps (OwnR h V1 V2 A B) w w' := by
  have HB := Lib.hid ((Below.refl base w).alloc hbw (.cells #[.int .u8 kd, .int .i64 i, .int .i64 n, .string b, .slice AF m c] 40))
  have KP := Lib.hid ((Keeps.refl (OwnR h V1 V2 A B) w).alloc (.cells #[.int .u8 kd, .int .i64 i, .int .i64 n, .string b, .slice AF m c] 40))
  have HK := Lib.hid (k.alloc (.cells #[.int .u8 kd, .int .i64 i, .int .i64 n, .string b, .slice AF m c] 40))
  have HP := Lib.hid (blk_new w (.cells #[.int .u8 kd, .int .i64 i, .int .i64 n, .string b, .slice AF m c] 40))
  have p0 := (blk_cell HP.out 0).trans rfl
  have hri : (kd : Int) % 5 = 3 := by omega
  have y4 : (left != 0) = true := by simpa using hleft
  clear k hk
  unfold opV
  go_enter Try.func18, Try.ntmps18
  go_wp2
  go_quiet (fail)
  clear p0
  have HB := Lib.hid (pw_below_drewN HB.out nq)
  have KP := Lib.hid (KP.out.drewN nq)
  have HK := Lib.hid (HK.out.below (pw_below_drewN (Below.refl _ _) nq))
  have HP := Lib.hid (blk_below HP.out (pw_below_drewN (Below.refl _ _) nq))
  generalize (World.drewN _ nq) = w1 at *
  generalize w.heap.size = pp at *
  have c4 := HK.out.dk.c4
  have f4 := HK.out.dk.f 4
  have p2 := (blk_cell HP.out 2).trans rfl
  go_wp2
  go_ret2
  exact ⟨rfl, HK.out.set4 _, below_setc (p := ⟨h, 4, none⟩) HB.out HK.out.hb _, KP.out.set (p := ⟨h, 4, none⟩) (.inl (.inl rfl)) _⟩

end
end Go.Proofs.Ytoandabafkdgjaa.My
