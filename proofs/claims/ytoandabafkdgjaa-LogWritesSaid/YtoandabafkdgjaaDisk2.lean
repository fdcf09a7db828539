/- disk.Disk: New, here, Read. -/
import Derived.Test.YtoandabafkdgjaaDisk
import Derived.Test.YtoandabafkdgjaaCode
namespace Go.Proofs.Ytoandabafkdgjaa.My
set_option linter.unusedSimpArgs false
set_option linter.unusedVariables false
open Go.RowKit Go.Proofs.YtoandabafkdgjaaW.PrintWords Go.Proofs.YtoandabafkdgjaaW.PrintLast Go.Proofs.Ytoandabafkdgjaa.Pm

theorem loop_e (s : ByteArray) : ∀ (k i : Nat) (r : List UInt8), s.size - i = k → (ByteArray.toList.loop s i r).length = k + r.length := by
  intro k
  induction k with
  | zero => intro i r h; unfold ByteArray.toList.loop; rw [if_neg (by omega)]; simp
  | succ k ih => intro i r h; unfold ByteArray.toList.loop; rw [if_pos (by omega), ih (i + 1) _ (by omega)]; simp; omega
theorem done_e (s : ByteArray) : s.toList.isEmpty = decide (s.size = 0) := by
  have h := loop_e s s.size 0 [] rfl
  change s.toList.length = _ at h
  cases hl : s.toList with
  | nil => rw [hl] at h; simp at h; simp [← h]
  | cons a l => rw [hl] at h; simp at h; exact (decide_eq_false (by omega)).symm
def newN (n : Int) : Nat := (min (max n 0) 4096).toNat
def newS (n : Int) : DkS := ⟨List.replicate (newN n) ⟨#[]⟩, [], -1, false⟩
theorem newS_ok (n : Int) : (newS n).Ok := ⟨by simp only [newS, List.length_replicate, newN]; omega, fun s hs => .inl (by rw [(List.mem_replicate.1 hs).2]; rfl), fun p hp => absurd hp (by simp [newS]), by simp only [newS]; omega⟩
set_option maxRecDepth 100000 in
theorem dk_new (n : Int) (w : World) : Calls Try.prog 8 #[.int .i64 n] w fun e w' => ∃ h V W, e = .returned (.pointer (some ⟨h, 0, none⟩)) ∧ Dk w' w.heap.size h V W (newS n) ∧ Below w.heap.size w w' := by
  obtain ⟨m, hm⟩ : ∃ m, newN n = m := ⟨_, rfl⟩
  have hm4 : m ≤ 4096 := by rw [← hm]; unfold newN; omega
  have hmi : min (max n 0) 4096 = (m : Int) := by rw [← hm]; unfold newN; omega
  unfold newS
  rw [hm]
  have HB := Lib.hid (Below.refl w.heap.size w)
  have FIN : ∀ (v1 : Value) (w1 : World), Kd.R Kd.string 9 w1 w.heap.size (fun _ => True) v1 (List.replicate m ⟨#[]⟩) → Below w.heap.size w w1 → Dk (w1.alloc (.cells #[v1, .slice none 0 0, .int .i64 (-1), .bool false] 70)) w.heap.size w1.heap.size v1 (.slice none 0 0) ⟨List.replicate m ⟨#[]⟩, [], -1, false⟩ ∧ Below w.heap.size w (w1.alloc (.cells #[v1, .slice none 0 0, .int .i64 (-1), .bool false] 70)) := fun v1 w1 hr hb =>
    ⟨⟨blk_new w1 _, Kd.R_below hr (below_alloc (Below.refl _ _) _), Kd.R_nil _ _ _ _ _, hb.size⟩, hb.alloc hb.size _⟩
  have FIN := Lib.hid FIN
  rename_i FIN'
  clear FIN'
  have HM := Lib.hid hm4
  clear hm hm4
  go_enter Try.func8, Try.ntmps8
  go_wp2_with ((with_reducible refine gate_dst (N := 6) rfl ?_); refine Kd.R_make Kd.string _ 9 rfl (N := 6) rfl 45 _ _ rfl m rfl rfl Try.underlying45 (.string ⟨#[]⟩) 16 info_str' rfl (by decide) (by omega) ⟨#[]⟩ (ok := fun _ => True) (okp := fun _ => True) rfl (fun _ hk => hk) trivial (by omega) (by have := HM.out; omega) HB.out HB.out.size ?_; intro v1 w1 hR hB hG hN; clear hG hN; rw [Int.toNat_natCast] at hR; have HR := Lib.hid hR; have HB1 := Lib.hid hB; clear hR hB; obtain ⟨A, m2, cap, rfl⟩ := r_slice3 HR.out)
  go_ret
  exact ⟨_, _, _, rfl, (FIN.out _ _ HR.out HB1.out).1, (FIN.out _ _ HR.out HB1.out).2⟩

theorem sure_get {d : DkS} {i : Nat} (hi : i < d.sure.length) (ho : d.Ok) : ∃ s, d.sure[i]? = some s ∧ d.sure.getD i ⟨#[]⟩ = s ∧ (s.size = 0 ∨ s.size = 64) := ⟨d.sure[i], List.getElem?_eq_getElem hi, by rw [List.getD_eq_getElem?_getD, List.getElem?_eq_getElem hi]; rfl, ho.size _ (List.getElem_mem hi)⟩
/-- A sure sector's cell. -/
theorem Dk.sure_cell {w : World} {base h : Nat} {V W : Value} {d : DkS} (k : Dk w base h V W d) (i : Nat) (hi : i < d.sure.length) : ∃ g c, V = .slice (some ⟨g, 0, none⟩) d.sure.length c ∧ base ≤ g ∧ g < w.heap.size ∧ w.cell? ⟨g, i, none⟩ = some (.string (d.sure.getD i ⟨#[]⟩)) ∧ w.frozen? ⟨g, i, none⟩ = false := by
  obtain ⟨g, c, rfl, hg, hl, -⟩ := Kd.R_form k.sr (Nat.lt_of_le_of_lt (Nat.zero_le _) hi)
  have := Kd.R_celln ⟨#[]⟩ k.sr (i : Int) (by omega) (by omega)
  rw [Int.toNat_natCast] at this
  refine ⟨g, c, rfl, hg, hl, ?_, this.2⟩
  rw [this.1]
  simp [rdOf]
/-- A write's cells. -/
theorem Dk.wait_cell {w : World} {base h : Nat} {V W : Value} {d : DkS} (k : Dk w base h V W d) (i : Nat) (hi : i < d.waits.length) : ∃ g c, W = .slice (some ⟨g, 0, none⟩) d.waits.length c ∧ base ≤ g ∧ g < w.heap.size ∧ (∃ cells, w.heap[g]? = some (.cells cells 73 (0, 0))) ∧ w.cell? ⟨g, i * 2, none⟩ = some (.int .i64 ((d.waits[i]'hi).1 : Int)) ∧ w.cell? ⟨g, i * 2 + 1, none⟩ = some (.string (d.waits[i]'hi).2) := by
  obtain ⟨g, c, e, hg, hl, hcs⟩ := Kd.R_form k.wt (Nat.lt_of_le_of_lt (Nat.zero_le _) hi)
  subst e
  have hr := (Kd.R_reads' k.wt).2.2
  obtain ⟨ad, cs, e, hlen, hk, hcell⟩ := hr.get_ (0, ⟨#[]⟩) (i : Int) (by omega) (by omega)
  cases e
  rw [Int.toNat_natCast, List.getD_eq_getElem?_getD, List.getElem?_eq_getElem hi, Option.getD_some] at hk
  rw [Int.toNat_natCast] at hcell
  have e := kW_open hk
  subst e
  have hadd : ∀ k, (⟨g, 0, none⟩ : Addr).add k = ⟨g, 0 + k, none⟩ := fun k => Go.WideShapes.add_plain _ _ _
  have h0 := hcell 0 _ rfl
  have h1 := hcell 1 _ rfl
  rw [hadd, Nat.zero_add] at h0 h1
  exact ⟨g, c, rfl, hg, hl, hcs, h0, h1⟩
set_option maxRecDepth 100000 in
theorem dk_here {w : World} {base h : Nat} {V W : Value} {d : DkS} (k : Dk w base h V W d) (ho : d.Ok) (i : Nat) (hi : i < d.sure.length) : Calls Try.prog 34 #[.pointer (some ⟨h, 0, none⟩), .int .i64 i] w fun e w' => e = .returned (.string (hereS d.sure i)) ∧ Below w.heap.size w w' := by
  have c0 := k.dk.c0
  obtain ⟨g, c, rfl, hg, hgl, hc, hf⟩ := k.sure_cell i hi
  clear k
  unfold hereS
  have hdn := done_e (d.sure.getD i ⟨#[]⟩)
  generalize d.sure.getD i ⟨#[]⟩ = s at *
  have HB := Lib.hid (Below.refl w.heap.size w)
  by_cases h0 : s.size = 0
  · rw [if_pos h0]
    rw [decide_eq_true h0] at hdn
    clear h0
    go_enter Try.func34, Try.ntmps34
    go_wp2_with fail
    refine (repeat_nought _).mono ?_
    rintro e w1 ⟨rfl, hb⟩
    have HB := Lib.hid (HB.out.trans hb)
    go_wp2
    go_ret
    exact ⟨rfl, HB.out⟩
  · rw [if_neg h0]
    rw [decide_eq_false h0] at hdn
    clear h0
    go_enter Try.func34, Try.ntmps34
    go_wp2
    go_ret
    exact ⟨rfl, HB.out⟩
/-- What is read of a sector. -/
def lastW (l : List (Nat × ByteArray)) (i : Nat) : Option ByteArray := (l.reverse.find? fun p => p.1 == i).map Prod.snd
def readS (d : DkS) (i : Nat) : ByteArray := (lastW d.waits i).getD (hereS d.sure i)
set_option maxRecDepth 100000 in
theorem dk_read_bad {w : World} {base h : Nat} {V W : Value} {d : DkS} (k : Dk w base h V W d) (i : Int) (hm : mayS d i ≠ 0) : Calls Try.prog 14 #[.pointer (some ⟨h, 0, none⟩), .int .i64 i] w fun e w' => e = .returned (.tuple #[.string ⟨#[]⟩, .int .i64 (mayS d i)]) ∧ Below w.heap.size w w' := by
  have M := Lib.hid (dk_may k i)
  have HB := Lib.hid (Below.refl w.heap.size w)
  generalize mayS d i = m at *
  have x1 : ((m : Int) == 0) = false := beq_eq_false_iff_ne.2 (by omega)
  have x2 : ((m : Int) != 0) = true := by simp; omega
  clear hm
  go_enter Try.func14, Try.ntmps14
  go_wp2_with fail
  refine M.out.mono ?_
  rintro e w1 ⟨rfl, rfl⟩
  go_wp2
  go_ret2
  exact ⟨rfl, HB.out⟩
theorem mayS_ok {d : DkS} {i : Int} (h : mayS d i = 0) : d.gone = false ∧ ∃ j : Nat, i = (j : Int) ∧ j < d.sure.length := by
  unfold mayS at h
  split at h
  · cases h
  · rename_i hg
    split at h
    · cases h
    · rename_i hc
      exact ⟨by simpa using hg, i.toNat, by omega, by omega⟩
set_option maxRecDepth 100000 in
set_option maxHeartbeats 4000000 in
theorem dk_read {w : World} {base h : Nat} {V W : Value} {d : DkS} (k : Dk w base h V W d) (ho : d.Ok) (i : Nat) (hm : mayS d i = 0) (hl : d.waits.length ≤ 1000000) : Calls Try.prog 14 #[.pointer (some ⟨h, 0, none⟩), .int .i64 i] w fun e w' => e = .returned (.tuple #[.string (readS d i), .int .i64 0]) ∧ Below w.heap.size w w' := by
  have M := Lib.hid (dk_may k i)
  rw [hm] at M
  obtain ⟨-, j, hj, hjl⟩ := mayS_ok hm
  obtain rfl : i = j := by omega
  clear hm hj
  have HK := Lib.hid k
  have HO := Lib.hid ho
  have HB := Lib.hid (Below.refl w.heap.size w)
  have c1 := k.dk.c1
  obtain ⟨A, c, rfl⟩ := Kd.R_slice k.wt
  clear k ho
  obtain ⟨n, hn⟩ : ∃ n, d.waits.length = n := ⟨_, rfl⟩
  have e0 : wrap64 ((n : Int) - 1) = (n : Int) - 1 := wrap64_id (by omega) (by omega)
  rw [hn] at c1 HK
  have HN := Lib.hid hn; clear hn
  go_enter Try.func14, Try.ntmps14
  go_wp2_with fail
  refine M.out.mono ?_
  rintro e w1 ⟨rfl, rfl⟩
  go_wp2
  go_loop [7] (fun v7 => ∃ (m : Nat) (z : Int), v7 = .int .i64 z ∧ z = (m : Int) - 1 ∧ m ≤ n ∧ Hid (lastW d.waits i = lastW (d.waits.take m) i)) (fun v7 => (intOf v7 + 1).toNat)
  case atStart => exact ⟨n, _, rfl, by first | rfl | exact e0, Nat.le_refl _, Lib.hid (by rw [List.take_of_length_le (by rw [HN.out]; exact Nat.le_refl _)])⟩
  case round =>
    obtain ⟨m, z, rfl, hz, hm, HL⟩ := hrel
    cases m with
    | zero =>
      obtain rfl : z = -1 := by omega
      clear hz
      have HR := Lib.hid (show readS d i = hereS d.sure i by unfold readS; rw [HL.out]; rfl)
      go_wp2_with fail
      refine (dk_here HK.out HO.out i hjl).mono ?_
      rintro e w2 ⟨rfl, hb⟩
      have HB := Lib.hid (HB.out.trans hb)
      go_wp2
      go_ret2
      rw [HR.out]
      exact ⟨rfl, HB.out⟩
    | succ m =>
      obtain rfl : z = (m : Int) := by omega
      clear hz
      have hml : m < d.waits.length := by rw [HN.out]; exact hm
      obtain ⟨g, c', e, hg, hgl, -, d0, d1⟩ := HK.out.wait_cell m hml
      rw [HN.out] at e
      cases e
      have hstep : lastW (d.waits.take (m + 1)) i = if d.waits[m].1 = i then some d.waits[m].2 else lastW (d.waits.take m) i := by
        unfold lastW
        rw [List.take_succ_eq_append_getElem hml, List.reverse_append, List.reverse_singleton, List.singleton_append, List.find?_cons]
        by_cases e : d.waits[m].1 = i
        · rw [show (d.waits[m].1 == i) = true from by simpa using e, if_pos e]; rfl
        · rw [show (d.waits[m].1 == i) = false from by simpa using e, if_neg e]
      rw [hstep] at HL
      clear hstep
      have hmn : m < n := hm
      generalize hp : d.waits[m] = p at *
      obtain ⟨pa, pb⟩ := p
      simp only at d0 d1 HL
      have HP := Lib.hid hp; clear hp
      by_cases hpi : pa = i
      · subst hpi
        have x1 : ((pa : Int) == (pa : Int)) = true := by simp
        have HR := Lib.hid (show readS d pa = pb by unfold readS; rw [HL.out, if_pos rfl]; rfl)
        go_wp2
        go_ret2
        rw [HR.out]
        exact ⟨rfl, HB.out⟩
      · have x1 : ((pa : Int) == (i : Int)) = false := beq_eq_false_iff_ne.2 (by omega)
        rw [if_neg hpi] at HL
        have e1 : wrap64 ((m : Int) - 1) = (m : Int) - 1 := wrap64_id (by omega) (by omega)
        have hpi2 : ¬ (pa : Int) = (i : Int) := by clear e1 e0; omega
        go_wp2
        go_round
        case rel => exact ⟨m, _, by first | rfl | go_num, rfl, Nat.le_of_lt hmn, HL⟩
        case measure => first | (simp [intOf]; done) | (rw [e1]; simp only [intOf]; clear e0 e1; omega)
end Go.Proofs.Ytoandabafkdgjaa.My
