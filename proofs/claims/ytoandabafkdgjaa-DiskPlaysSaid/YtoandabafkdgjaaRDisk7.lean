/- isoglossref07.Disk: Do's Crash. -/
import Derived.Test.YtoandabafkdgjaaRDisk6
namespace Go.Proofs.Ytoandabafkdgjaa.My
set_option linter.unusedSimpArgs false
set_option linter.unusedVariables false
open Go.RowKit Go.Proofs.YtoandabafkdgjaaW.PrintWords Go.Proofs.YtoandabafkdgjaaW.PrintLast Go.Proofs.Ytoandabafkdgjaa.Pm

def fateN (f : UInt8) : Nat := if f = 255 then 64 else f.toNat % 64
def crashO (fl : List UInt8) (l : List (Nat × ByteArray)) (o : List UInt8) : Nat → List UInt8
  | 0 => o
  | n + 1 => splice (crashO fl l o n) (64 * (l.getD n (0, ⟨#[]⟩)).1) ((l.getD n (0, ⟨#[]⟩)).2.extract 0 (fateN (fl.getD n 0))).data.toList
theorem fateN_le (f : UInt8) : fateN f ≤ 64 := by unfold fateN; split <;> omega
theorem crashO_len {fl : List UInt8} {l : List (Nat × ByteArray)} {o : List UInt8} {N : Nat} (ho : o.length = 64 * N) (hl : ∀ p ∈ l, p.1 < N ∧ p.2.size = 64) : ∀ n, n ≤ l.length → (crashO fl l o n).length = 64 * N
  | 0, _ => ho
  | n + 1, h => by
    have ih := crashO_len (fl := fl) ho hl n (by omega)
    have hp := hl _ (List.getElem_mem (show n < l.length by omega))
    have hg : l.getD n (0, ⟨#[]⟩) = l[n] := by rw [List.getD_eq_getElem?_getD, List.getElem?_eq_getElem (by omega)]; rfl
    rw [crashO, hg, length_splice _ _ _ ?_, ih]
    rw [ih, data_len, ByteArray.size_extract]
    have := fateN_le (fl.getD n 0)
    omega
/-- Fates that lie in the arguments. -/
def FtsA (w : World) (base : Nat) (A : Option Addr) (l : List UInt8) : Prop :=
  0 < l.length → ∃ b off, A = some ⟨b, off, none⟩ ∧ b < w.heap.size ∧ b < base ∧ ∀ j (h : j < l.length), w.cell? ⟨b, off + j, none⟩ = some (.int .u8 ((l[j]'h).toNat : Int))
theorem FtsA.below {w w1 : World} {base : Nat} {A : Option Addr} {l : List UInt8} (h : FtsA w base A l) (hb : Below base w w1) : FtsA w1 base A l := fun h0 => by
  obtain ⟨b, off, e, hl, ht, hc⟩ := h h0
  exact ⟨b, off, e, Nat.lt_of_lt_of_le hl hb.size, ht, fun j hj => (hb.cell (p := ⟨b, off + j, none⟩) ht).trans (hc j hj)⟩
theorem FtsA.fts {w : World} {base : Nat} {A : Option Addr} {l : List UInt8} (h : FtsA w base A l) : Fts w base A l := fun h0 => by
  obtain ⟨b, off, e, hl, ht, hc⟩ := h h0
  exact ⟨b, off, e, hl, .inl ht, hc⟩
section
variable {w : World} {base h : Nat} {V1 V2 A B : Value} {o1 o2 : List UInt8} {l : List (Nat × ByteArray)} {left : Int}
theorem RDk.at_cell (k : RDk w base h V1 V2 A B o1 o2 l left) (i : Nat) (hi : i < l.length) : ∃ g c, A = .slice (some ⟨g, 0, none⟩) l.length c ∧ w.cell? ⟨g, i, none⟩ = some (.int .i64 ((l[i]'hi).1 : Int)) := by
  obtain ⟨g, c, rfl, hg, hl, -⟩ := Kd.R_form k.ats (by rw [List.length_map]; omega)
  have := Kd.R_celln 0 k.ats (i : Int) (by omega) (by rw [List.length_map]; omega)
  rw [Int.toNat_natCast] at this
  refine ⟨g, c, by rw [List.length_map], ?_⟩
  rw [this.1]
  simp [rdOf, List.getD_eq_getElem?_getD, List.getElem?_map, List.getElem?_eq_getElem hi]
theorem RDk.b_cell (k : RDk w base h V1 V2 A B o1 o2 l left) (i : Nat) (hi : i < l.length) : ∃ g c, B = .slice (some ⟨g, 0, none⟩) l.length c ∧ w.cell? ⟨g, i, none⟩ = some (.string (l[i]'hi).2) := by
  obtain ⟨g, c, rfl, hg, hl, -⟩ := Kd.R_form k.bs (by rw [List.length_map]; omega)
  have := Kd.R_celln ⟨#[]⟩ k.bs (i : Int) (by omega) (by rw [List.length_map]; omega)
  rw [Int.toNat_natCast] at this
  refine ⟨g, c, by rw [List.length_map], ?_⟩
  rw [this.1]
  simp [rdOf, List.getD_eq_getElem?_getD, List.getElem?_map, List.getElem?_eq_getElem hi]
set_option maxRecDepth 100000 in
set_option maxHeartbeats 16000000 in
theorem rd_crash (k : RDk w base h V1 V2 A B o1 o2 l left) {N : Nat} (ho1 : o1.length = 64 * N) (ho2 : o2.length = 64 * N) (hn4 : N ≤ 4096) (hl : ∀ p ∈ l, p.1 < N ∧ p.2.size = 64) (hll : l.length ≤ 1000000) (kd : Nat) (hk : kd % 5 = 4) (i n : Int) (b : ByteArray) (AF : Option Addr) (m c : Nat) (fl : List UInt8) (hF : FtsA w base AF fl) (hm : fl.length = m) (hbw : base ≤ w.heap.size) :
    Calls Try.prog 18 #[.pointer (some ⟨h, 0, none⟩), opV kd i n b AF m c] w fun e w' => e = .returned (.tuple #[.string ⟨#[]⟩, .int .i64 0]) ∧ RDk w' base h V1 V2 (.slice none 0 0) (.slice none 0 0) (crashO fl l o1 (min l.length fl.length)) (crashO fl l o1 (min l.length fl.length)) [] (-1) ∧ Below base w w' ∧ Keeps (OwnR h V1 V2 A B) w w' := by
  have HB := Lib.hid ((Below.refl base w).alloc hbw (.cells #[.int .u8 kd, .int .i64 i, .int .i64 n, .string b, .slice AF m c] 40))
  have KP := Lib.hid ((Keeps.refl (OwnR h V1 V2 A B) w).alloc (.cells #[.int .u8 kd, .int .i64 i, .int .i64 n, .string b, .slice AF m c] 40))
  have HK := Lib.hid (k.alloc (.cells #[.int .u8 kd, .int .i64 i, .int .i64 n, .string b, .slice AF m c] 40))
  have HP := Lib.hid (blk_new w (.cells #[.int .u8 kd, .int .i64 i, .int .i64 n, .string b, .slice AF m c] 40))
  have p0 := (blk_cell HP.out 0).trans rfl
  have hri : (kd : Int) % 5 = 4 := by omega
  have HF := Lib.hid hF
  have HL := Lib.hid (And.intro ho1 (And.intro ho2 (And.intro hn4 (And.intro hl (And.intro hll hm)))))
  obtain ⟨KK, hK⟩ : ∃ KK, min l.length fl.length = KK := ⟨_, rfl⟩
  rw [hK]
  have HKK := Lib.hid hK
  clear k hk hF ho1 ho2 hn4 hl hll hm hK
  unfold opV
  go_enter Try.func18, Try.ntmps18
  go_wp2
  go_quiet (fail)
  clear p0
  replace HB := Lib.hid (pw_below_drewN HB.out nq)
  replace KP := Lib.hid (KP.out.drewN nq)
  replace HK := Lib.hid (HK.out.below (pw_below_drewN (Below.refl _ _) nq))
  replace HP := Lib.hid (blk_below HP.out (pw_below_drewN (Below.refl _ _) nq))
  generalize (World.drewN _ nq) = w1 at *
  generalize hpp : w.heap.size = pp at *
  obtain ⟨A1, c1, rfl, -⟩ := byt_same HK.out.s1
  obtain ⟨A2, c2, rfl, -⟩ := byt_same HK.out.s2
  have hm1 := HL.out.1
  have hm2 := HL.out.2.1
  have hma := Kd.R_slice HK.out.ats
  obtain ⟨Aa, ca, rfl⟩ := hma
  have hmb := Kd.R_slice HK.out.bs
  obtain ⟨Ab, cb, rfl⟩ := hmb
  rw [show (List.map Prod.snd l).length = l.length from List.length_map ..] at *
  rw [show (List.map (fun p : Nat × ByteArray => (p.1 : Int)) l).length = l.length from List.length_map ..] at *
  generalize hv1 : o1.length = m1 at *
  generalize hv2 : o2.length = m2 at *
  generalize hva : l.length = ma at *
  have HV := Lib.hid (And.intro hv1 (And.intro hv2 (And.intro hva (And.intro hm1 hm2))))
  clear hv1 hv2 hva hm1 hm2
  have hml : ma ≤ 140737488351232 := by have := HL.out.2.2.2.2.1; omega
  go_wp2
  go_loopw [7] (fun v7 wr => ∃ j : Nat, v7 = .int .i64 j ∧ j ≤ ma ∧ j ≤ m ∧ Hid (RDk wr base h (.slice A1 m1 c1) (.slice A2 m2 c2) (.slice Aa ma ca) (.slice Ab ma cb) (crashO fl l o1 j) o2 l left) ∧ Hid (wr.heap[pp]? = some (.cells #[.int .u8 kd, .int .i64 i, .int .i64 n, .string b, .slice AF m c] 40 (0, 0))) ∧ Hid (Below base w wr) ∧ Hid (Keeps (OwnR h (.slice A1 m1 c1) (.slice A2 m2 c2) (.slice Aa ma ca) (.slice Ab ma cb)) w wr)) (fun v7 _ => ma - (intOf v7).toNat)
  case atStart => exact ⟨0, rfl, Nat.zero_le _, Nat.zero_le _, HK, HP, HB, KP⟩
  case round =>
    clear HK HB HP KP
    obtain ⟨j, rfl, hj, hjm', HK, HP, HB, KP⟩ := hrel
    have e2 := HK.out.dk.c2
    have p4 := (blk_cell HP.out 4).trans rfl
    have HTL := Lib.hid (crashO_len (fl := fl) (HV.out.1.trans HV.out.2.2.2.1) HL.out.2.2.2.1 j (by rw [HV.out.2.2.1]; exact hj))
    by_cases hja : j < ma
    · have y1 : decide ((j : Int) < (ma : Int)) = true := by simp; omega
      have y1n : decide (j < ma) = true := by simp; omega
      by_cases hjm : j < m
      · have y2 : decide ((j : Int) < (m : Int)) = true := by simp; omega
        have y2n : decide (j < m) = true := by simp; omega
        have hjl : j < l.length := by rw [HV.out.2.2.1]; exact hja
        have hjf : j < fl.length := by rw [HL.out.2.2.2.2.2]; exact hjm
        obtain ⟨ga, ca', e, da⟩ := HK.out.at_cell j hjl
        have hA : Aa = some ⟨ga, 0, none⟩ := by cases e; rfl
        subst hA
        clear e
        obtain ⟨gb, cb', e, db⟩ := HK.out.b_cell j hjl
        have hA : Ab = some ⟨gb, 0, none⟩ := by cases e; rfl
        subst hA
        clear e
        obtain ⟨bf, off, rfl, hbl, hbt, hfc⟩ := (HF.out.below HB.out) (by omega)
        have fc := hfc j hjf
        have hwk := HL.out.2.2.2.1 _ (List.getElem_mem hjl)
        have hst : crashO fl l o1 (j + 1) = splice (crashO fl l o1 j) (64 * l[j].1) (l[j].2.extract 0 (fateN fl[j])).data.toList := by
          rw [crashO, List.getD_eq_getElem?_getD, List.getElem?_eq_getElem hjl, List.getD_eq_getElem?_getD, List.getElem?_eq_getElem hjf]; rfl
        have htl0 : 0 < (crashO fl l o1 j).length := by rw [HTL.out]; have := hwk.1; omega
        obtain ⟨g1, c1', e, -, -, -⟩ := HK.out.s1.form htl0
        clear htl0
        have hA : A1 = some ⟨g1, 0, none⟩ := by cases e; rfl
        subst hA
        clear e
        have hcap := HK.out.s1.cap
        generalize hp : l[j] = p at *
        obtain ⟨at_, bs⟩ := p
        simp only at da db hwk hst
        generalize fl[j] = f at *
        generalize hq : 64 * at_ = q at *
        have hqi : 64 * (at_ : Int) = (q : Int) := by omega
        have hm1 := HV.out.2.2.2.1
        have hn4 := HL.out.2.2.1
        have HDA := Lib.hid da
        have HDB := Lib.hid db
        have HST := Lib.hid hst
        have HZ' := Lib.hid (And.intro hwk.2 (And.intro (show q + 64 ≤ m1 by omega) (show (crashO fl l o1 j).length = m1 by rw [HTL.out]; exact hm1.symm)))
        have hqb : q ≤ 1000000 := by omega
        have ZQ := Lib.hid (And.intro (show wrap64 (64 * (at_ : Int)) = (q : Int) by rw [hqi]; exact w64a hqb) (And.intro (show ¬ c1 = q by omega) (And.intro (show q ≤ m1 by omega) (And.intro (show (q : Int) ≤ (m1 : Int) by omega) hwk.2))))
        have HW := Lib.hid (succ_w hja hml)
        obtain ⟨rr, hr, hr64, n1, n2, n3⟩ := u8_mod f
        have NN := Lib.hid (And.intro n1 (And.intro n2 n3)); clear n1 n2 n3
        clear hbl hbt hfc hwk hst hcap hp hq hqi hm1 hn4 hqb da db hjl
        generalize crashO fl l o1 j = t at *
        by_cases hf2 : f = 255
        · have z0 : ((f.toNat : Int) == 255) = true := by rw [hf2]; rfl
          have z0' : f.toNat = 255 := by rw [hf2]; rfl
          rw [show fateN f = 64 by unfold fateN; rw [if_pos hf2]] at HST
          have ZZ := Lib.hid (And.intro ZQ.out.1 (And.intro ZQ.out.2.1 (And.intro ZQ.out.2.2.1 (And.intro ZQ.out.2.2.2.1 (And.intro (show 64 ≤ bs.size ∧ (64 : Int) ≤ (bs.size : Int) by rw [ZQ.out.2.2.2.2]; omega) (show (0 : Int) ≤ (j : Int) ∧ (j : Int) < (ma : Int) by omega))))))
          have HZ := Lib.hid (And.intro HZ'.out.1 (And.intro HZ'.out.2.1 (And.intro HZ'.out.2.2 (show 64 ≤ 64 by omega))))
          clear hf2 ZQ HZ' hj hjm' hr64
          obtain ⟨n1, n2, n3⟩ := NN.out
          go_wp2
          clear e2 p4 y1 y1n y2 y2n z0 z0' n1 n2 n3 fc hr
          obtain ⟨z1, hq2, hq4, hq5, ⟨hnb, hnbi⟩, hji⟩ := ZZ.out
          refine start_ (n := 23) (S := fun w' => w'.cell? ⟨h, 0, none⟩ = some (.slice (some ⟨g1, 0, none⟩) m1 c1) ∧ w'.cell? ⟨h, 2, none⟩ = some (.slice (some ⟨ga, 0, none⟩) ma ca) ∧ w'.cell? ⟨h, 3, none⟩ = some (.slice (some ⟨gb, 0, none⟩) ma cb) ∧ w'.cell? ⟨ga, j, none⟩ = some (.int .i64 (at_ : Int)) ∧ w'.cell? ⟨gb, j, none⟩ = some (.string bs)) (ds := [22]) #[false, false, false, false, false, false, false, false, false, false, false, false, false, false, false, false, false, false, false, false, false, false, false] (by kernel_rfl) rfl rfl ⟨HK.out.dk.c0, HK.out.dk.c2, HK.out.dk.c3, HDA.out, HDB.out⟩ (fun hHeld => ?_)
          have HB := Lib.hid (below_drew HB.out)
          have KP := Lib.hid KP.out.drew
          have HK := Lib.hid HK.out.drew
          have HP := Lib.hid (blk_drew HP.out)
          refine pure_ (i := 0) (N := some 173) (v := ?_) (a' := ?_) #[true, false, false, false, false, false, false, false, false, false, false, false, false, false, false, false, false, false, false, false, false, false, false] rfl rfl (by kernel_rfl) (fun _ _ _ h => h) (Or.inl ⟨by rfl, ?_⟩) ?_ ?_
          rotate_left
          · intro w'
            go_simp
            with_reducible rfl
          rotate_left
          · simp only [Act.put, List.setIfInBounds_toArray, List.set_cons_zero, List.set_cons_succ, i64_w, i32_w]
            rfl
          refine pure_ (i := 1) (N := some 174) (v := ?_) (a' := ?_) #[true, true, false, false, false, false, false, false, false, false, false, false, false, false, false, false, false, false, false, false, false, false, false] rfl rfl (by kernel_rfl) (fun _ _ _ h => h) (Or.inl ⟨by rfl, ?_⟩) ?_ ?_
          rotate_left
          · intro w'
            go_simp
            with_reducible rfl
          rotate_left
          · simp only [Act.put, List.setIfInBounds_toArray, List.set_cons_zero, List.set_cons_succ, i64_w, i32_w]
            rfl
          refine pure_ (i := 2) (N := some 175) (v := ?_) (a' := ?_) #[true, true, true, false, false, false, false, false, false, false, false, false, false, false, false, false, false, false, false, false, false, false, false] rfl rfl (by kernel_rfl) (fun _ _ _ h => h) (Or.inl ⟨by rfl, ?_⟩) ?_ ?_
          rotate_left
          · intro w'
            go_simp
            with_reducible rfl
          rotate_left
          · simp only [Act.put, List.setIfInBounds_toArray, List.set_cons_zero, List.set_cons_succ, i64_w, i32_w]
            rfl
          refine pure_ (i := 4) (N := some 177) (v := ?_) (a' := ?_) #[true, true, true, false, true, false, false, false, false, false, false, false, false, false, false, false, false, false, false, false, false, false, false] rfl rfl (by kernel_rfl) (fun _ _ _ h => h) (Or.inl ⟨by rfl, ?_⟩) ?_ ?_
          rotate_left
          · intro w'
            go_simp
            with_reducible rfl
          rotate_left
          · simp only [Act.put, List.setIfInBounds_toArray, List.set_cons_zero, List.set_cons_succ, i64_w, i32_w]
            rfl
          refine pure_ (i := 5) (N := some 178) (v := ?_) (a' := ?_) #[true, true, true, false, true, true, false, false, false, false, false, false, false, false, false, false, false, false, false, false, false, false, false] rfl rfl (by kernel_rfl) (fun _ _ _ h => h) (Or.inl ⟨by rfl, ?_⟩) ?_ ?_
          rotate_left
          · intro w'
            go_simp
            with_reducible rfl
          rotate_left
          · simp only [Act.put, List.setIfInBounds_toArray, List.set_cons_zero, List.set_cons_succ, i64_w, i32_w]
            rfl
          refine pure_ (i := 6) (N := some 179) (v := ?_) (a' := ?_) #[true, true, true, false, true, true, true, false, false, false, false, false, false, false, false, false, false, false, false, false, false, false, false] rfl rfl (by kernel_rfl) (fun _ _ _ h => h) (Or.inl ⟨by rfl, ?_⟩) ?_ ?_
          rotate_left
          · intro w'
            go_simp
            with_reducible rfl
          rotate_left
          · simp only [Act.put, List.setIfInBounds_toArray, List.set_cons_zero, List.set_cons_succ, i64_w, i32_w]
            rfl
          refine pure_ (i := 8) (N := some 181) (v := ?_) (a' := ?_) #[true, true, true, false, true, true, true, false, true, false, false, false, false, false, false, false, false, false, false, false, false, false, false] rfl rfl (by kernel_rfl) (fun _ _ _ h => h) (Or.inl ⟨by rfl, ?_⟩) ?_ ?_
          rotate_left
          · intro w'
            go_simp
            with_reducible rfl
          rotate_left
          · simp only [Act.put, List.setIfInBounds_toArray, List.set_cons_zero, List.set_cons_succ, i64_w, i32_w]
            rfl
          refine pure_ (i := 13) (N := some 186) (v := ?_) (a' := ?_) #[true, true, true, false, true, true, true, false, true, false, false, false, false, true, false, false, false, false, false, false, false, false, false] rfl rfl (by kernel_rfl) (fun _ _ _ h => h) (Or.inl ⟨by rfl, ?_⟩) ?_ ?_
          rotate_left
          · intro w'
            go_simp
            with_reducible rfl
          rotate_left
          · simp only [Act.put, List.setIfInBounds_toArray, List.set_cons_zero, List.set_cons_succ, i64_w, i32_w]
            rfl
          refine pure_ (i := 14) (N := some 187) (v := ?_) (a' := ?_) #[true, true, true, false, true, true, true, false, true, false, false, false, false, true, true, false, false, false, false, false, false, false, false] rfl rfl (by kernel_rfl) (fun _ _ _ h => h) (Or.inl ⟨by rfl, ?_⟩) ?_ ?_
          rotate_left
          · intro w'
            go_simp
            with_reducible rfl
          rotate_left
          · simp only [Act.put, List.setIfInBounds_toArray, List.set_cons_zero, List.set_cons_succ, i64_w, i32_w]
            rfl
          refine pure_ (i := 15) (N := some 188) (v := ?_) (a' := ?_) #[true, true, true, false, true, true, true, false, true, false, false, false, false, true, true, true, false, false, false, false, false, false, false] rfl rfl (by kernel_rfl) (fun _ _ _ h => h) (Or.inl ⟨by rfl, ?_⟩) ?_ ?_
          rotate_left
          · intro w'
            go_simp
            with_reducible rfl
          rotate_left
          · simp only [Act.put, List.setIfInBounds_toArray, List.set_cons_zero, List.set_cons_succ, i64_w, i32_w]
            rfl
          refine pure_ (i := 17) (N := some 190) (v := ?_) (a' := ?_) #[true, true, true, false, true, true, true, false, true, false, false, false, false, true, true, true, false, true, false, false, false, false, false] rfl rfl (by kernel_rfl) (fun _ _ _ h => h) (Or.inl ⟨by rfl, ?_⟩) ?_ ?_
          rotate_left
          · intro w'
            go_simp
            with_reducible rfl
          rotate_left
          · simp only [Act.put, List.setIfInBounds_toArray, List.set_cons_zero, List.set_cons_succ, i64_w, i32_w]
            rfl
          refine pure_ (i := 20) (N := some 193) (v := ?_) (a' := ?_) #[true, true, true, false, true, true, true, false, true, false, false, false, false, true, true, true, false, true, false, false, true, false, false] rfl rfl (by kernel_rfl) (fun _ _ _ h => h) (Or.inl ⟨by rfl, ?_⟩) ?_ ?_
          rotate_left
          · intro w'
            go_simp
            with_reducible rfl
          rotate_left
          · simp only [Act.put, List.setIfInBounds_toArray, List.set_cons_zero, List.set_cons_succ, i64_w, i32_w]
            rfl
          refine take_ (i := 3) (N := some 176) (v := ?_) (a' := ?_) #[true, true, true, true, true, true, true, false, true, false, false, false, false, true, true, true, false, true, false, false, true, false, false] rfl rfl (by kernel_rfl) (fun _ _ _ h => h) (Or.inl ⟨by rfl, ?_⟩) hHeld ?_ ?_
          rotate_left
          · rintro w' ⟨s0, s1, s2, s3, s4⟩
            go_simp
            with_reducible rfl
          rotate_left
          · simp only [Act.put, List.setIfInBounds_toArray, List.set_cons_zero, List.set_cons_succ, i64_w, i32_w]
            rfl
          refine take_ (i := 7) (N := some 180) (v := ?_) (a' := ?_) #[true, true, true, true, true, true, true, true, true, false, false, false, false, true, true, true, false, true, false, false, true, false, false] rfl rfl (by kernel_rfl) (fun _ _ _ h => h) (Or.inl ⟨by rfl, ?_⟩) hHeld ?_ ?_
          rotate_left
          · rintro w' ⟨s0, s1, s2, s3, s4⟩
            go_simp
            with_reducible rfl
          rotate_left
          · simp only [Act.put, List.setIfInBounds_toArray, List.set_cons_zero, List.set_cons_succ, i64_w, i32_w]
            rfl
          refine pure_ (i := 9) (N := some 182) (v := ?_) (a' := ?_) #[true, true, true, true, true, true, true, true, true, true, false, false, false, true, true, true, false, true, false, false, true, false, false] rfl rfl (by kernel_rfl) (fun _ _ _ h => h) (Or.inl ⟨by rfl, ?_⟩) ?_ ?_
          rotate_left
          · intro w'
            go_simp
            with_reducible rfl
          rotate_left
          · simp only [Act.put, List.setIfInBounds_toArray, List.set_cons_zero, List.set_cons_succ, i64_w, i32_w]
            rfl
          refine take_ (i := 10) (N := some 183) (v := ?_) (a' := ?_) #[true, true, true, true, true, true, true, true, true, true, true, false, false, true, true, true, false, true, false, false, true, false, false] rfl rfl (by kernel_rfl) (fun _ _ _ h => h) (Or.inl ⟨by rfl, ?_⟩) hHeld ?_ ?_
          rotate_left
          · rintro w' ⟨s0, s1, s2, s3, s4⟩
            go_simp
            with_reducible rfl
          rotate_left
          · simp only [Act.put, List.setIfInBounds_toArray, List.set_cons_zero, List.set_cons_succ, i64_w, i32_w]
            rfl
          refine pure_ (i := 11) (N := some 184) (v := ?_) (a' := ?_) #[true, true, true, true, true, true, true, true, true, true, true, true, false, true, true, true, false, true, false, false, true, false, false] rfl rfl (by kernel_rfl) (fun _ _ _ h => h) (Or.inl ⟨by rfl, ?_⟩) ?_ ?_
          rotate_left
          · intro w'
            go_simp
            with_reducible rfl
          rotate_left
          · simp only [Act.put, List.setIfInBounds_toArray, List.set_cons_zero, List.set_cons_succ, i64_w, i32_w]
            rfl
          refine pure_ (i := 12) (N := some 185) (v := ?_) (a' := ?_) #[true, true, true, true, true, true, true, true, true, true, true, true, true, true, true, true, false, true, false, false, true, false, false] rfl rfl (by kernel_rfl) (fun _ _ _ h => h) (Or.inl ⟨by rfl, ?_⟩) ?_ ?_
          rotate_left
          · intro w'
            go_simp
            with_reducible rfl
          rotate_left
          · simp only [Act.put, List.setIfInBounds_toArray, List.set_cons_zero, List.set_cons_succ, i64_w, i32_w]
            rfl
          refine take_ (i := 16) (N := some 189) (v := ?_) (a' := ?_) #[true, true, true, true, true, true, true, true, true, true, true, true, true, true, true, true, true, true, false, false, true, false, false] rfl rfl (by kernel_rfl) (fun _ _ _ h => h) (Or.inl ⟨by rfl, ?_⟩) hHeld ?_ ?_
          rotate_left
          · rintro w' ⟨s0, s1, s2, s3, s4⟩
            go_simp
            with_reducible rfl
          rotate_left
          · simp only [Act.put, List.setIfInBounds_toArray, List.set_cons_zero, List.set_cons_succ, i64_w, i32_w]
            rfl
          refine pure_ (i := 18) (N := some 191) (v := ?_) (a' := ?_) #[true, true, true, true, true, true, true, true, true, true, true, true, true, true, true, true, true, true, true, false, true, false, false] rfl rfl (by kernel_rfl) (fun _ _ _ h => h) (Or.inl ⟨by rfl, ?_⟩) ?_ ?_
          rotate_left
          · intro w'
            go_simp
            with_reducible rfl
          rotate_left
          · simp only [Act.put, List.setIfInBounds_toArray, List.set_cons_zero, List.set_cons_succ, i64_w, i32_w]
            rfl
          refine take_ (i := 19) (N := some 192) (v := ?_) (a' := ?_) #[true, true, true, true, true, true, true, true, true, true, true, true, true, true, true, true, true, true, true, true, true, false, false] rfl rfl (by kernel_rfl) (fun _ _ _ h => h) (Or.inl ⟨by rfl, ?_⟩) hHeld ?_ ?_
          rotate_left
          · rintro w' ⟨s0, s1, s2, s3, s4⟩
            go_simp
            with_reducible rfl
          rotate_left
          · simp only [Act.put, List.setIfInBounds_toArray, List.set_cons_zero, List.set_cons_succ, i64_w, i32_w]
            rfl
          refine pure_ (i := 21) (N := some 194) (v := ?_) (a' := ?_) #[true, true, true, true, true, true, true, true, true, true, true, true, true, true, true, true, true, true, true, true, true, true, false] rfl rfl (by kernel_rfl) (fun _ _ _ h => h) (Or.inl ⟨by rfl, ?_⟩) ?_ ?_
          rotate_left
          · intro w'
            go_simp
            with_reducible rfl
          rotate_left
          · simp only [Act.put, List.setIfInBounds_toArray, List.set_cons_zero, List.set_cons_succ, i64_w, i32_w]
            rfl
          refine last_ (i := 22) (N := some 195) #[true, true, true, true, true, true, true, true, true, true, true, true, true, true, true, true, true, true, true, true, true, true, true] rfl rfl (by kernel_rfl) (by decide) (fun K hK => ?_)
          refine copy_str_step (w0 := w) base (by rfl) (.tmp 185) (.tmp 194) rfl g1 c1 q _ _ (bs.extract 0 64) rfl rfl t (by rw [HZ.out.2.2.1]; exact HK.out.s1) (by have := HZ.out; rw [ByteArray.size_extract]; omega) (by have := HZ.out; rw [ByteArray.size_extract]; omega) HB.out ?_
          intro w5 HO1 HB1 HG1
          refine hK.out _ _ ?_
          clear hK K
          refine norm_ (a' := ?_) ?_ ?_
          rotate_left
          · show Act.put _ (some 195) _ = _
            simp only [Act.put, List.setIfInBounds_toArray, List.set_cons_zero, List.set_cons_succ, i64_w, i32_w]
            rfl
          refine done_ (by kernel_rfl) ?_
          clear hHeld z1 hq2 hq4 hq5 hnb hnbi hji
          have HP := Lib.hid (blk_grown HP.out HG1.out (HK.out.s1.ne HP.out (by decide)))
          have HK := Lib.hid (HK.out.sure HG1.out (o := splice t q (bs.extract 0 64).data.toList) (by have := HO1.out; rw [HZ.out.2.2.1] at this; exact this))
          have HB := HB1
          have KP := Lib.hid (KP.out.grown HG1.out (fun k e => .inl (.inr (.inl e))))
          clear HO1 HG1 HB1
          have hw := HW.out
          go_wp2
          go_roundw
          case rel => exact ⟨j + 1, by go_num, hja, hjm, by rw [HST.out]; exact HK, HP, HB, KP⟩
          case measure => first | exact up_w hja hw | exact up_w2 hja
        · have z0' : ¬ f.toNat = 255 := fun e => hf2 (UInt8.toNat.inj e)
          have z0 : ((f.toNat : Int) == 255) = false := beq_eq_false_iff_ne.2 (by omega)
          obtain ⟨nn, hnn⟩ : ∃ nn, rr = nn := ⟨_, rfl⟩
          have hfn : fateN f = nn := by unfold fateN; rw [if_neg hf2, hr, hnn]
          rw [hfn] at HST
          subst hnn
          have ZZ := Lib.hid (And.intro ZQ.out.1 (And.intro ZQ.out.2.1 (And.intro ZQ.out.2.2.1 (And.intro ZQ.out.2.2.2.1 (And.intro (show rr ≤ bs.size ∧ (rr : Int) ≤ (bs.size : Int) by rw [ZQ.out.2.2.2.2]; omega) (show (0 : Int) ≤ (j : Int) ∧ (j : Int) < (ma : Int) by omega))))))
          have HZ := Lib.hid (And.intro HZ'.out.1 (And.intro HZ'.out.2.1 (And.intro HZ'.out.2.2 (show rr ≤ 64 by omega))))
          clear hf2 hfn ZQ HZ' hj hjm' hr64
          obtain ⟨n1, n2, n3⟩ := NN.out
          go_wp2
          clear e2 p4 y1 y1n y2 y2n z0 z0' n1 n2 n3 fc hr
          obtain ⟨z1, hq2, hq4, hq5, ⟨hnb, hnbi⟩, hji⟩ := ZZ.out
          refine start_ (n := 23) (S := fun w' => w'.cell? ⟨h, 0, none⟩ = some (.slice (some ⟨g1, 0, none⟩) m1 c1) ∧ w'.cell? ⟨h, 2, none⟩ = some (.slice (some ⟨ga, 0, none⟩) ma ca) ∧ w'.cell? ⟨h, 3, none⟩ = some (.slice (some ⟨gb, 0, none⟩) ma cb) ∧ w'.cell? ⟨ga, j, none⟩ = some (.int .i64 (at_ : Int)) ∧ w'.cell? ⟨gb, j, none⟩ = some (.string bs)) (ds := [22]) #[false, false, false, false, false, false, false, false, false, false, false, false, false, false, false, false, false, false, false, false, false, false, false] (by kernel_rfl) rfl rfl ⟨HK.out.dk.c0, HK.out.dk.c2, HK.out.dk.c3, HDA.out, HDB.out⟩ (fun hHeld => ?_)
          have HB := Lib.hid (below_drew HB.out)
          have KP := Lib.hid KP.out.drew
          have HK := Lib.hid HK.out.drew
          have HP := Lib.hid (blk_drew HP.out)
          refine pure_ (i := 0) (N := some 173) (v := ?_) (a' := ?_) #[true, false, false, false, false, false, false, false, false, false, false, false, false, false, false, false, false, false, false, false, false, false, false] rfl rfl (by kernel_rfl) (fun _ _ _ h => h) (Or.inl ⟨by rfl, ?_⟩) ?_ ?_
          rotate_left
          · intro w'
            go_simp
            with_reducible rfl
          rotate_left
          · simp only [Act.put, List.setIfInBounds_toArray, List.set_cons_zero, List.set_cons_succ, i64_w, i32_w]
            rfl
          refine pure_ (i := 1) (N := some 174) (v := ?_) (a' := ?_) #[true, true, false, false, false, false, false, false, false, false, false, false, false, false, false, false, false, false, false, false, false, false, false] rfl rfl (by kernel_rfl) (fun _ _ _ h => h) (Or.inl ⟨by rfl, ?_⟩) ?_ ?_
          rotate_left
          · intro w'
            go_simp
            with_reducible rfl
          rotate_left
          · simp only [Act.put, List.setIfInBounds_toArray, List.set_cons_zero, List.set_cons_succ, i64_w, i32_w]
            rfl
          refine pure_ (i := 2) (N := some 175) (v := ?_) (a' := ?_) #[true, true, true, false, false, false, false, false, false, false, false, false, false, false, false, false, false, false, false, false, false, false, false] rfl rfl (by kernel_rfl) (fun _ _ _ h => h) (Or.inl ⟨by rfl, ?_⟩) ?_ ?_
          rotate_left
          · intro w'
            go_simp
            with_reducible rfl
          rotate_left
          · simp only [Act.put, List.setIfInBounds_toArray, List.set_cons_zero, List.set_cons_succ, i64_w, i32_w]
            rfl
          refine pure_ (i := 4) (N := some 177) (v := ?_) (a' := ?_) #[true, true, true, false, true, false, false, false, false, false, false, false, false, false, false, false, false, false, false, false, false, false, false] rfl rfl (by kernel_rfl) (fun _ _ _ h => h) (Or.inl ⟨by rfl, ?_⟩) ?_ ?_
          rotate_left
          · intro w'
            go_simp
            with_reducible rfl
          rotate_left
          · simp only [Act.put, List.setIfInBounds_toArray, List.set_cons_zero, List.set_cons_succ, i64_w, i32_w]
            rfl
          refine pure_ (i := 5) (N := some 178) (v := ?_) (a' := ?_) #[true, true, true, false, true, true, false, false, false, false, false, false, false, false, false, false, false, false, false, false, false, false, false] rfl rfl (by kernel_rfl) (fun _ _ _ h => h) (Or.inl ⟨by rfl, ?_⟩) ?_ ?_
          rotate_left
          · intro w'
            go_simp
            with_reducible rfl
          rotate_left
          · simp only [Act.put, List.setIfInBounds_toArray, List.set_cons_zero, List.set_cons_succ, i64_w, i32_w]
            rfl
          refine pure_ (i := 6) (N := some 179) (v := ?_) (a' := ?_) #[true, true, true, false, true, true, true, false, false, false, false, false, false, false, false, false, false, false, false, false, false, false, false] rfl rfl (by kernel_rfl) (fun _ _ _ h => h) (Or.inl ⟨by rfl, ?_⟩) ?_ ?_
          rotate_left
          · intro w'
            go_simp
            with_reducible rfl
          rotate_left
          · simp only [Act.put, List.setIfInBounds_toArray, List.set_cons_zero, List.set_cons_succ, i64_w, i32_w]
            rfl
          refine pure_ (i := 8) (N := some 181) (v := ?_) (a' := ?_) #[true, true, true, false, true, true, true, false, true, false, false, false, false, false, false, false, false, false, false, false, false, false, false] rfl rfl (by kernel_rfl) (fun _ _ _ h => h) (Or.inl ⟨by rfl, ?_⟩) ?_ ?_
          rotate_left
          · intro w'
            go_simp
            with_reducible rfl
          rotate_left
          · simp only [Act.put, List.setIfInBounds_toArray, List.set_cons_zero, List.set_cons_succ, i64_w, i32_w]
            rfl
          refine pure_ (i := 13) (N := some 186) (v := ?_) (a' := ?_) #[true, true, true, false, true, true, true, false, true, false, false, false, false, true, false, false, false, false, false, false, false, false, false] rfl rfl (by kernel_rfl) (fun _ _ _ h => h) (Or.inl ⟨by rfl, ?_⟩) ?_ ?_
          rotate_left
          · intro w'
            go_simp
            with_reducible rfl
          rotate_left
          · simp only [Act.put, List.setIfInBounds_toArray, List.set_cons_zero, List.set_cons_succ, i64_w, i32_w]
            rfl
          refine pure_ (i := 14) (N := some 187) (v := ?_) (a' := ?_) #[true, true, true, false, true, true, true, false, true, false, false, false, false, true, true, false, false, false, false, false, false, false, false] rfl rfl (by kernel_rfl) (fun _ _ _ h => h) (Or.inl ⟨by rfl, ?_⟩) ?_ ?_
          rotate_left
          · intro w'
            go_simp
            with_reducible rfl
          rotate_left
          · simp only [Act.put, List.setIfInBounds_toArray, List.set_cons_zero, List.set_cons_succ, i64_w, i32_w]
            rfl
          refine pure_ (i := 15) (N := some 188) (v := ?_) (a' := ?_) #[true, true, true, false, true, true, true, false, true, false, false, false, false, true, true, true, false, false, false, false, false, false, false] rfl rfl (by kernel_rfl) (fun _ _ _ h => h) (Or.inl ⟨by rfl, ?_⟩) ?_ ?_
          rotate_left
          · intro w'
            go_simp
            with_reducible rfl
          rotate_left
          · simp only [Act.put, List.setIfInBounds_toArray, List.set_cons_zero, List.set_cons_succ, i64_w, i32_w]
            rfl
          refine pure_ (i := 17) (N := some 190) (v := ?_) (a' := ?_) #[true, true, true, false, true, true, true, false, true, false, false, false, false, true, true, true, false, true, false, false, false, false, false] rfl rfl (by kernel_rfl) (fun _ _ _ h => h) (Or.inl ⟨by rfl, ?_⟩) ?_ ?_
          rotate_left
          · intro w'
            go_simp
            with_reducible rfl
          rotate_left
          · simp only [Act.put, List.setIfInBounds_toArray, List.set_cons_zero, List.set_cons_succ, i64_w, i32_w]
            rfl
          refine pure_ (i := 20) (N := some 193) (v := ?_) (a' := ?_) #[true, true, true, false, true, true, true, false, true, false, false, false, false, true, true, true, false, true, false, false, true, false, false] rfl rfl (by kernel_rfl) (fun _ _ _ h => h) (Or.inl ⟨by rfl, ?_⟩) ?_ ?_
          rotate_left
          · intro w'
            go_simp
            with_reducible rfl
          rotate_left
          · simp only [Act.put, List.setIfInBounds_toArray, List.set_cons_zero, List.set_cons_succ, i64_w, i32_w]
            rfl
          refine take_ (i := 3) (N := some 176) (v := ?_) (a' := ?_) #[true, true, true, true, true, true, true, false, true, false, false, false, false, true, true, true, false, true, false, false, true, false, false] rfl rfl (by kernel_rfl) (fun _ _ _ h => h) (Or.inl ⟨by rfl, ?_⟩) hHeld ?_ ?_
          rotate_left
          · rintro w' ⟨s0, s1, s2, s3, s4⟩
            go_simp
            with_reducible rfl
          rotate_left
          · simp only [Act.put, List.setIfInBounds_toArray, List.set_cons_zero, List.set_cons_succ, i64_w, i32_w]
            rfl
          refine take_ (i := 7) (N := some 180) (v := ?_) (a' := ?_) #[true, true, true, true, true, true, true, true, true, false, false, false, false, true, true, true, false, true, false, false, true, false, false] rfl rfl (by kernel_rfl) (fun _ _ _ h => h) (Or.inl ⟨by rfl, ?_⟩) hHeld ?_ ?_
          rotate_left
          · rintro w' ⟨s0, s1, s2, s3, s4⟩
            go_simp
            with_reducible rfl
          rotate_left
          · simp only [Act.put, List.setIfInBounds_toArray, List.set_cons_zero, List.set_cons_succ, i64_w, i32_w]
            rfl
          refine pure_ (i := 9) (N := some 182) (v := ?_) (a' := ?_) #[true, true, true, true, true, true, true, true, true, true, false, false, false, true, true, true, false, true, false, false, true, false, false] rfl rfl (by kernel_rfl) (fun _ _ _ h => h) (Or.inl ⟨by rfl, ?_⟩) ?_ ?_
          rotate_left
          · intro w'
            go_simp
            with_reducible rfl
          rotate_left
          · simp only [Act.put, List.setIfInBounds_toArray, List.set_cons_zero, List.set_cons_succ, i64_w, i32_w]
            rfl
          refine take_ (i := 10) (N := some 183) (v := ?_) (a' := ?_) #[true, true, true, true, true, true, true, true, true, true, true, false, false, true, true, true, false, true, false, false, true, false, false] rfl rfl (by kernel_rfl) (fun _ _ _ h => h) (Or.inl ⟨by rfl, ?_⟩) hHeld ?_ ?_
          rotate_left
          · rintro w' ⟨s0, s1, s2, s3, s4⟩
            go_simp
            with_reducible rfl
          rotate_left
          · simp only [Act.put, List.setIfInBounds_toArray, List.set_cons_zero, List.set_cons_succ, i64_w, i32_w]
            rfl
          refine pure_ (i := 11) (N := some 184) (v := ?_) (a' := ?_) #[true, true, true, true, true, true, true, true, true, true, true, true, false, true, true, true, false, true, false, false, true, false, false] rfl rfl (by kernel_rfl) (fun _ _ _ h => h) (Or.inl ⟨by rfl, ?_⟩) ?_ ?_
          rotate_left
          · intro w'
            go_simp
            with_reducible rfl
          rotate_left
          · simp only [Act.put, List.setIfInBounds_toArray, List.set_cons_zero, List.set_cons_succ, i64_w, i32_w]
            rfl
          refine pure_ (i := 12) (N := some 185) (v := ?_) (a' := ?_) #[true, true, true, true, true, true, true, true, true, true, true, true, true, true, true, true, false, true, false, false, true, false, false] rfl rfl (by kernel_rfl) (fun _ _ _ h => h) (Or.inl ⟨by rfl, ?_⟩) ?_ ?_
          rotate_left
          · intro w'
            go_simp
            with_reducible rfl
          rotate_left
          · simp only [Act.put, List.setIfInBounds_toArray, List.set_cons_zero, List.set_cons_succ, i64_w, i32_w]
            rfl
          refine take_ (i := 16) (N := some 189) (v := ?_) (a' := ?_) #[true, true, true, true, true, true, true, true, true, true, true, true, true, true, true, true, true, true, false, false, true, false, false] rfl rfl (by kernel_rfl) (fun _ _ _ h => h) (Or.inl ⟨by rfl, ?_⟩) hHeld ?_ ?_
          rotate_left
          · rintro w' ⟨s0, s1, s2, s3, s4⟩
            go_simp
            with_reducible rfl
          rotate_left
          · simp only [Act.put, List.setIfInBounds_toArray, List.set_cons_zero, List.set_cons_succ, i64_w, i32_w]
            rfl
          refine pure_ (i := 18) (N := some 191) (v := ?_) (a' := ?_) #[true, true, true, true, true, true, true, true, true, true, true, true, true, true, true, true, true, true, true, false, true, false, false] rfl rfl (by kernel_rfl) (fun _ _ _ h => h) (Or.inl ⟨by rfl, ?_⟩) ?_ ?_
          rotate_left
          · intro w'
            go_simp
            with_reducible rfl
          rotate_left
          · simp only [Act.put, List.setIfInBounds_toArray, List.set_cons_zero, List.set_cons_succ, i64_w, i32_w]
            rfl
          refine take_ (i := 19) (N := some 192) (v := ?_) (a' := ?_) #[true, true, true, true, true, true, true, true, true, true, true, true, true, true, true, true, true, true, true, true, true, false, false] rfl rfl (by kernel_rfl) (fun _ _ _ h => h) (Or.inl ⟨by rfl, ?_⟩) hHeld ?_ ?_
          rotate_left
          · rintro w' ⟨s0, s1, s2, s3, s4⟩
            go_simp
            with_reducible rfl
          rotate_left
          · simp only [Act.put, List.setIfInBounds_toArray, List.set_cons_zero, List.set_cons_succ, i64_w, i32_w]
            rfl
          refine pure_ (i := 21) (N := some 194) (v := ?_) (a' := ?_) #[true, true, true, true, true, true, true, true, true, true, true, true, true, true, true, true, true, true, true, true, true, true, false] rfl rfl (by kernel_rfl) (fun _ _ _ h => h) (Or.inl ⟨by rfl, ?_⟩) ?_ ?_
          rotate_left
          · intro w'
            go_simp
            with_reducible rfl
          rotate_left
          · simp only [Act.put, List.setIfInBounds_toArray, List.set_cons_zero, List.set_cons_succ, i64_w, i32_w]
            rfl
          refine last_ (i := 22) (N := some 195) #[true, true, true, true, true, true, true, true, true, true, true, true, true, true, true, true, true, true, true, true, true, true, true] rfl rfl (by kernel_rfl) (by decide) (fun K hK => ?_)
          refine copy_str_step (w0 := w) base (by rfl) (.tmp 185) (.tmp 194) rfl g1 c1 q _ _ (bs.extract 0 rr) rfl rfl t (by rw [HZ.out.2.2.1]; exact HK.out.s1) (by have := HZ.out; rw [ByteArray.size_extract]; omega) (by have := HZ.out; rw [ByteArray.size_extract]; omega) HB.out ?_
          intro w5 HO1 HB1 HG1
          refine hK.out _ _ ?_
          clear hK K
          refine norm_ (a' := ?_) ?_ ?_
          rotate_left
          · show Act.put _ (some 195) _ = _
            simp only [Act.put, List.setIfInBounds_toArray, List.set_cons_zero, List.set_cons_succ, i64_w, i32_w]
            rfl
          refine done_ (by kernel_rfl) ?_
          clear hHeld z1 hq2 hq4 hq5 hnb hnbi hji
          have HP := Lib.hid (blk_grown HP.out HG1.out (HK.out.s1.ne HP.out (by decide)))
          have HK := Lib.hid (HK.out.sure HG1.out (o := splice t q (bs.extract 0 rr).data.toList) (by have := HO1.out; rw [HZ.out.2.2.1] at this; exact this))
          have HB := HB1
          have KP := Lib.hid (KP.out.grown HG1.out (fun k e => .inl (.inr (.inl e))))
          clear HO1 HG1 HB1
          have hw := HW.out
          go_wp2
          go_roundw
          case rel => exact ⟨j + 1, by go_num, hja, hjm, by rw [HST.out]; exact HK, HP, HB, KP⟩
          case measure => first | exact up_w hja hw | exact up_w2 hja
      · have y2 : decide ((j : Int) < (m : Int)) = false := by simp; omega
        have y2n : decide (j < m) = false := by simp; omega
        have HKJ := Lib.hid (show KK = j by have := HKK.out; have := HV.out.2.2.1; have := HL.out.2.2.2.2.2; omega)
        generalize hgt : crashO fl l o1 j = t at *
        have HGT := Lib.hid hgt; clear hgt
        go_wp2
        clear e2 p4
        refine start_ (n := 9) (S := fun w' => w'.cell? ⟨h, 0, none⟩ = some (.slice A1 m1 c1) ∧ w'.cell? ⟨h, 1, none⟩ = some (.slice A2 m2 c2)) (ds := [8]) #[false, false, false, false, false, false, false, false, false] (by kernel_rfl) rfl rfl ⟨HK.out.dk.c0, HK.out.dk.c1⟩ (fun hHeld => ?_)
        have HB := Lib.hid (below_drew HB.out)
        have KP := Lib.hid KP.out.drew
        have HK := Lib.hid HK.out.drew
        have HP := Lib.hid (blk_drew HP.out)
        refine pure_ (i := 0) (N := some 196) (v := ?_) (a' := ?_) #[true, false, false, false, false, false, false, false, false] rfl rfl (by kernel_rfl) (fun _ _ _ h => h) (Or.inl ⟨by rfl, ?_⟩) ?_ ?_
        rotate_left
        · intro w'
          go_simp
          with_reducible rfl
        rotate_left
        · simp only [Act.put, List.setIfInBounds_toArray, List.set_cons_zero, List.set_cons_succ, i64_w, i32_w]
          rfl
        refine pure_ (i := 1) (N := some 197) (v := ?_) (a' := ?_) #[true, true, false, false, false, false, false, false, false] rfl rfl (by kernel_rfl) (fun _ _ _ h => h) (Or.inl ⟨by rfl, ?_⟩) ?_ ?_
        rotate_left
        · intro w'
          go_simp
          with_reducible rfl
        rotate_left
        · simp only [Act.put, List.setIfInBounds_toArray, List.set_cons_zero, List.set_cons_succ, i64_w, i32_w]
          rfl
        refine pure_ (i := 2) (N := some 198) (v := ?_) (a' := ?_) #[true, true, true, false, false, false, false, false, false] rfl rfl (by kernel_rfl) (fun _ _ _ h => h) (Or.inl ⟨by rfl, ?_⟩) ?_ ?_
        rotate_left
        · intro w'
          go_simp
          with_reducible rfl
        rotate_left
        · simp only [Act.put, List.setIfInBounds_toArray, List.set_cons_zero, List.set_cons_succ, i64_w, i32_w]
          rfl
        refine pure_ (i := 4) (N := some 200) (v := ?_) (a' := ?_) #[true, true, true, false, true, false, false, false, false] rfl rfl (by kernel_rfl) (fun _ _ _ h => h) (Or.inl ⟨by rfl, ?_⟩) ?_ ?_
        rotate_left
        · intro w'
          go_simp
          with_reducible rfl
        rotate_left
        · simp only [Act.put, List.setIfInBounds_toArray, List.set_cons_zero, List.set_cons_succ, i64_w, i32_w]
          rfl
        refine pure_ (i := 5) (N := some 201) (v := ?_) (a' := ?_) #[true, true, true, false, true, true, false, false, false] rfl rfl (by kernel_rfl) (fun _ _ _ h => h) (Or.inl ⟨by rfl, ?_⟩) ?_ ?_
        rotate_left
        · intro w'
          go_simp
          with_reducible rfl
        rotate_left
        · simp only [Act.put, List.setIfInBounds_toArray, List.set_cons_zero, List.set_cons_succ, i64_w, i32_w]
          rfl
        refine pure_ (i := 6) (N := some 202) (v := ?_) (a' := ?_) #[true, true, true, false, true, true, true, false, false] rfl rfl (by kernel_rfl) (fun _ _ _ h => h) (Or.inl ⟨by rfl, ?_⟩) ?_ ?_
        rotate_left
        · intro w'
          go_simp
          with_reducible rfl
        rotate_left
        · simp only [Act.put, List.setIfInBounds_toArray, List.set_cons_zero, List.set_cons_succ, i64_w, i32_w]
          rfl
        refine take_ (i := 3) (N := some 199) (v := ?_) (a' := ?_) #[true, true, true, true, true, true, true, false, false] rfl rfl (by kernel_rfl) (fun _ _ _ h => h) (Or.inl ⟨by rfl, ?_⟩) hHeld ?_ ?_
        rotate_left
        · rintro w' ⟨s0, s1⟩
          go_simp
          with_reducible rfl
        rotate_left
        · simp only [Act.put, List.setIfInBounds_toArray, List.set_cons_zero, List.set_cons_succ, i64_w, i32_w]
          rfl
        refine take_ (i := 7) (N := some 203) (v := ?_) (a' := ?_) #[true, true, true, true, true, true, true, true, false] rfl rfl (by kernel_rfl) (fun _ _ _ h => h) (Or.inl ⟨by rfl, ?_⟩) hHeld ?_ ?_
        rotate_left
        · rintro w' ⟨s0, s1⟩
          go_simp
          with_reducible rfl
        rotate_left
        · simp only [Act.put, List.setIfInBounds_toArray, List.set_cons_zero, List.set_cons_succ, i64_w, i32_w]
          rfl
        refine last_ (i := 8) (N := some 204) #[true, true, true, true, true, true, true, true, true] rfl rfl (by kernel_rfl) (by decide) (fun K hK => ?_)
        refine copy_step (w0 := w) base (by rfl) (.tmp 199) (.tmp 203) rfl _ _ _ _ _ _ rfl rfl _ o2 HK.out.s2 0 t (by have := HTL.out; have := HV.out; show t.length = min m1 m2; omega) (fun h0 => ?_) (by have := HTL.out; have := HV.out; omega) HB.out ?_
        · obtain ⟨A3, c3, e3, hs3⟩ := byt_same HK.out.s1
          cases e3
          obtain ⟨g2, rfl, hc2⟩ := hs3 h0
          obtain ⟨A4, c4, e4, hs4⟩ := byt_same HK.out.s2
          cases e4
          obtain ⟨g1, rfl, -⟩ := hs4 (by have := HTL.out; have := HV.out; omega)
          exact ⟨g1, _, _, rfl, rfl, rfl, hc2⟩
        intro w5 HO1 HB1 HG1
        refine hK.out _ _ ?_
        clear hK K
        refine norm_ (a' := ?_) ?_ ?_
        rotate_left
        · show Act.put _ (some 204) _ = _
          simp only [Act.put, List.setIfInBounds_toArray, List.set_cons_zero, List.set_cons_succ, i64_w, i32_w]
          rfl
        refine done_ (by kernel_rfl) ?_
        clear hHeld
        have HK := Lib.hid (HK.out.seen HG1.out (o := t) (by have := HO1.out; rw [splice_all _ _ (by have := HTL.out; have := HV.out; omega)] at this; exact this))
        have HB := HB1
        have KP := Lib.hid (KP.out.grown HG1.out (fun k e => .inl (.inr (.inr (.inl e)))))
        clear HO1 HG1 HB1
        have q2 := HK.out.dk.f 2
        have q3 := HK.out.dk.f 3
        have q4 := HK.out.dk.f 4
        have d2 := HK.out.dk.c2
        have d3 := HK.out.dk.c3
        have d4 := HK.out.dk.c4
        go_wp2
        go_ret2
        rw [HKJ.out, HGT.out]
        simp only [List.length_map, HV.out.1, HV.out.2.1, HV.out.2.2.1]
        have hk' := HK.out.none23.set4 (-1)
        have hb' := below_setc (p := ⟨h, 4, none⟩) (below_setc (p := ⟨h, 3, none⟩) (below_setc (p := ⟨h, 2, none⟩) HB.out HK.out.hb (.slice none 0 0)) HK.out.hb (.slice none 0 0)) HK.out.hb (.int .i64 (-1))
        exact ⟨rfl, hk', hb', ((KP.out.set (p := ⟨h, 2, none⟩) (.inl (.inl rfl)) _).set (p := ⟨h, 3, none⟩) (.inl (.inl rfl)) _).set (p := ⟨h, 4, none⟩) (.inl (.inl rfl)) _⟩
    · have y1 : decide ((j : Int) < (ma : Int)) = false := by simp; omega
      have y1n : decide (j < ma) = false := by simp; omega
      have HKJ := Lib.hid (show KK = j by have := HKK.out; have := HV.out.2.2.1; have := HL.out.2.2.2.2.2; omega)
      generalize hgt : crashO fl l o1 j = t at *
      have HGT := Lib.hid hgt; clear hgt
      go_wp2
      clear e2 p4
      refine start_ (n := 9) (S := fun w' => w'.cell? ⟨h, 0, none⟩ = some (.slice A1 m1 c1) ∧ w'.cell? ⟨h, 1, none⟩ = some (.slice A2 m2 c2)) (ds := [8]) #[false, false, false, false, false, false, false, false, false] (by kernel_rfl) rfl rfl ⟨HK.out.dk.c0, HK.out.dk.c1⟩ (fun hHeld => ?_)
      have HB := Lib.hid (below_drew HB.out)
      have KP := Lib.hid KP.out.drew
      have HK := Lib.hid HK.out.drew
      have HP := Lib.hid (blk_drew HP.out)
      refine pure_ (i := 0) (N := some 196) (v := ?_) (a' := ?_) #[true, false, false, false, false, false, false, false, false] rfl rfl (by kernel_rfl) (fun _ _ _ h => h) (Or.inl ⟨by rfl, ?_⟩) ?_ ?_
      rotate_left
      · intro w'
        go_simp
        with_reducible rfl
      rotate_left
      · simp only [Act.put, List.setIfInBounds_toArray, List.set_cons_zero, List.set_cons_succ, i64_w, i32_w]
        rfl
      refine pure_ (i := 1) (N := some 197) (v := ?_) (a' := ?_) #[true, true, false, false, false, false, false, false, false] rfl rfl (by kernel_rfl) (fun _ _ _ h => h) (Or.inl ⟨by rfl, ?_⟩) ?_ ?_
      rotate_left
      · intro w'
        go_simp
        with_reducible rfl
      rotate_left
      · simp only [Act.put, List.setIfInBounds_toArray, List.set_cons_zero, List.set_cons_succ, i64_w, i32_w]
        rfl
      refine pure_ (i := 2) (N := some 198) (v := ?_) (a' := ?_) #[true, true, true, false, false, false, false, false, false] rfl rfl (by kernel_rfl) (fun _ _ _ h => h) (Or.inl ⟨by rfl, ?_⟩) ?_ ?_
      rotate_left
      · intro w'
        go_simp
        with_reducible rfl
      rotate_left
      · simp only [Act.put, List.setIfInBounds_toArray, List.set_cons_zero, List.set_cons_succ, i64_w, i32_w]
        rfl
      refine pure_ (i := 4) (N := some 200) (v := ?_) (a' := ?_) #[true, true, true, false, true, false, false, false, false] rfl rfl (by kernel_rfl) (fun _ _ _ h => h) (Or.inl ⟨by rfl, ?_⟩) ?_ ?_
      rotate_left
      · intro w'
        go_simp
        with_reducible rfl
      rotate_left
      · simp only [Act.put, List.setIfInBounds_toArray, List.set_cons_zero, List.set_cons_succ, i64_w, i32_w]
        rfl
      refine pure_ (i := 5) (N := some 201) (v := ?_) (a' := ?_) #[true, true, true, false, true, true, false, false, false] rfl rfl (by kernel_rfl) (fun _ _ _ h => h) (Or.inl ⟨by rfl, ?_⟩) ?_ ?_
      rotate_left
      · intro w'
        go_simp
        with_reducible rfl
      rotate_left
      · simp only [Act.put, List.setIfInBounds_toArray, List.set_cons_zero, List.set_cons_succ, i64_w, i32_w]
        rfl
      refine pure_ (i := 6) (N := some 202) (v := ?_) (a' := ?_) #[true, true, true, false, true, true, true, false, false] rfl rfl (by kernel_rfl) (fun _ _ _ h => h) (Or.inl ⟨by rfl, ?_⟩) ?_ ?_
      rotate_left
      · intro w'
        go_simp
        with_reducible rfl
      rotate_left
      · simp only [Act.put, List.setIfInBounds_toArray, List.set_cons_zero, List.set_cons_succ, i64_w, i32_w]
        rfl
      refine take_ (i := 3) (N := some 199) (v := ?_) (a' := ?_) #[true, true, true, true, true, true, true, false, false] rfl rfl (by kernel_rfl) (fun _ _ _ h => h) (Or.inl ⟨by rfl, ?_⟩) hHeld ?_ ?_
      rotate_left
      · rintro w' ⟨s0, s1⟩
        go_simp
        with_reducible rfl
      rotate_left
      · simp only [Act.put, List.setIfInBounds_toArray, List.set_cons_zero, List.set_cons_succ, i64_w, i32_w]
        rfl
      refine take_ (i := 7) (N := some 203) (v := ?_) (a' := ?_) #[true, true, true, true, true, true, true, true, false] rfl rfl (by kernel_rfl) (fun _ _ _ h => h) (Or.inl ⟨by rfl, ?_⟩) hHeld ?_ ?_
      rotate_left
      · rintro w' ⟨s0, s1⟩
        go_simp
        with_reducible rfl
      rotate_left
      · simp only [Act.put, List.setIfInBounds_toArray, List.set_cons_zero, List.set_cons_succ, i64_w, i32_w]
        rfl
      refine last_ (i := 8) (N := some 204) #[true, true, true, true, true, true, true, true, true] rfl rfl (by kernel_rfl) (by decide) (fun K hK => ?_)
      refine copy_step (w0 := w) base (by rfl) (.tmp 199) (.tmp 203) rfl _ _ _ _ _ _ rfl rfl _ o2 HK.out.s2 0 t (by have := HTL.out; have := HV.out; show t.length = min m1 m2; omega) (fun h0 => ?_) (by have := HTL.out; have := HV.out; omega) HB.out ?_
      · obtain ⟨A3, c3, e3, hs3⟩ := byt_same HK.out.s1
        cases e3
        obtain ⟨g2, rfl, hc2⟩ := hs3 h0
        obtain ⟨A4, c4, e4, hs4⟩ := byt_same HK.out.s2
        cases e4
        obtain ⟨g1, rfl, -⟩ := hs4 (by have := HTL.out; have := HV.out; omega)
        exact ⟨g1, _, _, rfl, rfl, rfl, hc2⟩
      intro w5 HO1 HB1 HG1
      refine hK.out _ _ ?_
      clear hK K
      refine norm_ (a' := ?_) ?_ ?_
      rotate_left
      · show Act.put _ (some 204) _ = _
        simp only [Act.put, List.setIfInBounds_toArray, List.set_cons_zero, List.set_cons_succ, i64_w, i32_w]
        rfl
      refine done_ (by kernel_rfl) ?_
      clear hHeld
      have HK := Lib.hid (HK.out.seen HG1.out (o := t) (by have := HO1.out; rw [splice_all _ _ (by have := HTL.out; have := HV.out; omega)] at this; exact this))
      have HB := HB1
      have KP := Lib.hid (KP.out.grown HG1.out (fun k e => .inl (.inr (.inr (.inl e)))))
      clear HO1 HG1 HB1
      have q2 := HK.out.dk.f 2
      have q3 := HK.out.dk.f 3
      have q4 := HK.out.dk.f 4
      have d2 := HK.out.dk.c2
      have d3 := HK.out.dk.c3
      have d4 := HK.out.dk.c4
      go_wp2
      go_ret2
      rw [HKJ.out, HGT.out]
      simp only [List.length_map, HV.out.1, HV.out.2.1, HV.out.2.2.1]
      have hk' := HK.out.none23.set4 (-1)
      have hb' := below_setc (p := ⟨h, 4, none⟩) (below_setc (p := ⟨h, 3, none⟩) (below_setc (p := ⟨h, 2, none⟩) HB.out HK.out.hb (.slice none 0 0)) HK.out.hb (.slice none 0 0)) HK.out.hb (.int .i64 (-1))
      exact ⟨rfl, hk', hb', ((KP.out.set (p := ⟨h, 2, none⟩) (.inl (.inl rfl)) _).set (p := ⟨h, 3, none⟩) (.inl (.inl rfl)) _).set (p := ⟨h, 4, none⟩) (.inl (.inl rfl)) _⟩
end
end Go.Proofs.Ytoandabafkdgjaa.My
