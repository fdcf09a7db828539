/- isoglossref07.Disk: New; Do's errors, Read, Fuse. -/
import Derived.Test.YtoandabafkdgjaaRDisk
namespace Go.Proofs.Ytoandabafkdgjaa.My
set_option linter.unusedSimpArgs false
set_option linter.unusedVariables false
open Go.RowKit Go.Proofs.YtoandabafkdgjaaW.PrintWords Go.Proofs.YtoandabafkdgjaaW.PrintLast Go.Proofs.Ytoandabafkdgjaa.Pm

def IsRD (w : World) (h : Nat) (V1 V2 A B : Value) (left : Int) : Prop := w.heap[h]? = some (.cells #[V1, V2, A, B, .int .i64 left] 47 (0, 0))
section
variable {w : World} {h : Nat} {V1 V2 A B : Value} {left : Int}
theorem IsRD.c0 (k : IsRD w h V1 V2 A B left) : w.cell? ⟨h, 0, none⟩ = some V1 := (blk_cell k 0).trans rfl
theorem IsRD.c1 (k : IsRD w h V1 V2 A B left) : w.cell? ⟨h, 1, none⟩ = some V2 := (blk_cell k 1).trans rfl
theorem IsRD.c2 (k : IsRD w h V1 V2 A B left) : w.cell? ⟨h, 2, none⟩ = some A := (blk_cell k 2).trans rfl
theorem IsRD.c3 (k : IsRD w h V1 V2 A B left) : w.cell? ⟨h, 3, none⟩ = some B := (blk_cell k 3).trans rfl
theorem IsRD.c4 (k : IsRD w h V1 V2 A B left) : w.cell? ⟨h, 4, none⟩ = some (.int .i64 left) := (blk_cell k 4).trans rfl
theorem IsRD.f (k : IsRD w h V1 V2 A B left) (i : Nat) : w.frozen? ⟨h, i, none⟩ = false := blk_frozen k i
end
abbrev Ats (w : World) (base : Nat) (v : Value) (l : List Int) : Prop := (Kd.int .i64).R 3 w base (fun _ => True) v l
/-- The reference's disk in memory. -/
structure RDk (w : World) (base h : Nat) (V1 V2 A B : Value) (o1 o2 : List UInt8) (l : List (Nat × ByteArray)) (left : Int) : Prop where
  dk : IsRD w h V1 V2 A B left
  s1 : Byt w base V1 o1
  s2 : Byt w base V2 o2
  ne : V1.ownBlock = none ∨ V1.ownBlock ≠ V2.ownBlock
  ats : Ats w base A (l.map fun p => (p.1 : Int))
  bs : Srs w base B (l.map Prod.snd)
  hb : base ≤ h
/-- The blocks of the reference's disk. -/
def OwnR (h : Nat) (V1 V2 A B : Value) : Nat → Prop := fun k => k = h ∨ V1.ownBlock = some k ∨ V2.ownBlock = some k ∨ A.ownBlock = some k ∨ B.ownBlock = some k
section
variable {w w1 : World} {base h : Nat} {V1 V2 A B : Value} {o1 o2 : List UInt8} {l : List (Nat × ByteArray)} {left : Int}
theorem int_E : (Kd.int .i64).E = [] := rfl
theorem RDk.below (k : RDk w base h V1 V2 A B o1 o2 l left) (hb : Below w.heap.size w w1) : RDk w1 base h V1 V2 A B o1 o2 l left := ⟨blk_below k.dk hb, k.s1.below hb, k.s2.below hb, k.ne, Kd.R_below k.ats hb, Kd.R_below k.bs hb, k.hb⟩
theorem RDk.drew (k : RDk w base h V1 V2 A B o1 o2 l left) : RDk w.drew base h V1 V2 A B o1 o2 l left := k.below (below_drew (Below.refl _ _))
theorem RDk.alloc (k : RDk w base h V1 V2 A B o1 o2 l left) (o : Obj) : RDk (w.alloc o) base h V1 V2 A B o1 o2 l left := k.below (below_alloc (Below.refl _ _) o)
theorem RDk.lower {b' : Nat} (k : RDk w base h V1 V2 A B o1 o2 l left) (hb : b' ≤ base) : RDk w b' h V1 V2 A B o1 o2 l left := ⟨k.dk, k.s1.lower hb, k.s2.lower hb, k.ne, Kd.R_lower k.ats hb, Kd.R_lower k.bs hb, Nat.le_trans hb k.hb⟩
/-- All rows but the disk's own cells, when one of these is set. -/
theorem RDk.rows_set (k : RDk w base h V1 V2 A B o1 o2 l left) (i : Nat) (u : Value) : Byt (w.setCell ⟨h, i, none⟩ u) base V1 o1 ∧ Byt (w.setCell ⟨h, i, none⟩ u) base V2 o2 ∧ Ats (w.setCell ⟨h, i, none⟩ u) base A (l.map fun p => (p.1 : Int)) ∧ Srs (w.setCell ⟨h, i, none⟩ u) base B (l.map Prod.snd) :=
  ⟨k.s1.set k.dk (by decide) i u, k.s2.set k.dk (by decide) i u, Kd.R_set k.ats k.dk (fun q hq => by rw [int_E] at hq; rw [List.mem_singleton.1 hq]; decide) i u, Kd.R_set k.bs k.dk (fun q hq => by rw [string_E] at hq; rw [List.mem_singleton.1 hq]; decide) i u⟩
theorem RDk.set4 (k : RDk w base h V1 V2 A B o1 o2 l left) (n : Int) : RDk (w.setCell ⟨h, 4, none⟩ (.int .i64 n)) base h V1 V2 A B o1 o2 l n :=
  have r := k.rows_set 4 (.int .i64 n)
  ⟨blk_set k.dk 4 _, r.1, r.2.1, k.ne, r.2.2.1, r.2.2.2, k.hb⟩
theorem RDk.none23 (k : RDk w base h V1 V2 A B o1 o2 l left) : RDk ((w.setCell ⟨h, 2, none⟩ (.slice none 0 0)).setCell ⟨h, 3, none⟩ (.slice none 0 0)) base h V1 V2 (.slice none 0 0) (.slice none 0 0) o1 o2 [] left := by
  have r := k.rows_set 2 (.slice none 0 0)
  have k1 : IsRD (w.setCell ⟨h, 2, none⟩ (.slice none 0 0)) h V1 V2 (.slice none 0 0) B left := blk_set k.dk 2 _
  have k2 : RDk (w.setCell ⟨h, 2, none⟩ (.slice none 0 0)) base h V1 V2 (.slice none 0 0) (.slice none 0 0) o1 o2 [] left → True := fun _ => trivial
  exact ⟨blk_set k1 3 _, r.1.set k1 (by decide) 3 _, r.2.1.set k1 (by decide) 3 _, k.ne, Kd.R_nil _ _ _ _ _, Kd.R_nil _ _ _ _ _, k.hb⟩
end
theorem sec_new (n : Nat) : Sec n (List.replicate (64 * n) 0) (fun _ => nought) := ⟨List.length_replicate, fun i hi => by
  rw [List.drop_replicate, List.take_replicate]
  have : min 64 (64 * n - 64 * i) = 64 := by omega
  rw [this]
  rfl⟩
theorem byt_of_R {w : World} {base : Nat} {v : Value} {o : List UInt8} {xs : List Int} (h : Kd.R (Kd.int .u8) 5 w base (fun _ => True) v xs) (hx : xs = nb o) : Byt w base v o := by
  subst hx
  have := Kd.own_of_R h
  rw [nb_length] at this
  exact this
theorem Byt.grown {w w1 : World} {base : Nat} {v : Value} {o : List UInt8} {row : Option Nat} (h : Byt w base v o) (hg : w.grownBy w1 row) (hn : v.ownBlock = none ∨ v.ownBlock ≠ row := by first | exact .inl rfl | (rcases hv : Value.ownBlock _ with _ | _ <;> simp)) : Byt w1 base v o :=
  own_move h fun k hk => hg.block k (own_lt h k hk) fun e => by
    rcases hn with hn | hn
    · rw [hn] at hk; cases hk
    · exact hn (hk.trans e)
theorem own_apart {W : World} {base : Nat} {v1 v2 : Value} {o : List UInt8} (h : Byt W base v1 o) (hN : ∃ b, v2.ownBlock = some b ∧ W.heap.size ≤ b) : v1.ownBlock ≠ v2.ownBlock := by
  obtain ⟨b, hb, hl⟩ := hN
  intro e
  have := own_lt h b (e.trans hb)
  omega
theorem nb_zero (m : Nat) : List.replicate m (0 : Int) = nb (List.replicate m 0) := by simp [nb]
set_option maxRecDepth 100000 in
set_option maxHeartbeats 4000000 in
theorem rd_new (n : Int) (w : World) : Calls Try.prog 16 #[.int .i64 n] w fun e w' => ∃ h V1 V2, e = .returned (.pointer (some ⟨h, 0, none⟩)) ∧ RDk w' w.heap.size h V1 V2 (.slice none 0 0) (.slice none 0 0) (List.replicate (64 * newN n) 0) (List.replicate (64 * newN n) 0) [] (-1) ∧ Below w.heap.size w w' := by
  obtain ⟨m, hm⟩ : ∃ m, newN n = m := ⟨_, rfl⟩
  have hm4 : m ≤ 4096 := by rw [← hm]; unfold newN; omega
  have hmi : max (min n 4096) 0 = (m : Int) := by rw [← hm]; unfold newN; omega
  rw [hm]
  have HB := Lib.hid (Below.refl w.heap.size w)
  have w64 : wrap64 (64 * (m : Int)) = ((64 * m : Nat) : Int) := by rw [show 64 * (m : Int) = ((64 * m : Nat) : Int) by omega]; exact wrap64_id (by omega) (by omega)
  have hmm : 64 * m ≤ 262144 := by omega
  generalize 64 * m = M at *
  have HM := Lib.hid hmm
  have W64 := Lib.hid w64; clear w64
  clear hm hm4 hmm
  go_enter Try.func16, Try.ntmps16
  go_wp2
  refine start_ (n := 9) (S := fun w' => True) (ds := []) #[false, false, false, false, false, false, false, false, false] (by kernel_rfl) rfl rfl trivial (fun hHeld => ?_)
  have HB := Lib.hid (below_drew HB.out)
  refine pure_ (i := 0) (N := some 6) (v := ?_) (a' := ?_) #[true, false, false, false, false, false, false, false, false] rfl rfl (by kernel_rfl) (fun _ _ _ h => h) (Or.inl ⟨by rfl, ?_⟩) ?_ ?_
  rotate_left
  · intro w'
    go_simp
    with_reducible rfl
  rotate_left
  · simp only [Act.put, List.setIfInBounds_toArray, List.set_cons_zero, List.set_cons_succ, i64_w, i32_w]
    rfl
  refine pure_ (i := 1) (N := some 7) (v := ?_) (a' := ?_) #[true, true, false, false, false, false, false, false, false] rfl rfl (by kernel_rfl) (fun _ _ _ h => h) (Or.inl ⟨by rfl, ?_⟩) ?_ ?_
  rotate_left
  · intro w'
    go_simp
    with_reducible rfl
  rotate_left
  · simp only [Act.put, List.setIfInBounds_toArray, List.set_cons_zero, List.set_cons_succ, i64_w, i32_w]
    rfl
  refine pure_ (i := 3) (N := some 9) (v := ?_) (a' := ?_) #[true, true, false, true, false, false, false, false, false] rfl rfl (by kernel_rfl) (fun _ _ _ h => h) (Or.inl ⟨by rfl, ?_⟩) ?_ ?_
  rotate_left
  · intro w'
    go_simp
    with_reducible rfl
  rotate_left
  · simp only [Act.put, List.setIfInBounds_toArray, List.set_cons_zero, List.set_cons_succ, i64_w, i32_w]
    rfl
  refine pure_ (i := 4) (N := some 10) (v := ?_) (a' := ?_) #[true, true, false, true, true, false, false, false, false] rfl rfl (by kernel_rfl) (fun _ _ _ h => h) (Or.inl ⟨by rfl, ?_⟩) ?_ ?_
  rotate_left
  · intro w'
    go_simp
    with_reducible rfl
  rotate_left
  · simp only [Act.put, List.setIfInBounds_toArray, List.set_cons_zero, List.set_cons_succ, i64_w, i32_w]
    rfl
  refine join_ (σ := Value × Value) 3 #[true, true, true, true, true, true, false, false, false] (fun s => [(8, s.1), (11, s.2)]) (fun s w' => Byt w' w.heap.size s.1 (List.replicate M (0 : UInt8)) ∧ Byt w' w.heap.size s.2 (List.replicate M (0 : UInt8)) ∧ (s.1.ownBlock = none ∨ s.1.ownBlock ≠ s.2.ownBlock) ∧ Below w.heap.size w w') ?_ ?_
  rotate_left
  · intro hCont
    refine two_ (i := 2) (j := 5) (Ni := some 8) (Nj := some 11) #[true, true, true, true, true, false, false, false, false] #[true, true, false, true, true, true, false, false, false] rfl rfl rfl rfl (by kernel_rfl) (by decide) (by decide) (fun K hK => ?_) (fun K hK => ?_)
    · skip
      refine Kd.R_make_step (Kd.int .u8) (w0 := w) w.heap.size 5 (by rfl) rfl 30 _ _ rfl (M : Int) (congrArg (Value.int .i64) W64.out) (congrArg (Value.int .i64) W64.out) Try.underlying30 (.int .u8 0) 1 info_u8 rfl (by decide) (by omega) 0 (ok := fun _ => True) (okp := fun _ => True) rfl (fun _ hk => hk) trivial (by omega) (by have := HM.out; omega) HB.out HB.out.size ?_
      intro va w2 hR hB hG hN
      rw [Int.toNat_natCast] at hR
      have Hva := Lib.hid (byt_of_R (o := (List.replicate M (0 : UInt8))) hR (nb_zero M))
      have HB := Lib.hid hB
      have HG := Lib.hid hG
      have HN := Lib.hid hN
      clear hR hB hG hN
      refine hK.out _ _ trivial (fun hHeld => ?_)
      clear hK K
      refine norm_ (a' := ?_) ?_ ?_
      rotate_left
      · show Act.put _ (some 8) _ = _
        simp only [Act.put, List.setIfInBounds_toArray, List.set_cons_zero, List.set_cons_succ, i64_w, i32_w]
        rfl
      refine one_ (i := 5) (N := some 11) #[true, true, true, true, true, true, false, false, false] rfl rfl (by kernel_rfl) (by decide) (fun K hK => ?_)
      have HP := Hva
      refine Kd.R_make_step (Kd.int .u8) (w0 := w) w.heap.size 5 (by rfl) rfl 30 _ _ rfl (M : Int) (congrArg (Value.int .i64) W64.out) (congrArg (Value.int .i64) W64.out) Try.underlying30 (.int .u8 0) 1 info_u8 rfl (by decide) (by omega) 0 (ok := fun _ => True) (okp := fun _ => True) rfl (fun _ hk => hk) trivial (by omega) (by have := HM.out; omega) HB.out HB.out.size ?_
      intro vb w5 hR hB hG hN
      rw [Int.toNat_natCast] at hR
      have Hvb := Lib.hid (byt_of_R (o := (List.replicate M (0 : UInt8))) hR (nb_zero M))
      have HB := Lib.hid hB
      have HG := Lib.hid hG
      have HN := Lib.hid hN
      clear hR hB hG hN
      have HE := Lib.hid (own_apart HP.out HN.out)
      have Hva := Lib.hid (HP.out.grown HG.out)
      refine hK.out _ _ trivial (fun hHeld => ?_)
      clear hK K
      refine norm_ (a' := ?_) ?_ ?_
      rotate_left
      · show Act.put _ (some 11) _ = _
        simp only [Act.put, List.setIfInBounds_toArray, List.set_cons_zero, List.set_cons_succ, i64_w, i32_w]
        rfl
      exact norm_ (by simp only [putAll, Act.put, List.setIfInBounds_toArray, List.set_cons_zero, List.set_cons_succ]) (hCont (va, vb) _ ⟨Hva.out, Hvb.out, .inr HE.out, HB.out⟩)
    · skip
      refine Kd.R_make_step (Kd.int .u8) (w0 := w) w.heap.size 5 (by rfl) rfl 30 _ _ rfl (M : Int) (congrArg (Value.int .i64) W64.out) (congrArg (Value.int .i64) W64.out) Try.underlying30 (.int .u8 0) 1 info_u8 rfl (by decide) (by omega) 0 (ok := fun _ => True) (okp := fun _ => True) rfl (fun _ hk => hk) trivial (by omega) (by have := HM.out; omega) HB.out HB.out.size ?_
      intro vb w5 hR hB hG hN
      rw [Int.toNat_natCast] at hR
      have Hvb := Lib.hid (byt_of_R (o := (List.replicate M (0 : UInt8))) hR (nb_zero M))
      have HB := Lib.hid hB
      have HG := Lib.hid hG
      have HN := Lib.hid hN
      clear hR hB hG hN
      refine hK.out _ _ trivial (fun hHeld => ?_)
      clear hK K
      refine norm_ (a' := ?_) ?_ ?_
      rotate_left
      · show Act.put _ (some 11) _ = _
        simp only [Act.put, List.setIfInBounds_toArray, List.set_cons_zero, List.set_cons_succ, i64_w, i32_w]
        rfl
      refine one_ (i := 2) (N := some 8) #[true, true, true, true, true, true, false, false, false] rfl rfl (by kernel_rfl) (by decide) (fun K hK => ?_)
      have HP := Hvb
      refine Kd.R_make_step (Kd.int .u8) (w0 := w) w.heap.size 5 (by rfl) rfl 30 _ _ rfl (M : Int) (congrArg (Value.int .i64) W64.out) (congrArg (Value.int .i64) W64.out) Try.underlying30 (.int .u8 0) 1 info_u8 rfl (by decide) (by omega) 0 (ok := fun _ => True) (okp := fun _ => True) rfl (fun _ hk => hk) trivial (by omega) (by have := HM.out; omega) HB.out HB.out.size ?_
      intro va w2 hR hB hG hN
      rw [Int.toNat_natCast] at hR
      have Hva := Lib.hid (byt_of_R (o := (List.replicate M (0 : UInt8))) hR (nb_zero M))
      have HB := Lib.hid hB
      have HG := Lib.hid hG
      have HN := Lib.hid hN
      clear hR hB hG hN
      have HE := Lib.hid (own_apart HP.out HN.out)
      have Hvb := Lib.hid (HP.out.grown HG.out)
      refine hK.out _ _ trivial (fun hHeld => ?_)
      clear hK K
      refine norm_ (a' := ?_) ?_ ?_
      rotate_left
      · show Act.put _ (some 8) _ = _
        simp only [Act.put, List.setIfInBounds_toArray, List.set_cons_zero, List.set_cons_succ, i64_w, i32_w]
        rfl
      exact norm_ (by simp only [putAll, Act.put, List.setIfInBounds_toArray, List.set_cons_zero, List.set_cons_succ]) (hCont (va, vb) _ ⟨Hva.out, Hvb.out, .inr (fun e => HE.out e.symm), HB.out⟩)
  rintro ⟨va, vb⟩ w3 ⟨ha, hc, hne, hb⟩
  obtain ⟨A1, m1, c1, rfl⟩ := ha.slice_
  obtain ⟨A2, m2, c2, rfl⟩ := hc.slice_
  have HA := Lib.hid ha; clear ha
  have HC := Lib.hid hc; clear hc
  have HE := Lib.hid hne; clear hne
  have HB := Lib.hid hb; clear hb
  have hHeld : True := trivial
  refine norm_ (a' := ?_) ?_ ?_
  rotate_left
  · simp only [putAll, Act.put, List.setIfInBounds_toArray, List.set_cons_zero, List.set_cons_succ]
    rfl
  refine pure_ (i := 6) (N := some 12) (v := ?_) (a' := ?_) #[true, true, true, true, true, true, true, false, false] rfl rfl (by kernel_rfl) (fun _ _ _ h => h) (Or.inl ⟨by rfl, ?_⟩) ?_ ?_
  rotate_left
  · intro w'
    go_simp
    with_reducible rfl
  rotate_left
  · simp only [Act.put, List.setIfInBounds_toArray, List.set_cons_zero, List.set_cons_succ, i64_w, i32_w]
    rfl
  refine one_ (i := 7) (N := some 13) #[true, true, true, true, true, true, true, true, false] rfl rfl (by kernel_rfl) (by decide) (fun K hK => ?_)
  refine value_ (w1 := ?_) (v := ?_) (by rfl) rfl ?_ ?_
  rotate_left 2
  · go_simp
    constructor
    · rfl
    · rfl
  refine hK.out _ _ trivial (fun hHeld => ?_)
  clear hK K
  refine norm_ (a' := ?_) ?_ ?_
  rotate_left
  · show Act.put _ (some 13) _ = _
    simp only [Act.put, List.setIfInBounds_toArray, List.set_cons_zero, List.set_cons_succ, i64_w, i32_w]
    rfl
  refine pure_ (i := 8) (N := some 2) (v := ?_) (a' := ?_) #[true, true, true, true, true, true, true, true, true] rfl rfl (by kernel_rfl) (fun _ _ _ h => h) (Or.inl ⟨by rfl, ?_⟩) ?_ ?_
  rotate_left
  · intro w'
    go_simp
    with_reducible rfl
  rotate_left
  · simp only [Act.put, List.setIfInBounds_toArray, List.set_cons_zero, List.set_cons_succ, i64_w, i32_w]
    rfl
  refine done_ (by kernel_rfl) ?_

  go_wp2
  go_ret
  have HR := Lib.hid (show RDk (w3.alloc (.cells #[.slice A1 m1 c1, .slice A2 m2 c2, .slice none 0 0, .slice none 0 0, .int .i64 (-1)] 47)) w.heap.size w3.heap.size (.slice A1 m1 c1) (.slice A2 m2 c2) (.slice none 0 0) (.slice none 0 0) (List.replicate M 0) (List.replicate M 0) [] (-1) from ⟨blk_new _ _, HA.out.below (below_alloc (Below.refl _ _) _), HC.out.below (below_alloc (Below.refl _ _) _), HE.out, Kd.R_nil _ _ _ _ _, Kd.R_nil _ _ _ _ _, HB.out.size⟩)
  have HB := Lib.hid (HB.out.alloc HB.out.size (.cells #[.slice A1 m1 c1, .slice A2 m2 c2, .slice none 0 0, .slice none 0 0, .int .i64 (-1)] 47))
  first | exact ⟨_, _, _, rfl, HR.out, HB.out⟩ | exact ⟨_, rfl, ⟨_, _, HR.out⟩, HB.out⟩
end Go.Proofs.Ytoandabafkdgjaa.My
