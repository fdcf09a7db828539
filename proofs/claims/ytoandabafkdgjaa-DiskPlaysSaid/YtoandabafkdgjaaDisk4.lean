/- disk.Disk: Crash. -/
import Derived.Test.YtoandabafkdgjaaDisk3
namespace Go.Proofs.Ytoandabafkdgjaa.My
set_option linter.unusedSimpArgs false
set_option linter.unusedVariables false
open Go.RowKit Go.Proofs.YtoandabafkdgjaaW.PrintWords Go.Proofs.YtoandabafkdgjaaW.PrintLast Go.Proofs.Ytoandabafkdgjaa.Pm

theorem hereS_size {sure : List ByteArray} (h : ∀ s ∈ sure, s.size = 0 ∨ s.size = 64) {i : Nat} (hi : i < sure.length) : (hereS sure i).size = 64 := by
  unfold hereS
  rw [List.getD_eq_getElem?_getD, List.getElem?_eq_getElem hi, Option.getD_some]
  split
  · exact nought_size
  · rename_i h0
    exact (h _ (List.getElem_mem hi)).resolve_left h0
def crashOne (f : Option UInt8) (sure : List ByteArray) (p : Nat × ByteArray) : List ByteArray :=
  match f with
  | none => sure
  | some c => if c = 0 then sure else if c = 255 then sure.set p.1 p.2 else sure.set p.1 (p.2.extract 0 (c.toNat % 64) ++ (hereS sure p.1).extract (c.toNat % 64) (hereS sure p.1).size)
def crashN (fates : List UInt8) (l : List (Nat × ByteArray)) (sure : List ByteArray) : Nat → List ByteArray
  | 0 => sure
  | n + 1 => crashOne fates[n]? (crashN fates l sure n) (l.getD n (0, ⟨#[]⟩))
def crashS (d : DkS) (fates : List UInt8) : DkS := ⟨crashN fates d.waits d.sure d.waits.length, [], -1, false⟩
theorem crashOne_ok {f : Option UInt8} {sure : List ByteArray} {p : Nat × ByteArray} (hs : ∀ s ∈ sure, s.size = 0 ∨ s.size = 64) (hp : p.1 < sure.length ∧ p.2.size = 64) :
    (crashOne f sure p).length = sure.length ∧ ∀ s ∈ crashOne f sure p, s.size = 0 ∨ s.size = 64 := by
  have key : ∀ x : ByteArray, x.size = 64 → ∀ s ∈ sure.set p.1 x, s.size = 0 ∨ s.size = 64 := fun x hx s h => by
    rcases List.mem_or_eq_of_mem_set h with h | rfl
    · exact hs s h
    · exact .inr hx
  unfold crashOne
  split
  · exact ⟨rfl, hs⟩
  · rename_i c
    split
    · exact ⟨rfl, hs⟩
    · split
      · exact ⟨List.length_set, key _ hp.2⟩
      · refine ⟨List.length_set, key _ ?_⟩
        have := hereS_size hs hp.1
        rw [ByteArray.size_append, ByteArray.size_extract, ByteArray.size_extract]
        omega
theorem crashN_ok {d : DkS} (h : d.Ok) (fates : List UInt8) : ∀ n, n ≤ d.waits.length → (crashN fates d.waits d.sure n).length = d.sure.length ∧ ∀ s ∈ crashN fates d.waits d.sure n, s.size = 0 ∨ s.size = 64
  | 0, _ => ⟨rfl, h.size⟩
  | n + 1, hn => by
    obtain ⟨h1, h2⟩ := crashN_ok h fates n (by omega)
    have hp : (d.waits.getD n (0, ⟨#[]⟩)) ∈ d.waits := by rw [List.getD_eq_getElem?_getD, List.getElem?_eq_getElem (by omega)]; exact List.getElem_mem _
    have hw := h.wait _ hp
    obtain ⟨h3, h4⟩ := crashOne_ok (f := fates[n]?) h2 (p := d.waits.getD n (0, ⟨#[]⟩)) ⟨by rw [h1]; exact hw.1, hw.2⟩
    exact ⟨h3.trans h1, h4⟩
theorem crashS_ok {d : DkS} (h : d.Ok) (fates : List UInt8) : (crashS d fates).Ok :=
  ⟨by simp only [crashS]; rw [(crashN_ok h fates _ (Nat.le_refl _)).1]; exact h.len, (crashN_ok h fates _ (Nat.le_refl _)).2, fun p hp => absurd hp (by simp [crashS]), by simp only [crashS]; omega⟩
/-- Fates: bytes that are none of a disk's own. -/
def Fts (w : World) (base : Nat) (A : Option Addr) (l : List UInt8) : Prop :=
  0 < l.length → ∃ b off, A = some ⟨b, off, none⟩ ∧ b < w.heap.size ∧ (b < base ∨ ∃ cells, w.heap[b]? = some (.cells cells 5 (0, 0))) ∧ ∀ j (h : j < l.length), w.cell? ⟨b, off + j, none⟩ = some (.int .u8 ((l[j]'h).toNat : Int))
theorem Fts.move {w w1 : World} {base : Nat} {A : Option Addr} {l : List UInt8} (h : Fts w base A l) (hm : ∀ b, b < w.heap.size → (b < base ∨ ∃ cells, w.heap[b]? = some (.cells cells 5 (0, 0))) → w1.heap[b]? = w.heap[b]?) (hs : w.heap.size ≤ w1.heap.size) : Fts w1 base A l := fun h0 => by
  obtain ⟨b, off, e, hl, ht, hc⟩ := h h0
  have hh := hm b hl ht
  refine ⟨b, off, e, Nat.lt_of_lt_of_le hl hs, ?_, fun j hj => ?_⟩
  · rw [hh]; exact ht
  · rw [← hc j hj]
    unfold World.cell?
    simp only [hh]
theorem Fts.below {w w1 : World} {base : Nat} {A : Option Addr} {l : List UInt8} (h : Fts w base A l) (hb : Below w.heap.size w w1) : Fts w1 base A l := h.move (fun b hl _ => hb.block b hl) hb.size
theorem Fts.set {w : World} {base g t : Nat} {A : Option Addr} {l : List UInt8} {cs : Array Value} (h : Fts w base A l) (hg : w.heap[g]? = some (.cells cs t (0, 0))) (ht : 5 ≠ t) (hgb : base ≤ g) (i : Nat) (u : Value) : Fts (w.setCell ⟨g, i, none⟩ u) base A l :=
  h.move (fun b hl hb => Below.heap_setCell w ⟨g, i, none⟩ u b (by
    rintro rfl
    rcases hb with hb | ⟨cells, hc⟩
    · omega
    · rw [hc] at hg; injection hg with hg; injection hg with _ hg; exact ht hg)) (by simp [World.setCell])
theorem u8_mod (c : UInt8) : ∃ n : Nat, c.toNat % 64 = n ∧ n < 64 ∧ wrap64 (c.toNat : Int) = (c.toNat : Int) ∧ ((c.toNat : Int) % 64) = (n : Int) ∧ ((c.toNat : Int).tmod 64) = (n : Int) := by
  have := c.toNat_lt
  exact ⟨_, rfl, by omega, wrap64_id (by omega) (by omega), by omega, by rw [Int.tmod_eq_emod_of_nonneg (by omega)]; omega⟩
set_option maxRecDepth 100000 in
set_option maxHeartbeats 16000000 in
theorem dk_crashK {w : World} {base h : Nat} {V W : Value} {d : DkS} (k : Dk w base h V W d) (ho : d.Ok) (AF : Option Addr) (nf cf : Nat) (fl : List UInt8) (hF : Fts w base AF fl) (hnf : fl.length = nf) (hl : d.waits.length ≤ 1000000) (hbw : base ≤ w.heap.size) :
    Calls Try.prog 13 #[.pointer (some ⟨h, 0, none⟩), .slice AF nf cf] w fun e w' => e = .returned (.tuple #[]) ∧ Dk w' base h V (.slice none 0 0) (crashS d fl) ∧ Below base w w' ∧ Keeps (OwnD h V W) w w' := by
  have HK := Lib.hid k
  have HO := Lib.hid ho
  have HF := Lib.hid hF
  have HB := Lib.hid (Below.refl base w)
  have KP := Lib.hid (Keeps.refl (OwnD h V W) w)
  have c1 := k.dk.c1
  obtain ⟨A, m, c, rfl⟩ := r_slice3 k.wt
  have hm : m = d.waits.length := by
    obtain ⟨A', c', e⟩ := Kd.R_slice k.wt
    cases e
    rfl
  obtain ⟨AV, mV, cV, rfl⟩ := r_slice3 k.sr
  clear k ho hF
  have HM := Lib.hid hm; clear hm
  have HNF := Lib.hid hnf; clear hnf
  have hml : m ≤ 140737488351232 := by rw [HM.out]; omega
  go_enter Try.func13, Try.ntmps13
  go_wp2
  clear c1
  go_loopw [12] (fun v12 wr => ∃ i : Nat, v12 = .int .i64 i ∧ i ≤ m ∧ Hid (Dk wr base h (.slice AV mV cV) (.slice A m c) ⟨crashN fl d.waits d.sure i, d.waits, d.fuse, d.gone⟩) ∧ Hid (Fts wr base AF fl) ∧ Hid (Below base w wr) ∧ Hid (Keeps (OwnD h (.slice AV mV cV) (.slice A m c)) w wr)) (fun v12 _ => m - (intOf v12).toNat)
  case atStart => exact ⟨0, rfl, Nat.zero_le _, HK, HF, HB, KP⟩
  case round =>
    clear HK HB HF KP
    obtain ⟨i, rfl, hi, HK, HF, HB, KP⟩ := hrel
    by_cases hlt : i < m
    · have hil : i < d.waits.length := by rw [← HM.out]; exact hlt
      obtain ⟨g2, c2', e, hg2, hg2l, hcs2, d0, d1⟩ := HK.out.wait_cell i hil
      have hwk := HO.out.wait _ (List.getElem_mem hil)
      obtain ⟨hcl, hcsz⟩ := crashN_ok HO.out fl i (Nat.le_of_lt hil)
      have hst : crashN fl d.waits d.sure (i + 1) = crashOne fl[i]? (crashN fl d.waits d.sure i) (d.waits[i]) := by
        rw [crashN, List.getD_eq_getElem?_getD, List.getElem?_eq_getElem hil]; rfl
      simp only at d0 d1
      generalize hp : d.waits[i] = p at *
      obtain ⟨at_, b⟩ := p
      simp only at d0 d1 hwk
      have HST := Lib.hid hst; clear hst hp
      generalize hsu : crashN fl d.waits d.sure i = su at *
      have hal : at_ < su.length := by rw [hcl]; exact hwk.1
      have hb64 := hwk.2
      have HSU := Lib.hid (show (⟨su, d.waits, d.fuse, d.gone⟩ : DkS).Ok from ⟨by simp only; rw [hcl]; exact HO.out.len, hcsz, fun q hq => by have := HO.out.wait q hq; simp only; rw [hcl]; exact this, HO.out.fuse⟩)
      have hh64 := hereS_size hcsz hal
      have HZ := Lib.hid (And.intro hb64 hh64)
      clear hsu hcl hcsz hwk hb64 hh64
      have hA : A = some ⟨g2, 0, none⟩ := by cases e; rfl
      subst hA
      clear e hcs2
      have hw := succ_w hlt hml
      have HW := Lib.hid hw; clear hw
      have HC := Lib.hid (blk_new wr (.cells #[.int .i64 at_, .string b] 73))
      have HK := Lib.hid (HK.out.alloc (.cells #[.int .i64 at_, .string b] 73))
      have HF := Lib.hid (HF.out.below (below_alloc (Below.refl _ _) (.cells #[.int .i64 at_, .string b] 73)))
      have HB := Lib.hid (HB.out.alloc (Nat.le_trans hbw HB.out.size) (.cells #[.int .i64 at_, .string b] 73))
      have KP := Lib.hid (KP.out.alloc (.cells #[.int .i64 at_, .string b] 73))
      by_cases hif : i < nf
      · have hifl : i < fl.length := by rw [HNF.out]; exact hif
        obtain ⟨bf, off, rfl, hbl, hbt, hfc⟩ := HF.out (by omega)
        have fc := hfc i hifl
        rw [List.getElem?_eq_getElem hifl] at HST
        generalize fl[i] = f at *
        clear hfc hbl hbt hifl
        have x1 : decide ((nf : Int) ≤ (i : Int)) = false := by simp; omega
        have x1n : decide (nf ≤ i) = false := by simp; omega
        by_cases hf0 : f = 0
        · have y0 : ((f.toNat : Int) == 0) = true := by rw [hf0]; rfl
          have y0' : f.toNat = 0 := by rw [hf0]; rfl
          have HST := Lib.hid (HST.out.trans (if_pos hf0))
          clear hf0
          have hw := HW.out
          go_wp2
          generalize wr.alloc (.cells #[.int .i64 at_, .string b] 73) = w1 at *
          go_roundw
          case rel => exact ⟨i + 1, by go_num, hlt, by rw [HST.out]; exact HK, HF, HB, KP⟩
          case measure => first | exact up_w hlt hw | exact up_w2 hlt
        · have y0' : ¬ f.toNat = 0 := fun e => hf0 (UInt8.toNat.inj e)
          have y0 : ((f.toNat : Int) == 0) = false := beq_eq_false_iff_ne.2 (by omega)
          by_cases hf2 : f = 255
          · have z0 : ((f.toNat : Int) == 255) = true := by rw [hf2]; rfl
            have z0' : f.toNat = 255 := by rw [hf2]; rfl
            have HST := Lib.hid (HST.out.trans ((if_neg hf0).trans (if_pos hf2)))
            clear hf0 hf2
            go_wp2
            generalize hw1 : wr.alloc (.cells #[.int .i64 at_, .string b] 73) = w1 at *
            generalize hbb : wr.heap.size = bb at *
            clear hw1 hbb d0 d1 hg2l
            obtain ⟨g, cv, e, hg, hgl, hcc, hff⟩ := HK.out.sure_cell at_ hal
            cases e
            simp only at hcc hff
            have hai : (0 : Int) ≤ (at_ : Int) ∧ (at_ : Int) < (su.length : Int) := by omega
            clear fc y0 y0' z0 z0' x1 x1n
            refine start_ (n := 10) (S := fun w' => w'.cell? ⟨h, 0, none⟩ = some (.slice (some ⟨g, 0, none⟩) su.length cV) ∧ w'.cell? ⟨bb, 0, none⟩ = some (.int .i64 at_) ∧ w'.cell? ⟨bb, 1, none⟩ = some (.string b)) (ds := [9]) #[false, false, false, false, false, false, false, false, false, false] (by kernel_rfl) rfl rfl ⟨HK.out.dk.c0, (blk_cell HC.out 0).trans rfl, (blk_cell HC.out 1).trans rfl⟩ (fun hHeld => ?_)
            have HB := Lib.hid (below_drew HB.out)
            have KP := Lib.hid KP.out.drew
            have HK := Lib.hid HK.out.drew
            have HC := Lib.hid (blk_drew HC.out)
            have HF := Lib.hid (HF.out.below (below_drew (Below.refl _ _)))
            refine pure_ (i := 0) (N := some 59) (v := ?_) (a' := ?_) #[true, false, false, false, false, false, false, false, false, false] rfl rfl (by kernel_rfl) (fun _ _ _ h => h) (Or.inl ⟨by rfl, ?_⟩) ?_ ?_
            rotate_left
            · intro w'
              go_simp
              with_reducible rfl
            rotate_left
            · simp only [Act.put, List.setIfInBounds_toArray, List.set_cons_zero, List.set_cons_succ, i64_w, i32_w]
              rfl
            refine pure_ (i := 1) (N := some 60) (v := ?_) (a' := ?_) #[true, true, false, false, false, false, false, false, false, false] rfl rfl (by kernel_rfl) (fun _ _ _ h => h) (Or.inl ⟨by rfl, ?_⟩) ?_ ?_
            rotate_left
            · intro w'
              go_simp
              with_reducible rfl
            rotate_left
            · simp only [Act.put, List.setIfInBounds_toArray, List.set_cons_zero, List.set_cons_succ, i64_w, i32_w]
              rfl
            refine pure_ (i := 2) (N := some 61) (v := ?_) (a' := ?_) #[true, true, true, false, false, false, false, false, false, false] rfl rfl (by kernel_rfl) (fun _ _ _ h => h) (Or.inl ⟨by rfl, ?_⟩) ?_ ?_
            rotate_left
            · intro w'
              go_simp
              with_reducible rfl
            rotate_left
            · simp only [Act.put, List.setIfInBounds_toArray, List.set_cons_zero, List.set_cons_succ, i64_w, i32_w]
              rfl
            refine pure_ (i := 4) (N := some 63) (v := ?_) (a' := ?_) #[true, true, true, false, true, false, false, false, false, false] rfl rfl (by kernel_rfl) (fun _ _ _ h => h) (Or.inl ⟨by rfl, ?_⟩) ?_ ?_
            rotate_left
            · intro w'
              go_simp
              with_reducible rfl
            rotate_left
            · simp only [Act.put, List.setIfInBounds_toArray, List.set_cons_zero, List.set_cons_succ, i64_w, i32_w]
              rfl
            refine pure_ (i := 6) (N := some 65) (v := ?_) (a' := ?_) #[true, true, true, false, true, false, true, false, false, false] rfl rfl (by kernel_rfl) (fun _ _ _ h => h) (Or.inl ⟨by rfl, ?_⟩) ?_ ?_
            rotate_left
            · intro w'
              go_simp
              with_reducible rfl
            rotate_left
            · simp only [Act.put, List.setIfInBounds_toArray, List.set_cons_zero, List.set_cons_succ, i64_w, i32_w]
              rfl
            refine take_ (i := 3) (N := some 62) (v := ?_) (a' := ?_) #[true, true, true, true, true, false, true, false, false, false] rfl rfl (by kernel_rfl) (fun _ _ _ h => h) (Or.inl ⟨by rfl, ?_⟩) hHeld ?_ ?_
            rotate_left
            · rintro w' ⟨s0, s1, s2⟩
              go_simp
              with_reducible rfl
            rotate_left
            · simp only [Act.put, List.setIfInBounds_toArray, List.set_cons_zero, List.set_cons_succ, i64_w, i32_w]
              rfl
            refine take_ (i := 5) (N := some 64) (v := ?_) (a' := ?_) #[true, true, true, true, true, true, true, false, false, false] rfl rfl (by kernel_rfl) (fun _ _ _ h => h) (Or.inl ⟨by rfl, ?_⟩) hHeld ?_ ?_
            rotate_left
            · rintro w' ⟨s0, s1, s2⟩
              go_simp
              with_reducible rfl
            rotate_left
            · simp only [Act.put, List.setIfInBounds_toArray, List.set_cons_zero, List.set_cons_succ, i64_w, i32_w]
              rfl
            refine take_ (i := 7) (N := some 66) (v := ?_) (a' := ?_) #[true, true, true, true, true, true, true, true, false, false] rfl rfl (by kernel_rfl) (fun _ _ _ h => h) (Or.inl ⟨by rfl, ?_⟩) hHeld ?_ ?_
            rotate_left
            · rintro w' ⟨s0, s1, s2⟩
              go_simp
              with_reducible rfl
            rotate_left
            · simp only [Act.put, List.setIfInBounds_toArray, List.set_cons_zero, List.set_cons_succ, i64_w, i32_w]
              rfl
            refine pure_ (i := 8) (N := some 67) (v := ?_) (a' := ?_) #[true, true, true, true, true, true, true, true, true, false] rfl rfl (by kernel_rfl) (fun _ _ _ h => h) (Or.inl ⟨by rfl, ?_⟩) ?_ ?_
            rotate_left
            · intro w'
              go_simp
              with_reducible rfl
            rotate_left
            · simp only [Act.put, List.setIfInBounds_toArray, List.set_cons_zero, List.set_cons_succ, i64_w, i32_w]
              rfl
            refine last_ (i := 9) (N := none) #[true, true, true, true, true, true, true, true, true, true] rfl rfl (by kernel_rfl) (by decide) (fun K hK => ?_)
            refine skip_ (w1 := ?_) (by rfl) rfl ?_ ?_
            rotate_left
            · go_simp
              rfl
            refine hK.out _ _ ?_
            clear hK K
            refine done_ (by kernel_rfl) ?_
            have HF := Lib.hid (show Fts ((w1.setCell ⟨g, at_, none⟩ (.string b)).drew) base _ fl from by obtain ⟨g3, c3, e3, hg3, hg3l, cells, hcs⟩ := Kd.R_form HK.out.sr (Nat.lt_of_le_of_lt (Nat.zero_le _) hal); cases e3; exact HF.out.set hcs (by decide) hg _ _)
            have HK := Lib.hid (show Dk ((w1.setCell ⟨g, at_, none⟩ (.string b)).drew) base h (.slice (some ⟨g, 0, none⟩) su.length cV) (.slice (some ⟨g2, 0, none⟩) m c) ⟨su.set at_ (b), d.waits, d.fuse, d.gone⟩ from HK.out.put (d := ⟨su, d.waits, d.fuse, d.gone⟩) at_ hal (b))
            have HB := Lib.hid (show Below base w ((w1.setCell ⟨g, at_, none⟩ (.string b)).drew) from below_setc (p := ⟨g, at_, none⟩) HB.out hg _)
            have KP := Lib.hid (show Keeps _ w ((w1.setCell ⟨g, at_, none⟩ (.string b)).drew) from KP.out.set (p := ⟨g, at_, none⟩) (.inl (.inr (.inl rfl))) _)
            generalize (w1.setCell ⟨g, at_, none⟩ (Value.string b)).drew = w2 at *
            clear hHeld hcc hff hai
            have hw := HW.out
            go_wp2
            go_roundw
            case rel => exact ⟨i + 1, by go_num, hlt, by rw [HST.out]; exact HK, HF, HB, KP⟩
            case measure => first | exact up_w hlt hw | exact up_w2 hlt
          · have z0' : ¬ f.toNat = 255 := fun e => hf2 (UInt8.toNat.inj e)
            have z0 : ((f.toNat : Int) == 255) = false := beq_eq_false_iff_ne.2 (by omega)
            obtain ⟨n, hn, hn64, n1, n2, n3⟩ := u8_mod f
            have HST := Lib.hid (HST.out.trans ((if_neg hf0).trans (if_neg hf2)))
            simp only at HST
            rw [hn] at HST
            clear hf0 hf2 hn
            go_wp2
            generalize hw1 : wr.alloc (.cells #[.int .i64 at_, .string b] 73) = w1 at *
            generalize hbb : wr.heap.size = bb at *
            clear hw1 hbb d0 d1 hg2l
            obtain ⟨g, cv, e, hg, hgl, hcc, hff⟩ := HK.out.sure_cell at_ hal
            cases e
            simp only at hcc hff
            have hai : (0 : Int) ≤ (at_ : Int) ∧ (at_ : Int) < (su.length : Int) := by omega
            clear fc y0 y0' z0 z0' x1 x1n n1 n2 n3
            have HH := Lib.hid (fun (w : World) (k : Dk w base h (.slice (some ⟨g, 0, none⟩) su.length cV) (.slice (some ⟨g2, 0, none⟩) m c) ⟨su, d.waits, d.fuse, d.gone⟩) => dk_here k HSU.out at_ hal)
            have hz1 := HZ.out.1
            have hz2 := HZ.out.2
            clear HZ HSU
            simp only at HH
            generalize hereS su at_ = hs at *
            have q0 : n ≤ b.size := by omega
            have q3 : n ≤ hs.size := by omega
            have q1 : (9223372036854775807 < n + (hs.size - n)) = False := eq_false (by omega)
            have q2 : (9223372036854775807 < (b.extract 0 n).size + (hs.size - n)) = False := eq_false (by rw [ByteArray.size_extract]; omega)
            have q4 : (9223372036854775807 < hs.size) = False := eq_false (by omega)
            clear hz1 hz2
            refine start_ (n := 19) (S := fun w' => w'.cell? ⟨h, 0, none⟩ = some (.slice (some ⟨g, 0, none⟩) su.length cV) ∧ w'.cell? ⟨bb, 0, none⟩ = some (.int .i64 at_) ∧ w'.cell? ⟨bb, 1, none⟩ = some (.string b)) (ds := [18]) #[false, false, false, false, false, false, false, false, false, false, false, false, false, false, false, false, false, false, false] (by kernel_rfl) rfl rfl ⟨HK.out.dk.c0, (blk_cell HC.out 0).trans rfl, (blk_cell HC.out 1).trans rfl⟩ (fun hHeld => ?_)
            have HB := Lib.hid (below_drew HB.out)
            have KP := Lib.hid KP.out.drew
            have HK := Lib.hid HK.out.drew
            have HC := Lib.hid (blk_drew HC.out)
            have HF := Lib.hid (HF.out.below (below_drew (Below.refl _ _)))
            refine pure_ (i := 0) (N := some 23) (v := ?_) (a' := ?_) #[true, false, false, false, false, false, false, false, false, false, false, false, false, false, false, false, false, false, false] rfl rfl (by kernel_rfl) (fun _ _ _ h => h) (Or.inl ⟨by rfl, ?_⟩) ?_ ?_
            rotate_left
            · intro w'
              go_simp
              with_reducible rfl
            rotate_left
            · simp only [Act.put, List.setIfInBounds_toArray, List.set_cons_zero, List.set_cons_succ, i64_w, i32_w]
              rfl
            refine pure_ (i := 1) (N := some 24) (v := ?_) (a' := ?_) #[true, true, false, false, false, false, false, false, false, false, false, false, false, false, false, false, false, false, false] rfl rfl (by kernel_rfl) (fun _ _ _ h => h) (Or.inl ⟨by rfl, ?_⟩) ?_ ?_
            rotate_left
            · intro w'
              go_simp
              with_reducible rfl
            rotate_left
            · simp only [Act.put, List.setIfInBounds_toArray, List.set_cons_zero, List.set_cons_succ, i64_w, i32_w]
              rfl
            refine pure_ (i := 2) (N := some 25) (v := ?_) (a' := ?_) #[true, true, true, false, false, false, false, false, false, false, false, false, false, false, false, false, false, false, false] rfl rfl (by kernel_rfl) (fun _ _ _ h => h) (Or.inl ⟨by rfl, ?_⟩) ?_ ?_
            rotate_left
            · intro w'
              go_simp
              with_reducible rfl
            rotate_left
            · simp only [Act.put, List.setIfInBounds_toArray, List.set_cons_zero, List.set_cons_succ, i64_w, i32_w]
              rfl
            refine pure_ (i := 4) (N := some 27) (v := ?_) (a' := ?_) #[true, true, true, false, true, false, false, false, false, false, false, false, false, false, false, false, false, false, false] rfl rfl (by kernel_rfl) (fun _ _ _ h => h) (Or.inl ⟨by rfl, ?_⟩) ?_ ?_
            rotate_left
            · intro w'
              go_simp
              with_reducible rfl
            rotate_left
            · simp only [Act.put, List.setIfInBounds_toArray, List.set_cons_zero, List.set_cons_succ, i64_w, i32_w]
              rfl
            refine pure_ (i := 6) (N := some 29) (v := ?_) (a' := ?_) #[true, true, true, false, true, false, true, false, false, false, false, false, false, false, false, false, false, false, false] rfl rfl (by kernel_rfl) (fun _ _ _ h => h) (Or.inl ⟨by rfl, ?_⟩) ?_ ?_
            rotate_left
            · intro w'
              go_simp
              with_reducible rfl
            rotate_left
            · simp only [Act.put, List.setIfInBounds_toArray, List.set_cons_zero, List.set_cons_succ, i64_w, i32_w]
              rfl
            refine pure_ (i := 8) (N := some 31) (v := ?_) (a' := ?_) #[true, true, true, false, true, false, true, false, true, false, false, false, false, false, false, false, false, false, false] rfl rfl (by kernel_rfl) (fun _ _ _ h => h) (Or.inl ⟨by rfl, ?_⟩) ?_ ?_
            rotate_left
            · intro w'
              go_simp
              with_reducible rfl
            rotate_left
            · simp only [Act.put, List.setIfInBounds_toArray, List.set_cons_zero, List.set_cons_succ, i64_w, i32_w]
              rfl
            refine pure_ (i := 10) (N := some 33) (v := ?_) (a' := ?_) #[true, true, true, false, true, false, true, false, true, false, true, false, false, false, false, false, false, false, false] rfl rfl (by kernel_rfl) (fun _ _ _ h => h) (Or.inl ⟨by rfl, ?_⟩) ?_ ?_
            rotate_left
            · intro w'
              go_simp
              with_reducible rfl
            rotate_left
            · simp only [Act.put, List.setIfInBounds_toArray, List.set_cons_zero, List.set_cons_succ, i64_w, i32_w]
              rfl
            refine pure_ (i := 11) (N := some 34) (v := ?_) (a' := ?_) #[true, true, true, false, true, false, true, false, true, false, true, true, false, false, false, false, false, false, false] rfl rfl (by kernel_rfl) (fun _ _ _ h => h) (Or.inl ⟨by rfl, ?_⟩) ?_ ?_
            rotate_left
            · intro w'
              go_simp
              with_reducible rfl
            rotate_left
            · simp only [Act.put, List.setIfInBounds_toArray, List.set_cons_zero, List.set_cons_succ, i64_w, i32_w]
              rfl
            refine pure_ (i := 14) (N := some 37) (v := ?_) (a' := ?_) #[true, true, true, false, true, false, true, false, true, false, true, true, false, false, true, false, false, false, false] rfl rfl (by kernel_rfl) (fun _ _ _ h => h) (Or.inl ⟨by rfl, ?_⟩) ?_ ?_
            rotate_left
            · intro w'
              go_simp
              with_reducible rfl
            rotate_left
            · simp only [Act.put, List.setIfInBounds_toArray, List.set_cons_zero, List.set_cons_succ, i64_w, i32_w]
              rfl
            refine take_ (i := 3) (N := some 26) (v := ?_) (a' := ?_) #[true, true, true, true, true, false, true, false, true, false, true, true, false, false, true, false, false, false, false] rfl rfl (by kernel_rfl) (fun _ _ _ h => h) (Or.inl ⟨by rfl, ?_⟩) hHeld ?_ ?_
            rotate_left
            · rintro w' ⟨s0, s1, s2⟩
              go_simp
              with_reducible rfl
            rotate_left
            · simp only [Act.put, List.setIfInBounds_toArray, List.set_cons_zero, List.set_cons_succ, i64_w, i32_w]
              rfl
            refine take_ (i := 5) (N := some 28) (v := ?_) (a' := ?_) #[true, true, true, true, true, true, true, false, true, false, true, true, false, false, true, false, false, false, false] rfl rfl (by kernel_rfl) (fun _ _ _ h => h) (Or.inl ⟨by rfl, ?_⟩) hHeld ?_ ?_
            rotate_left
            · rintro w' ⟨s0, s1, s2⟩
              go_simp
              with_reducible rfl
            rotate_left
            · simp only [Act.put, List.setIfInBounds_toArray, List.set_cons_zero, List.set_cons_succ, i64_w, i32_w]
              rfl
            refine take_ (i := 7) (N := some 30) (v := ?_) (a' := ?_) #[true, true, true, true, true, true, true, true, true, false, true, true, false, false, true, false, false, false, false] rfl rfl (by kernel_rfl) (fun _ _ _ h => h) (Or.inl ⟨by rfl, ?_⟩) hHeld ?_ ?_
            rotate_left
            · rintro w' ⟨s0, s1, s2⟩
              go_simp
              with_reducible rfl
            rotate_left
            · simp only [Act.put, List.setIfInBounds_toArray, List.set_cons_zero, List.set_cons_succ, i64_w, i32_w]
              rfl
            refine pure_ (i := 9) (N := some 32) (v := ?_) (a' := ?_) #[true, true, true, true, true, true, true, true, true, true, true, true, false, false, true, false, false, false, false] rfl rfl (by kernel_rfl) (fun _ _ _ h => h) (Or.inl ⟨by rfl, ?_⟩) ?_ ?_
            rotate_left
            · intro w'
              go_simp
              with_reducible rfl
            rotate_left
            · simp only [Act.put, List.setIfInBounds_toArray, List.set_cons_zero, List.set_cons_succ, i64_w, i32_w]
              rfl
            refine take_ (i := 12) (N := some 35) (v := ?_) (a' := ?_) #[true, true, true, true, true, true, true, true, true, true, true, true, true, false, true, false, false, false, false] rfl rfl (by kernel_rfl) (fun _ _ _ h => h) (Or.inl ⟨by rfl, ?_⟩) hHeld ?_ ?_
            rotate_left
            · rintro w' ⟨s0, s1, s2⟩
              go_simp
              with_reducible rfl
            rotate_left
            · simp only [Act.put, List.setIfInBounds_toArray, List.set_cons_zero, List.set_cons_succ, i64_w, i32_w]
              rfl
            refine one_ (i := 13) (N := some 36) #[true, true, true, true, true, true, true, true, true, true, true, true, true, true, true, false, false, false, false] rfl rfl (by kernel_rfl) (by decide) (fun K hK => ?_)
            refine goes_ Try.func34 (by kernel_rfl) rfl #[.pointer (some ⟨h, 0, none⟩), .int .i64 at_] (by rfl) rfl rfl (by (try simp only [List.map_toArray, List.map_cons, List.map_nil]); first | done | rfl) ?_
            with_reducible refine (HH.out _ HK.out).mono ?_
            rintro e w5 ⟨rfl, hb⟩
            refine ⟨_, rfl, ?_⟩
            have HB := Lib.hid (HB.out.trans (hb.mono (Nat.le_trans hbw HB.out.size)))
            have KP := Lib.hid (KP.out.below hb)
            have HF := Lib.hid (HF.out.below hb)
            have HC := Lib.hid (blk_below HC.out hb)
            have HK := Lib.hid (HK.out.below hb)
            clear hcc hff
            obtain ⟨g9, c9, e9, _, _, hcc, hff⟩ := HK.out.sure_cell at_ hal
            cases e9
            simp only at hcc hff
            refine hK.out _ _ ⟨HK.out.dk.c0, (blk_cell HC.out 0).trans rfl, (blk_cell HC.out 1).trans rfl⟩ (fun hHeld => ?_)
            clear hK K
            refine norm_ (a' := ?_) ?_ ?_
            rotate_left
            · show Act.put _ (some 36) _ = _
              simp only [Act.put, List.setIfInBounds_toArray, List.set_cons_zero, List.set_cons_succ, i64_w, i32_w]
              rfl
            refine pure_ (i := 15) (N := some 38) (v := ?_) (a' := ?_) #[true, true, true, true, true, true, true, true, true, true, true, true, true, true, true, true, false, false, false] rfl rfl (by kernel_rfl) (fun _ _ _ h => h) (Or.inl ⟨by rfl, ?_⟩) ?_ ?_
            rotate_left
            · intro w'
              go_simp
              with_reducible rfl
            rotate_left
            · simp only [Act.put, List.setIfInBounds_toArray, List.set_cons_zero, List.set_cons_succ, i64_w, i32_w]
              rfl
            refine pure_ (i := 16) (N := some 39) (v := ?_) (a' := ?_) #[true, true, true, true, true, true, true, true, true, true, true, true, true, true, true, true, true, false, false] rfl rfl (by kernel_rfl) (fun _ _ _ h => h) (Or.inl ⟨by rfl, ?_⟩) ?_ ?_
            rotate_left
            · intro w'
              go_simp
              with_reducible rfl
            rotate_left
            · simp only [Act.put, List.setIfInBounds_toArray, List.set_cons_zero, List.set_cons_succ, i64_w, i32_w]
              rfl
            refine pure_ (i := 17) (N := some 40) (v := ?_) (a' := ?_) #[true, true, true, true, true, true, true, true, true, true, true, true, true, true, true, true, true, true, false] rfl rfl (by kernel_rfl) (fun _ _ _ h => h) (Or.inl ⟨by rfl, ?_⟩) ?_ ?_
            rotate_left
            · intro w'
              go_simp
              with_reducible rfl
            rotate_left
            · simp only [Act.put, List.setIfInBounds_toArray, List.set_cons_zero, List.set_cons_succ, i64_w, i32_w]
              rfl
            refine last_ (i := 18) (N := none) #[true, true, true, true, true, true, true, true, true, true, true, true, true, true, true, true, true, true, true] rfl rfl (by kernel_rfl) (by decide) (fun K hK => ?_)
            refine skip_ (w1 := ?_) (by rfl) rfl ?_ ?_
            rotate_left
            · go_simp
              rfl
            refine hK.out _ _ ?_
            clear hK K
            refine done_ (by kernel_rfl) ?_
            have HF := Lib.hid (show Fts (w5.setCell ⟨g, at_, none⟩ (.string (b.extract 0 n ++ hs.extract n hs.size))) base _ fl from by obtain ⟨g3, c3, e3, hg3, hg3l, cells, hcs⟩ := Kd.R_form HK.out.sr (Nat.lt_of_le_of_lt (Nat.zero_le _) hal); cases e3; exact HF.out.set hcs (by decide) hg _ _)
            have HK := Lib.hid (show Dk (w5.setCell ⟨g, at_, none⟩ (.string (b.extract 0 n ++ hs.extract n hs.size))) base h (.slice (some ⟨g, 0, none⟩) su.length cV) (.slice (some ⟨g2, 0, none⟩) m c) ⟨su.set at_ ((b.extract 0 n ++ hs.extract n hs.size)), d.waits, d.fuse, d.gone⟩ from HK.out.put (d := ⟨su, d.waits, d.fuse, d.gone⟩) at_ hal ((b.extract 0 n ++ hs.extract n hs.size)))
            have HB := Lib.hid (show Below base w (w5.setCell ⟨g, at_, none⟩ (.string (b.extract 0 n ++ hs.extract n hs.size))) from below_setc (p := ⟨g, at_, none⟩) HB.out hg _)
            have KP := Lib.hid (show Keeps _ w (w5.setCell ⟨g, at_, none⟩ (.string (b.extract 0 n ++ hs.extract n hs.size))) from KP.out.set (p := ⟨g, at_, none⟩) (.inl (.inr (.inl rfl))) _)
            generalize w5.setCell ⟨g, at_, none⟩ (Value.string (b.extract 0 n ++ hs.extract n hs.size)) = w2 at *
            clear hHeld hcc hff hai q0 q1 q2 q3 q4
            have hw := HW.out
            go_wp2
            go_roundw
            case rel => exact ⟨i + 1, by go_num, hlt, by rw [HST.out]; exact HK, HF, HB, KP⟩
            case measure => first | exact up_w hlt hw | exact up_w2 hlt
      · have x1 : decide ((nf : Int) ≤ (i : Int)) = true := by simp; omega
        have x1n : decide (nf ≤ i) = true := by simp; omega
        rw [show fl[i]? = none from List.getElem?_eq_none (by rw [HNF.out]; omega)] at HST
        have hw := HW.out
        go_wp2
        generalize wr.alloc (.cells #[.int .i64 at_, .string b] 73) = w1 at *
        go_roundw
        case rel => exact ⟨i + 1, by go_num, hlt, by rw [HST.out]; exact HK, HF, HB, KP⟩
        case measure => first | exact up_w hlt hw | exact up_w2 hlt
    · obtain rfl : i = m := by omega
      have c1 := HK.out.dk.c1
      have c2 := HK.out.dk.c2
      have c3 := HK.out.dk.c3
      have f1 := HK.out.dk.f 1
      have f2 := HK.out.dk.f 2
      have f3 := HK.out.dk.f 3
      go_wp2
      go_end0
      refine ⟨rfl, ?_, ?_, ?_⟩
      · have := (HK.out.none1.set2 (-1)).set3 false
        rw [HM.out] at this
        exact this
      · exact below_setc (p := ⟨h, 3, none⟩) (below_setc (p := ⟨h, 2, none⟩) (below_setc (p := ⟨h, 1, none⟩) HB.out HK.out.hb _) HK.out.hb _) HK.out.hb _
      · exact ((KP.out.set (p := ⟨h, 1, none⟩) (.inl (.inl rfl)) _).set (p := ⟨h, 2, none⟩) (.inl (.inl rfl)) _).set (p := ⟨h, 3, none⟩) (.inl (.inl rfl)) _
theorem dk_crash {w : World} {base h : Nat} {V W : Value} {d : DkS} (k : Dk w base h V W d) (ho : d.Ok) (AF : Option Addr) (nf cf : Nat) (fl : List UInt8) (hF : Fts w base AF fl) (hnf : fl.length = nf) (hl : d.waits.length ≤ 1000000) (hbw : base ≤ w.heap.size) :
    Calls Try.prog 13 #[.pointer (some ⟨h, 0, none⟩), .slice AF nf cf] w fun e w' => e = .returned (.tuple #[]) ∧ Dk w' base h V (.slice none 0 0) (crashS d fl) ∧ Below base w w' :=
  (dk_crashK k ho AF nf cf fl hF hnf hl hbw).mono fun e w' ⟨h1, h2, h3, _⟩ => ⟨h1, h2, h3⟩
end Go.Proofs.Ytoandabafkdgjaa.My
