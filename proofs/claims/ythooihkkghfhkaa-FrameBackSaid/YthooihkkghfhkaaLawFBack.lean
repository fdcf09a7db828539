/- The law FrameBack walked. -/
import Derived.Test.YthooihkkghfhkaaSplit3
import Derived.Test.YthooihkkghfhkaaLawMakes
import Derived.Test.YthooihkkghfhkaaOpens
namespace Go.Proofs.Ythooihkkghfhkaa.My
set_option linter.unusedSimpArgs false
set_option linter.unusedVariables false
open Go.RowKit Go.Proofs.YthooihkkghfhkaaW.PrintWords Go.Proofs.YthooihkkghfhkaaW.PrintLast Go.Proofs.Ythooihkkghfhkaa.Pm

def ArgStrs (w : World) (A : Option Addr) (len : Nat) (ps : List ByteArray) : Prop :=
  ps.length = len ∧ (∀ p ∈ ps, p.size ≤ 140737488351232) ∧ (0 < len → ∃ b off, A = some ⟨b, off, none⟩ ∧ b < w.heap.size ∧ ∀ j (h : j < ps.length), w.cell? ⟨b, off + j, none⟩ = some (.string ps[j]))
theorem ArgStrs.below {w w' : World} {A : Option Addr} {len : Nat} {ps : List ByteArray} (h : ArgStrs w A len ps) (hb : Below w.heap.size w w') : ArgStrs w' A len ps :=
  ⟨h.1, h.2.1, fun h0 => by
    obtain ⟨b, off, e, hlt, hc⟩ := h.2.2 h0
    exact ⟨b, off, e, Nat.lt_of_lt_of_le hlt hb.size, fun j hj => (hb.cell (p := ⟨b, off + j, none⟩) hlt).trans (hc j hj)⟩⟩
def okP (p : ByteArray) : Bool := decide (1 ≤ p.size) && decide (p.size ≤ 4000)
def goodL (l : List ByteArray) : List ByteArray := l.filter okP
theorem good_take (l : List ByteArray) (i : Nat) (h : i < l.length) (p : ByteArray) (hp : l[i] = p) : goodL (l.take (i + 1)) = goodL (l.take i) ++ (if okP p = true then [p] else []) := by
  unfold goodL
  rw [List.take_succ_eq_append_getElem h, List.filter_append, hp]
  congr 1
  simp only [List.filter]
  cases okP p <;> rfl
theorem good_len (l : List ByteArray) (i : Nat) : (goodL (l.take i)).length ≤ (goodL l).length := by
  unfold goodL
  conv => rhs; rw [← List.take_append_drop i l, List.filter_append, List.length_append]
  omega
theorem good_len' (l : List ByteArray) : (goodL l).length ≤ l.length := List.length_filter_le _ _
theorem good_get (l : List ByteArray) (i : Nat) (h : i < l.length) (p : ByteArray) (hp : l[i] = p) (hk : okP p = true) : ∃ hj : (goodL (l.take i)).length < (goodL l).length, (goodL l)[(goodL (l.take i)).length] = p := by
  have e : goodL l = goodL (l.take i) ++ p :: goodL (l.drop (i + 1)) := by
    unfold goodL
    conv => lhs; rw [← List.take_append_drop i l, List.filter_append, List.drop_eq_getElem_cons h, hp, List.filter_cons, if_pos hk]
  have hlt : (goodL (l.take i)).length < (goodL l).length := by rw [e, List.length_append, List.length_cons]; omega
  refine ⟨hlt, ?_⟩
  have : (goodL l)[(goodL (l.take i)).length]? = some p := by
    rw [e, List.getElem?_append_right (Nat.le_refl _), Nat.sub_self]
    rfl
  rw [List.getElem?_eq_getElem hlt] at this
  exact Option.some.inj this
theorem fb_up {j n : Nat} (h : j < n) (hn : n ≤ 8) : wrap64 ((j : Int) + 1) = ((j + 1 : Nat) : Int) := wrap64_id (by omega) (by omega)
theorem fb_down {m : Nat} (h : 1 ≤ m) (hn : m ≤ 8) : wrap64 ((m : Int) - 1) = ((m - 1 : Nat) : Int) := by
  rw [wrap64_id (by omega) (by omega)]
  omega
theorem fb_meas {j n : Nat} (h : j < n) (hw : wrap64 ((j : Int) + 1) = ((j + 1 : Nat) : Int)) : n - (intOf (.int .i64 (wrap64 ((j : Int) + 1)))).toNat < n - (intOf (.int .i64 (j : Int))).toNat := by
  rw [hw]
  simp only [intOf]
  omega
theorem fb_meas2 {j n : Nat} (h : j < n) : n - (intOf (.int .i64 ((j : Int) + 1))).toNat < n - (intOf (.int .i64 (j : Int))).toNat := by
  simp only [intOf]
  omega

set_option maxRecDepth 100000 in
set_option maxHeartbeats 8000000 in
theorem frame_back_big (A : Option Addr) (len cap : Nat) (w : World) (h : 8 < len) :
    Calls Try.prog 4 #[.slice A len cap] w fun e w' => e = .returned (.bool true) ∧ Below w.heap.size w w' := by
  have x0 : decide (8 < (len : Int)) = true := by simp; omega
  have HB := Lib.hid (Below.refl w.heap.size w)
  go_enter Try.func4, Try.ntmps4
  go_wp2_with fail
  refine (awake06 _).mono ?_
  rintro e wq1 ⟨rfl, hb⟩
  have HB := Lib.hid (HB.out.trans (hb.mono HB.out.size)); clear hb
  go_wp2_with fail
  refine (awake06 _).mono ?_
  rintro e wq2 ⟨rfl, hb⟩
  have HB := Lib.hid (HB.out.trans (hb.mono HB.out.size)); clear hb
  go_wp2
  go_ret
  exact ⟨rfl, HB.out⟩
set_option maxRecDepth 100000 in
set_option maxHeartbeats 8000000 in
theorem frame_back_law (A : Option Addr) (len cap : Nat) (ps : List ByteArray) (w : World) (hA : ArgStrs w A len ps) (h8 : len ≤ 8) :
    Calls Try.prog 4 #[.slice A len cap] w fun e w' => e = .returned (.bool true) ∧ Below w.heap.size w w' := by
  have HA := Lib.hid hA; clear hA
  have x0 : decide (8 < (len : Int)) = false := by simp; omega
  have HB := Lib.hid (Below.refl w.heap.size w)
  have M := Lib.hid crc_make
  have FG := Lib.hid (fun p w h1 h2 => frame_good p w h1 h2)
  have FBD := Lib.hid (fun p w hp h => frame_bad tab p w hp h)
  have SN := Lib.hid sp_new
  have FD := Lib.hid (fun b l l1 hb (w : World) (h base : Nat) (q : Value) k hq hbh hl hbw => @feed_any b l l1 hb w h base q k hq hbh hl hbw)
  have hi1 : (Try.prog.info? 28).map (·.size) = some tab.size := by unfold tab; rw [tabTo_size]; kernel_rfl
  have h0 : (tabTo 0).size = tab.size := by unfold tab; rw [tabTo_size, tabTo_size]
  have h1 : tab.all (·.oneCell') = true := tabTo_one 256
  have hz := zeroTable
  have HI := Lib.hid hi1; clear hi1
  have H0 := Lib.hid h0; clear h0
  have H1 := Lib.hid h1; clear h1
  generalize tab = T at *
  generalize tabTo 0 = T0 at *
  go_enter Try.func4, Try.ntmps4
  go_wp2_with fail
  refine (awake06 _).mono ?_
  rintro e wq3 ⟨rfl, hb⟩
  have HB := Lib.hid (HB.out.trans (hb.mono HB.out.size)); clear hb
  go_wp2_with fail
  refine (M.out _).mono ?_
  rintro e w4 ⟨rfl, hb⟩
  have HB := Lib.hid (HB.out.trans (hb.mono HB.out.size)); clear hb
  have b0 := blk_new w4 (.cells T0 28)
  have B0 := Lib.hid b0; clear b0
  go_wp2_with (first
    | (refine wpList_store_row rfl 28 _ _ rfl w4.heap.size T rfl rfl 28 T0 B0.out HI.out H0.out H1.out ?_; rw [World.setRow_alloc_new])
    | (refine wpList_load_row rfl 28 (.tmp 3) rfl w4.heap.size rfl 28 T (0, 0) _ (blk_new _ _) Try.underlying28 rfl HI.out ?_))
  have K := blk_new w4 (.cells T 28)
  have hgl : w4.heap.size < (w4.alloc (.cells T 28)).heap.size := by simp
  have HB := Lib.hid (below_alloc HB.out (.cells T 28))
  clear B0 H0 H1 M
  generalize w4.alloc (.cells T 28) = w5 at *
  generalize w4.heap.size = gt at *
  have HW := Lib.hid (And.intro HB.out hgl)
  obtain ⟨B, hBB⟩ : ∃ B, w5.heap.size = B := ⟨_, rfl⟩
  refine (SN.out _).mono ?_
  rintro e w6 ⟨h, rfl, hh, hsp, hb⟩
  rw [hBB] at hh hb hgl
  have HSP := Lib.hid hsp; clear hsp SN
  have HQ := Lib.hid (show Qs w6 B (.slice none 0 0) [] from Kd.R_nil _ _ _ _ _)
  have K5 := Lib.hid K; clear K
  have HB2 := Lib.hid hb; clear hb HB hz
  have HBE := Lib.hid hBB
  have H5 : Hid (∀ wr, Below B w5 wr → wr.heap[gt]? = some (.cells T 28 (0, 0)) ∧ Below w.heap.size w wr ∧ ArgStrs wr A len ps ∧ B ≤ wr.heap.size) := Lib.hid (fun wr hb => by
    have hbb : Below w.heap.size w wr := HW.out.1.trans (hb.mono (by rw [← hBB]; exact HW.out.1.size))
    exact ⟨(hb.block gt hgl).trans K5.out, hbb, HA.out.below hbb, by rw [← hBB]; exact hb.size⟩)
  have HWB := Lib.hid (show w.heap.size ≤ B by rw [← hBB]; exact HW.out.1.size)
  have HHB := Lib.hid hh; clear hh hBB hgl
  have hpl := HA.out.1
  have HPL := Lib.hid hpl; clear hpl
  go_wp2
  go_loopw [5, 6] (fun v5 v6 wr => ∃ (i n : Nat) (q : Value), v6 = .int .i64 i ∧ v5 = .int .i64 n ∧ i ≤ len ∧ n = (goodL (ps.take i)).length ∧ IsSp T wr h ⟨#[]⟩ q false ∧ Qs wr B q (goodL (ps.take i)) ∧ Below B w5 wr) (fun _ v6 _ => len - (intOf v6).toNat)
  case atStart => exact ⟨0, 0, _, rfl, rfl, by omega, rfl, HSP.out, HQ.out, HB2.out⟩
  case round =>
    clear HSP HQ HB2
    obtain ⟨i, n, q, rfl, rfl, hi, hn, hsp, hq, hb⟩ := hrel
    have HSP := Lib.hid hsp; clear hsp
    have HQ := Lib.hid hq; clear hq
    have HB := Lib.hid hb; clear hb
    have HN := Lib.hid hn
    have hn8 : n ≤ i := by rw [hn]; exact Nat.le_trans (good_len' _) (by rw [List.length_take]; exact Nat.min_le_left _ _)
    clear hn
    by_cases hlt : i < len
    · obtain ⟨hgt, hbw, hargs, hBs⟩ := H5.out _ HB.out
      obtain ⟨b0, off, rfl, hb0, hcell⟩ := hargs.2.2 (by omega)
      have hil : i < ps.length := by rw [HPL.out]; exact hlt
      have hc := hcell i hil
      obtain ⟨p, hp⟩ : ∃ p, ps[i] = p := ⟨_, rfl⟩
      rw [hp] at hc
      have HT := Lib.hid (good_take ps i hil p hp)
      have hw := fb_up hlt h8
      have HX := Lib.hid (And.intro hgt (And.intro hbw (And.intro hBs hb0)))
      clear hcell hargs hbw hp hil hgt hBs hb0
      by_cases h5 : 5000 < p.size
      · have x1 : decide (5000 < (p.size : Int)) = true := by simp; omega
        go_wp2
        go_ret
        exact ⟨rfl, HX.out.2.1⟩
      have x1 : decide (5000 < (p.size : Int)) = false := by simp; omega
      have hn9 : wrap64 ((n : Int) + 1) = ((n + 1 : Nat) : Int) := fb_up (Nat.lt_of_le_of_lt hn8 hlt) h8
      by_cases hok : okP p = true
      · rw [if_pos hok] at HT
        have hok' : 1 ≤ p.size ∧ p.size ≤ 4000 := by
          unfold okP at hok
          simpa using hok
        have F := Lib.hid (fun w => FG.out p w hok'.1 hok'.2)
        have HFD := Lib.hid (FD.out (frameS p) (goodL (ps.take i)) (goodL (ps.take (i + 1))) (.inl ⟨p, rfl, hok'.1, hok'.2, HT.out⟩))
        have HN1 := Lib.hid (show n + 1 = (goodL (ps.take (i + 1))).length by rw [HT.out, List.length_append, HN.out]; rfl)
        generalize frameS p = f at *
        go_wp2
        refine start_ (n := 11) (S := fun w' => w'.heap[gt]? = some (.cells T 28 (0, 0)) ∧ w'.cell? ⟨b0, off + i, none⟩ = some (.string p) ∧ IsSp T w' h ⟨#[]⟩ q false ∧ Qs w' B q (goodL (ps.take i)) ∧ b0 < w'.heap.size) (ds := []) #[false, false, false, false, false, false, false, false, false, false, false] (by kernel_rfl) rfl rfl ⟨HX.out.1, hc, HSP.out, HQ.out, HX.out.2.2.2⟩ (fun hHeld => ?_)
        have HB := Lib.hid (below_drew HB.out)
        refine pure_ (i := 1) (N := some 39) (v := ?_) (a' := ?_) #[false, true, false, false, false, false, false, false, false, false, false] rfl rfl (by kernel_rfl) (fun _ _ _ h => h) (Or.inl ⟨by rfl, ?_⟩) ?_ ?_
        rotate_left
        · intro w'
          go_simp
          with_reducible rfl
        rotate_left
        · simp only [Act.put, List.setIfInBounds_toArray, List.set_cons_zero, List.set_cons_succ, i64_w, i32_w]
          rfl
        refine pure_ (i := 2) (N := some 40) (v := ?_) (a' := ?_) #[false, true, true, false, false, false, false, false, false, false, false] rfl rfl (by kernel_rfl) (fun _ _ _ h => h) (Or.inl ⟨by rfl, ?_⟩) ?_ ?_
        rotate_left
        · intro w'
          go_simp
          with_reducible rfl
        rotate_left
        · simp only [Act.put, List.setIfInBounds_toArray, List.set_cons_zero, List.set_cons_succ, i64_w, i32_w]
          rfl
        refine pure_ (i := 3) (N := some 41) (v := ?_) (a' := ?_) #[false, true, true, true, false, false, false, false, false, false, false] rfl rfl (by kernel_rfl) (fun _ _ _ h => h) (Or.inl ⟨by rfl, ?_⟩) ?_ ?_
        rotate_left
        · intro w'
          go_simp
          with_reducible rfl
        rotate_left
        · simp only [Act.put, List.setIfInBounds_toArray, List.set_cons_zero, List.set_cons_succ, i64_w, i32_w]
          rfl
        refine take_ (i := 0) (N := some 38) (v := ?_) (a' := ?_) #[true, true, true, true, false, false, false, false, false, false, false] rfl rfl (by kernel_rfl) (fun _ _ _ h => h) (Or.inl ⟨by rfl, ?_⟩) hHeld ?_ ?_
        rotate_left
        · rintro w' ⟨s0, s1, s2, s3, s4⟩
          refine run_row 28 (.tmp 3) ?_ gt ?_ 28 T (0, 0) _ s0 Try.underlying28 rfl HI.out <;> rfl
        rotate_left
        · simp only [Act.put, List.setIfInBounds_toArray, List.set_cons_zero, List.set_cons_succ, i64_w, i32_w]
          rfl
        refine take_ (i := 4) (N := some 42) (v := ?_) (a' := ?_) #[true, true, true, true, true, false, false, false, false, false, false] rfl rfl (by kernel_rfl) (fun _ _ _ h => h) (Or.inl ⟨by rfl, ?_⟩) hHeld ?_ ?_
        rotate_left
        · rintro w' ⟨s0, s1, s2, s3, s4⟩
          go_simp
          with_reducible rfl
        rotate_left
        · simp only [Act.put, List.setIfInBounds_toArray, List.set_cons_zero, List.set_cons_succ, i64_w, i32_w]
          rfl
        refine one_ (i := 5) (N := some 43) #[true, true, true, true, true, true, false, false, false, false, false] rfl rfl (by kernel_rfl) (by decide) (fun K hK => ?_)
        refine goes_ Try.func10 (by kernel_rfl) rfl #[.agg T, .string p] (by rfl) rfl rfl (by (try simp only [List.map_toArray, List.map_cons, List.map_nil]); first | done | rfl) ?_
        with_reducible refine (F.out _).mono ?_
        rintro e w8 ⟨rfl, hb⟩
        refine ⟨_, rfl, ?_⟩
        have HB := Lib.hid (HB.out.trans (hb.mono HX.out.2.2.1))
        refine hK.out _ _ ⟨blk_below hHeld.1 hb, (hb.cell (p := ⟨b0, off + i, none⟩) hHeld.2.2.2.2).trans hHeld.2.1, hHeld.2.2.1.below hb, hHeld.2.2.2.1.below hb, Nat.lt_of_lt_of_le hHeld.2.2.2.2 hb.size⟩ (fun hHeld => ?_)
        clear hK K
        refine norm_ (a' := ?_) ?_ ?_
        rotate_left
        · show Act.put _ (some 43) _ = _
          simp only [Act.put, List.setIfInBounds_toArray, List.set_cons_zero, List.set_cons_succ, i64_w, i32_w]
          rfl
        refine pure_ (i := 6) (N := some 37) (v := ?_) (a' := ?_) #[true, true, true, true, true, true, true, false, false, false, false] rfl rfl (by kernel_rfl) (fun _ _ _ h => h) (Or.inl ⟨by rfl, ?_⟩) ?_ ?_
        rotate_left
        · intro w'
          go_simp
          with_reducible rfl
        rotate_left
        · simp only [Act.put, List.setIfInBounds_toArray, List.set_cons_zero, List.set_cons_succ, i64_w, i32_w]
          rfl
        refine pure_ (i := 7) (N := some 44) (v := ?_) (a' := ?_) #[true, true, true, true, true, true, true, true, false, false, false] rfl rfl (by kernel_rfl) (fun _ _ _ h => h) (Or.inl ⟨by rfl, ?_⟩) ?_ ?_
        rotate_left
        · intro w'
          go_simp
          with_reducible rfl
        rotate_left
        · simp only [Act.put, List.setIfInBounds_toArray, List.set_cons_zero, List.set_cons_succ, i64_w, i32_w]
          rfl
        refine pure_ (i := 8) (N := some 45) (v := ?_) (a' := ?_) #[true, true, true, true, true, true, true, true, true, false, false] rfl rfl (by kernel_rfl) (fun _ _ _ h => h) (Or.inl ⟨by rfl, ?_⟩) ?_ ?_
        rotate_left
        · intro w'
          go_simp
          with_reducible rfl
        rotate_left
        · simp only [Act.put, List.setIfInBounds_toArray, List.set_cons_zero, List.set_cons_succ, i64_w, i32_w]
          rfl
        refine pure_ (i := 9) (N := some 7) (v := ?_) (a' := ?_) #[true, true, true, true, true, true, true, true, true, true, false] rfl rfl (by kernel_rfl) (fun _ _ _ h => h) (Or.inl ⟨by rfl, ?_⟩) ?_ ?_
        rotate_left
        · intro w'
          go_simp
          with_reducible rfl
        rotate_left
        · simp only [Act.put, List.setIfInBounds_toArray, List.set_cons_zero, List.set_cons_succ, i64_w, i32_w]
          rfl
        refine pure_ (i := 10) (N := some 8) (v := ?_) (a' := ?_) #[true, true, true, true, true, true, true, true, true, true, true] rfl rfl (by kernel_rfl) (fun _ _ _ h => h) (Or.inl ⟨by rfl, ?_⟩) ?_ ?_
        rotate_left
        · intro w'
          go_simp
          with_reducible rfl
        rotate_left
        · simp only [Act.put, List.setIfInBounds_toArray, List.set_cons_zero, List.set_cons_succ, i64_w, i32_w]
          rfl
        refine done_ (by kernel_rfl) ?_

        have HSP := Lib.hid hHeld.2.2.1
        have HQ := Lib.hid hHeld.2.2.2.1
        clear hHeld hc
        go_wp2_with fail
        refine (HFD.out _ h B q HSP.out HQ.out HHB.out (by rw [← HN.out]; omega) (H5.out _ HB.out).2.2.2).mono ?_
        rintro e w9 ⟨rfl, q', hsp, hq, hb⟩
        have HSP := Lib.hid hsp; clear hsp
        have HQ := Lib.hid hq; clear hq
        have HB := Lib.hid (HB.out.trans hb); clear hb
        go_wp2
        go_roundw
        case rel => exact ⟨i + 1, n + 1, q', by go_num, by go_num, hlt, HN1.out, HSP.out, HQ.out, HB.out⟩
        case measure => first | exact fb_meas hlt hw | exact fb_meas2 hlt
      · rw [if_neg hok, List.append_nil] at HT
        have hok' : p.size < 1 ∨ 4000 < p.size := by
          unfold okP at hok
          simp at hok
          omega
        have F := Lib.hid (fun w => FBD.out p w (by omega) hok')
        have HFD := Lib.hid (FD.out ⟨#[]⟩ (goodL (ps.take i)) (goodL (ps.take (i + 1))) (.inr ⟨rfl, HT.out⟩))
        have HN1 := Lib.hid (show n = (goodL (ps.take (i + 1))).length by rw [HT.out, HN.out])
        go_wp2
        refine start_ (n := 11) (S := fun w' => w'.heap[gt]? = some (.cells T 28 (0, 0)) ∧ w'.cell? ⟨b0, off + i, none⟩ = some (.string p) ∧ IsSp T w' h ⟨#[]⟩ q false ∧ Qs w' B q (goodL (ps.take i)) ∧ b0 < w'.heap.size) (ds := []) #[false, false, false, false, false, false, false, false, false, false, false] (by kernel_rfl) rfl rfl ⟨HX.out.1, hc, HSP.out, HQ.out, HX.out.2.2.2⟩ (fun hHeld => ?_)
        have HB := Lib.hid (below_drew HB.out)
        refine pure_ (i := 1) (N := some 39) (v := ?_) (a' := ?_) #[false, true, false, false, false, false, false, false, false, false, false] rfl rfl (by kernel_rfl) (fun _ _ _ h => h) (Or.inl ⟨by rfl, ?_⟩) ?_ ?_
        rotate_left
        · intro w'
          go_simp
          with_reducible rfl
        rotate_left
        · simp only [Act.put, List.setIfInBounds_toArray, List.set_cons_zero, List.set_cons_succ, i64_w, i32_w]
          rfl
        refine pure_ (i := 2) (N := some 40) (v := ?_) (a' := ?_) #[false, true, true, false, false, false, false, false, false, false, false] rfl rfl (by kernel_rfl) (fun _ _ _ h => h) (Or.inl ⟨by rfl, ?_⟩) ?_ ?_
        rotate_left
        · intro w'
          go_simp
          with_reducible rfl
        rotate_left
        · simp only [Act.put, List.setIfInBounds_toArray, List.set_cons_zero, List.set_cons_succ, i64_w, i32_w]
          rfl
        refine pure_ (i := 3) (N := some 41) (v := ?_) (a' := ?_) #[false, true, true, true, false, false, false, false, false, false, false] rfl rfl (by kernel_rfl) (fun _ _ _ h => h) (Or.inl ⟨by rfl, ?_⟩) ?_ ?_
        rotate_left
        · intro w'
          go_simp
          with_reducible rfl
        rotate_left
        · simp only [Act.put, List.setIfInBounds_toArray, List.set_cons_zero, List.set_cons_succ, i64_w, i32_w]
          rfl
        refine take_ (i := 0) (N := some 38) (v := ?_) (a' := ?_) #[true, true, true, true, false, false, false, false, false, false, false] rfl rfl (by kernel_rfl) (fun _ _ _ h => h) (Or.inl ⟨by rfl, ?_⟩) hHeld ?_ ?_
        rotate_left
        · rintro w' ⟨s0, s1, s2, s3, s4⟩
          refine run_row 28 (.tmp 3) ?_ gt ?_ 28 T (0, 0) _ s0 Try.underlying28 rfl HI.out <;> rfl
        rotate_left
        · simp only [Act.put, List.setIfInBounds_toArray, List.set_cons_zero, List.set_cons_succ, i64_w, i32_w]
          rfl
        refine take_ (i := 4) (N := some 42) (v := ?_) (a' := ?_) #[true, true, true, true, true, false, false, false, false, false, false] rfl rfl (by kernel_rfl) (fun _ _ _ h => h) (Or.inl ⟨by rfl, ?_⟩) hHeld ?_ ?_
        rotate_left
        · rintro w' ⟨s0, s1, s2, s3, s4⟩
          go_simp
          with_reducible rfl
        rotate_left
        · simp only [Act.put, List.setIfInBounds_toArray, List.set_cons_zero, List.set_cons_succ, i64_w, i32_w]
          rfl
        refine one_ (i := 5) (N := some 43) #[true, true, true, true, true, true, false, false, false, false, false] rfl rfl (by kernel_rfl) (by decide) (fun K hK => ?_)
        refine goes_ Try.func10 (by kernel_rfl) rfl #[.agg T, .string p] (by rfl) rfl rfl (by (try simp only [List.map_toArray, List.map_cons, List.map_nil]); first | done | rfl) ?_
        with_reducible refine (F.out _).mono ?_
        rintro e w8 ⟨rfl, hb⟩
        refine ⟨_, rfl, ?_⟩
        have HB := Lib.hid (HB.out.trans (hb.mono HX.out.2.2.1))
        refine hK.out _ _ ⟨blk_below hHeld.1 hb, (hb.cell (p := ⟨b0, off + i, none⟩) hHeld.2.2.2.2).trans hHeld.2.1, hHeld.2.2.1.below hb, hHeld.2.2.2.1.below hb, Nat.lt_of_lt_of_le hHeld.2.2.2.2 hb.size⟩ (fun hHeld => ?_)
        clear hK K
        refine norm_ (a' := ?_) ?_ ?_
        rotate_left
        · show Act.put _ (some 43) _ = _
          simp only [Act.put, List.setIfInBounds_toArray, List.set_cons_zero, List.set_cons_succ, i64_w, i32_w]
          rfl
        refine pure_ (i := 6) (N := some 37) (v := ?_) (a' := ?_) #[true, true, true, true, true, true, true, false, false, false, false] rfl rfl (by kernel_rfl) (fun _ _ _ h => h) (Or.inl ⟨by rfl, ?_⟩) ?_ ?_
        rotate_left
        · intro w'
          go_simp
          with_reducible rfl
        rotate_left
        · simp only [Act.put, List.setIfInBounds_toArray, List.set_cons_zero, List.set_cons_succ, i64_w, i32_w]
          rfl
        refine pure_ (i := 7) (N := some 44) (v := ?_) (a' := ?_) #[true, true, true, true, true, true, true, true, false, false, false] rfl rfl (by kernel_rfl) (fun _ _ _ h => h) (Or.inl ⟨by rfl, ?_⟩) ?_ ?_
        rotate_left
        · intro w'
          go_simp
          with_reducible rfl
        rotate_left
        · simp only [Act.put, List.setIfInBounds_toArray, List.set_cons_zero, List.set_cons_succ, i64_w, i32_w]
          rfl
        refine pure_ (i := 8) (N := some 45) (v := ?_) (a' := ?_) #[true, true, true, true, true, true, true, true, true, false, false] rfl rfl (by kernel_rfl) (fun _ _ _ h => h) (Or.inl ⟨by rfl, ?_⟩) ?_ ?_
        rotate_left
        · intro w'
          go_simp
          with_reducible rfl
        rotate_left
        · simp only [Act.put, List.setIfInBounds_toArray, List.set_cons_zero, List.set_cons_succ, i64_w, i32_w]
          rfl
        refine pure_ (i := 9) (N := some 7) (v := ?_) (a' := ?_) #[true, true, true, true, true, true, true, true, true, true, false] rfl rfl (by kernel_rfl) (fun _ _ _ h => h) (Or.inl ⟨by rfl, ?_⟩) ?_ ?_
        rotate_left
        · intro w'
          go_simp
          with_reducible rfl
        rotate_left
        · simp only [Act.put, List.setIfInBounds_toArray, List.set_cons_zero, List.set_cons_succ, i64_w, i32_w]
          rfl
        refine pure_ (i := 10) (N := some 8) (v := ?_) (a' := ?_) #[true, true, true, true, true, true, true, true, true, true, true] rfl rfl (by kernel_rfl) (fun _ _ _ h => h) (Or.inl ⟨by rfl, ?_⟩) ?_ ?_
        rotate_left
        · intro w'
          go_simp
          with_reducible rfl
        rotate_left
        · simp only [Act.put, List.setIfInBounds_toArray, List.set_cons_zero, List.set_cons_succ, i64_w, i32_w]
          rfl
        refine done_ (by kernel_rfl) ?_

        have HSP := Lib.hid hHeld.2.2.1
        have HQ := Lib.hid hHeld.2.2.2.1
        clear hHeld hc
        go_wp2_with fail
        refine (HFD.out _ h B q HSP.out HQ.out HHB.out (by rw [← HN.out]; omega) (H5.out _ HB.out).2.2.2).mono ?_
        rintro e w9 ⟨rfl, q', hsp, hq, hb⟩
        have HSP := Lib.hid hsp; clear hsp
        have HQ := Lib.hid hq; clear hq
        have HB := Lib.hid (HB.out.trans hb); clear hb
        go_wp2
        go_roundw
        case rel => exact ⟨i + 1, n, q', by go_num, rfl, hlt, HN1.out, HSP.out, HQ.out, HB.out⟩
        case measure => first | exact fb_meas hlt hw | exact fb_meas2 hlt
    · obtain rfl : i = len := Nat.le_antisymm hi (Nat.not_lt.1 hlt)
      have HTL := Lib.hid (show ps.take i = ps from List.take_of_length_le (Nat.le_of_eq HPL.out))
      have HNN := Lib.hid (show n = (goodL ps).length by rw [HN.out, HTL.out])
      have HR := Lib.hid (show Rest _ B q (goodL ps) 0 by rw [← HTL.out]; exact HQ.out.rest)
      have hgl := good_len' ps
      have HGL := Lib.hid (show (goodL ps).length ≤ 8 by rw [HPL.out] at hgl; omega)
      clear HQ HN hgl hlt
      obtain ⟨wo, rfl⟩ : ∃ wo : World, wo = wr := ⟨_, rfl⟩
      go_wp2
      go_loopw [5, 9] (fun v5 v9 wr => ∃ (j m : Nat) (q : Value), v9 = .int .i64 j ∧ v5 = .int .i64 m ∧ j ≤ i ∧ m + (goodL (ps.take j)).length = (goodL ps).length ∧ IsSp T wr h ⟨#[]⟩ q false ∧ Rest wr B q (goodL ps) (goodL (ps.take j)).length ∧ Below B w5 wr) (fun _ v9 _ => i - (intOf v9).toNat)
      case atStart => exact ⟨0, n, q, rfl, rfl, Nat.zero_le _, HNN.out, HSP.out, HR.out, HB.out⟩
      case round =>
        clear HSP HR HB HNN hn8
        obtain ⟨j, m, q, rfl, rfl, hj, hm, hsp, hr, hb⟩ := hrel
        have HSP := Lib.hid hsp; clear hsp
        have HR := Lib.hid hr; clear hr
        have HB := Lib.hid hb; clear hb
        have HM := Lib.hid hm
        have hm8 : m ≤ 8 := by have := HGL.out; omega
        clear hm
        by_cases hlt : j < i
        · obtain ⟨hgt, hbw, hargs, hBs⟩ := H5.out _ HB.out
          obtain ⟨b0, off, rfl, hb0, hcell⟩ := HA.out.2.2 (by omega)
          have hil : j < ps.length := by rw [HPL.out]; exact hlt
          have hc := (hbw.cell (p := ⟨b0, off + j, none⟩) hb0).trans (hcell j hil)
          obtain ⟨p, hp⟩ : ∃ p, ps[j] = p := ⟨_, rfl⟩
          rw [hp] at hc
          have HT := Lib.hid (good_take ps j hil p hp)
          have HG := Lib.hid (good_get ps j hil p hp)
          have hw := fb_up hlt h8
          have HX := Lib.hid (And.intro hbw hBs)
          clear hcell hargs hbw hp hil hgt hBs
          by_cases hok : okP p = true
          · rw [if_pos hok] at HT
            have hok' : 1 ≤ p.size ∧ p.size ≤ 4000 := by
              unfold okP at hok
              simpa using hok
            obtain ⟨hjl, hgj⟩ := HG.out hok
            have x1 : decide ((p.size : Int) < 1) = false := by simp; omega
            have x2 : decide (4000 < (p.size : Int)) = false := by simp; omega
            have y1 : ¬ p.size < 1 := by omega
            have y2 : ¬ 4000 < p.size := by omega
            have N := next_some HSP.out HR.out hjl HHB.out (Nat.le_trans HGL.out (by decide))
            rw [hgj] at N
            have HM1 := Lib.hid (show 1 ≤ m ∧ (m - 1) + (goodL (ps.take (j + 1))).length = (goodL ps).length by
              have := HM.out
              have h2 := good_len ps (j + 1)
              rw [HT.out, List.length_append, List.length_singleton] at h2 ⊢
              omega)
            have hmw : wrap64 ((m : Int) - 1) = ((m - 1 : Nat) : Int) := fb_down HM1.out.1 hm8
            have HJ := Lib.hid (show (goodL (ps.take j)).length + 1 = (goodL (ps.take (j + 1))).length by rw [HT.out, List.length_append]; rfl)
            go_wp2_with fail
            refine N.mono ?_
            clear N hjl hgj
            rintro e w9 ⟨rfl, q', hsp, hr, hb⟩
            have HSP := Lib.hid hsp; clear hsp
            rw [HJ.out] at hr
            have HR := Lib.hid hr; clear hr
            have hc := (hb.cell (p := ⟨b0, off + j, none⟩) (Nat.lt_of_lt_of_le hb0 HWB.out)).trans hc
            have HB := Lib.hid (HB.out.trans hb); clear hb
            go_wp2
            go_roundw
            case rel => exact ⟨j + 1, m - 1, q', by go_num, by first | rfl | rw [hmw] | (have h1m := HM1.out.1; clear hmw hw; congr 1; omega), hlt, HM1.out.2, HSP.out, HR.out, HB.out⟩
            case measure => first | exact fb_meas hlt hw | exact fb_meas2 hlt
          · rw [if_neg hok, List.append_nil] at HT
            have hok' : p.size < 1 ∨ 4000 < p.size := by
              unfold okP at hok
              simp at hok
              omega
            have HM1 := Lib.hid (show m + (goodL (ps.take (j + 1))).length = (goodL ps).length by rw [HT.out]; exact HM.out)
            have HR1 := Lib.hid (show Rest _ B q (goodL ps) (goodL (ps.take (j + 1))).length by rw [HT.out]; exact HR.out)
            by_cases h1 : p.size < 1
            · have x1 : decide ((p.size : Int) < 1) = true := by simp; omega
              go_wp2
              go_roundw
              case rel => exact ⟨j + 1, m, q, by go_num, rfl, hlt, HM1.out, HSP.out, HR1.out, HB.out⟩
              case measure => first | exact fb_meas hlt hw | exact fb_meas2 hlt
            · have x1 : decide ((p.size : Int) < 1) = false := by simp; omega
              have y2 : 4000 < p.size := by omega
              have x2 : decide (4000 < (p.size : Int)) = true := by simp; omega
              go_wp2
              go_roundw
              case rel => exact ⟨j + 1, m, q, by go_num, rfl, hlt, HM1.out, HSP.out, HR1.out, HB.out⟩
              case measure => first | exact fb_meas hlt hw | exact fb_meas2 hlt
        · obtain rfl : j = i := Nat.le_antisymm hj (Nat.not_lt.1 hlt)
          have hm0 : m = 0 := by have := HM.out; rw [HTL.out] at this; omega
          subst hm0
          have N := next_none HSP.out HR.out (by rw [HTL.out]; exact Nat.lt_irrefl _)
          have NB := sp_broken HSP.out
          have NW := sp_waiting HSP.out
          have HX := Lib.hid (H5.out _ HB.out).2.1
          go_wp2_with fail
          refine N.mono ?_
          rintro e w9 ⟨rfl, rfl⟩
          go_wp2_with fail
          refine NB.mono ?_
          rintro e w9 ⟨rfl, rfl⟩
          go_wp2_with fail
          refine NW.mono ?_
          rintro e w9 ⟨rfl, rfl⟩
          go_wp2
          go_ret
          exact ⟨rfl, HX.out⟩
theorem strs_opens {H : Type} {enc : TypeId × Value → H} {w : World} {base : Nat} {spare : Nat → Bool} {held : Bool} :
    Opens enc Try.prog w base spare held 32 fun (l : List ByteArray) cs => ∃ A len cap, cs = [.slice A len cap] ∧ len ≤ cap ∧ cap ≤ maxLen ∧ len * Try.prog.bytesOf 9 ≤ 140737488351232 ∧ RowSays w (Try.prog.cellsOf 9) (fun b cs => cs = [.string b] ∧ b.size ≤ 140737488351232) A len l :=
  opens_slice Try.underlying32 (by decide +kernel) (opens_string Try.underlying9)
theorem frame_back_walk (A : Option Addr) (len cap : Nat) (l : List ByteArray) (W : World) (_ : len ≤ cap) (hb : len * Try.prog.bytesOf 9 ≤ 140737488351232)
    (hl : RowSays W (Try.prog.cellsOf 9) (fun b cs => cs = [.string b] ∧ b.size ≤ 140737488351232) A len l) :
    Calls Try.prog 4 #[.slice A len cap] W fun e w' => e = .returned (.bool true) ∧ Below W.heap.size W w' := by
  have e1 : Try.prog.cellsOf 9 = 1 := by kernel_rfl
  rw [e1] at hl
  by_cases h8 : 8 < len
  · exact frame_back_big A len cap W h8
  · refine frame_back_law A len cap l W ⟨hl.1, fun p hp => ?_, fun h => ?_⟩ (by omega)
    · obtain ⟨j, hj, rfl⟩ := List.getElem_of_mem hp
      obtain ⟨b, off, a, c, _, _, h2, _, h3, _⟩ := hl.get j (by rw [← hl.1]; exact hj)
      rw [List.getElem?_eq_getElem hj] at h2
      obtain rfl : l[j] = a := by simpa using h2
      exact h3.2
    · obtain ⟨b, off, rfl, hlt, hc⟩ := hl.2 h
      refine ⟨b, off, rfl, hlt, fun j hj => ?_⟩
      obtain ⟨c, _, ⟨rfl, _⟩, h4⟩ := hc j hj
      have := h4 0 _ rfl
      simpa using this
end Go.Proofs.Ythooihkkghfhkaa.My
