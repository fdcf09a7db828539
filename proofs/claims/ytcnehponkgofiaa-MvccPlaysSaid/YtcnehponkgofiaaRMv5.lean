/- isoglossref11.Store: Install. -/
import Derived.Test.YtcnehponkgofiaaRMv4
namespace Go.Proofs.Ytcnehponkgofiaa.My
set_option linter.unusedSimpArgs false
set_option linter.unusedVariables false
open Go.RowKit Go.Proofs.YtcnehponkgofiaaW.PrintWords Go.Proofs.YtcnehponkgofiaaW.PrintLast Go.Proofs.Ytcnehponkgofiaa.Pm

def rErr (L : List ItT) (key : ByteArray) (x : VerT) : Nat :=
  if ¬ (key.size ≤ 100 ∧ x.2.2.size ≤ 500) then 3 else if x.1 = 0 ∨ (x.2.1 = true ∧ x.2.2.size ≠ 0) then 1 else if x.1 ≤ (rLast L key).1 then 8 else if 200 ≤ (rLast L key).2 then 11 else 0
def rInst (L : List ItT) (key : ByteArray) (x : VerT) : List ItT := if rErr L key x = 0 then L ++ [(key, x)] else L
theorem itC_one (p : ItT) : ∀ u ∈ itC p, u.oneCell' = true := by
  intro u hu
  simp only [itC, List.mem_cons, List.not_mem_nil, or_false] at hu
  rcases hu with rfl | rfl | rfl | rfl <;> rfl
theorem info_it : (Try.prog.info? 27).map (fun i => (i.zero, i.size, i.bytes)) = some (some (.agg #[.string ⟨#[]⟩, .int .u64 0, .bool false, .string ⟨#[]⟩]), 4, 48) := by kernel_rfl
set_option maxRecDepth 100000 in
set_option maxHeartbeats 4000000 in
theorem rinst_any (A : Option Addr) (n c : Nat) (L : List ItT) (key : ByteArray) (x0 : Nat) (x1 : Bool) (x2 : ByteArray) (w : World) (hA : RowF w 4 itC A n L) (hn : n ≤ 1000) (hks : key.size ≤ 140737488351232) (hxs : x2.size ≤ 140737488351232) :
    Calls Try.prog 14 #[.agg #[.slice A n c], .string key, .agg #[.int .u64 (x0 : Int), .bool x1, .string x2]] w fun e w' => ∃ A' c', e = .returned (.tuple #[.agg #[.slice A' (rInst L key (x0, x1, x2)).length c'], .int .i64 (rErr L key (x0, x1, x2) : Nat)]) ∧ ((rErr L key (x0, x1, x2) ≠ 0 ∧ A' = A ∧ c' = c) ∨ (rErr L key (x0, x1, x2) = 0 ∧ OwnF w' w.heap.size 27 4 itC (.slice A' (rInst L key (x0, x1, x2)).length c') (rInst L key (x0, x1, x2)))) ∧ Below w.heap.size w w' := by
  have HA := Lib.hid hA; clear hA
  have HL := Lib.hid HA.out.1
  have HB := Lib.hid (show Below w.heap.size w (((w.alloc (.cells #[.slice A n c] 44)).alloc (.cells #[.int .u64 (x0 : Int), .bool x1, .string x2] 25)).alloc (.cells #[.slice none 0 0] 44)) from below_alloc (below_alloc (below_alloc (Below.refl _ w) _) _) _)
  have H0 := Lib.hid (show (((w.alloc (.cells #[.slice A n c] 44)).alloc (.cells #[.int .u64 (x0 : Int), .bool x1, .string x2] 25)).alloc (.cells #[.slice none 0 0] 44)).heap[w.heap.size]? = some (.cells #[.slice A n c] 44) from blk_alloc (blk_alloc (blk_new w _) _) _)
  have H1 := Lib.hid (show (((w.alloc (.cells #[.slice A n c] 44)).alloc (.cells #[.int .u64 (x0 : Int), .bool x1, .string x2] 25)).alloc (.cells #[.slice none 0 0] 44)).heap[w.heap.size + 1]? = some (.cells #[.int .u64 (x0 : Int), .bool x1, .string x2] 25) from blk_alloc (row_new (w.alloc (.cells #[.slice A n c] 44)) _ (by simp)) _)
  have H2 := Lib.hid (show (((w.alloc (.cells #[.slice A n c] 44)).alloc (.cells #[.int .u64 (x0 : Int), .bool x1, .string x2] 25)).alloc (.cells #[.slice none 0 0] 44)).heap[w.heap.size + 1 + 1]? = some (.cells #[.slice none 0 0] 44) from row_new ((w.alloc (.cells #[.slice A n c] 44)).alloc (.cells #[.int .u64 (x0 : Int), .bool x1, .string x2] 25)) _ (by simp))
  have HRL := Lib.hid (rlast_any A n c L key (((w.alloc (.cells #[.slice A n c] 44)).alloc (.cells #[.int .u64 (x0 : Int), .bool x1, .string x2] 25)).alloc (.cells #[.slice none 0 0] 44)) (HA.out.below HB.out) hn)
  have hgl := rLast_le key L n (by rw [HL.out]; exact Nat.le_refl _)
  rw [List.take_of_length_le (by rw [HL.out]; exact Nat.le_refl _)] at hgl
  obtain ⟨⟨lt, ln⟩, hlast⟩ : ∃ y, rLast L key = y := ⟨_, rfl⟩
  rw [hlast] at HRL hgl
  have HLS := Lib.hid hlast; clear hlast
  go_enter Try.func14, Try.ntmps14
  go_wp2_with fail
  refine HRL.out.mono ?_
  rintro e w1 ⟨rfl, hb⟩
  replace H0 := Lib.hid (blk_below H0.out hb)
  replace H1 := Lib.hid (blk_below H1.out hb)
  replace H2 := Lib.hid (blk_below H2.out hb)
  replace HB := Lib.hid (HB.out.trans (hb.mono HB.out.size)); clear hb HRL
  have g0 : w1.cell? ⟨w.heap.size, 0, none⟩ = some (.slice A n c) := (blk_cell H0.out 0).trans rfl
  have c0 : w1.cell? ⟨w.heap.size + 1, 0, none⟩ = some (.int .u64 (x0 : Int)) := (blk_cell H1.out 0).trans rfl
  have c1 : w1.cell? ⟨w.heap.size + 1, 1, none⟩ = some (.bool x1) := (blk_cell H1.out 1).trans rfl
  have c2 : w1.cell? ⟨w.heap.size + 1, 2, none⟩ = some (.string x2) := (blk_cell H1.out 2).trans rfl
  have r0 : w1.cell? ⟨w.heap.size + 1 + 1, 0, none⟩ = some (.slice none 0 0) := (blk_cell H2.out 0).trans rfl
  have f0 := blk_frozen H2.out 0
  have HKX := Lib.hid (And.intro hks hxs)
  have HN0 := Lib.hid hn
  have HSW := Lib.hid HB.out.size
  clear hgl hks hxs hn
  by_cases h1 : 100 < key.size
  · have y1 : decide (100 < (key.size : Int)) = true := by simp; omega
    have y1n := decide_eq_true h1
    have HE := Lib.hid (show rErr L key (x0, x1, x2) = 3 from by unfold rErr; rw [HLS.out]; exact if_pos (by show ¬ (key.size ≤ 100 ∧ x2.size ≤ 500); omega))
    have HI := Lib.hid (show rInst L key (x0, x1, x2) = L by unfold rInst; rw [HE.out, if_neg (by decide)])
    go_wp2
    refine bodyPost_ret (res_ct (a := ⟨?g1, 0, none⟩) (v := .agg ?cs1) rfl ?hp1 (load_row (g := ?g1) (cs := ?cs1) (t := ?t1) (fr := ?fr1) ?hrow1 _ _ Try.underlying44 rfl ?hi1)) rfl ?_
    case hp1 => rfl
    case hrow1 => (refine blk_set H2.out 0 _ <;> simp only [Go.Deep.nblk_alloc])
    case hi1 => exact (by kernel_rfl)
    rw [HE.out, HI.out, HL.out]
    exact ⟨A, c, rfl, .inl ⟨by decide, rfl, rfl⟩, below_setc' HB.out (by simp; omega) _⟩
  have y1 : decide (100 < (key.size : Int)) = false := by simp; omega
  have y1n := decide_eq_false h1
  by_cases h2 : 500 < x2.size
  · have y2 : decide (500 < (x2.size : Int)) = true := by simp; omega
    have y2n := decide_eq_true h2
    have HE := Lib.hid (show rErr L key (x0, x1, x2) = 3 from by unfold rErr; rw [HLS.out]; exact if_pos (by show ¬ (key.size ≤ 100 ∧ x2.size ≤ 500); omega))
    have HI := Lib.hid (show rInst L key (x0, x1, x2) = L by unfold rInst; rw [HE.out, if_neg (by decide)])
    go_wp2
    refine bodyPost_ret (res_ct (a := ⟨?g1, 0, none⟩) (v := .agg ?cs1) rfl ?hp1 (load_row (g := ?g1) (cs := ?cs1) (t := ?t1) (fr := ?fr1) ?hrow1 _ _ Try.underlying44 rfl ?hi1)) rfl ?_
    case hp1 => rfl
    case hrow1 => (refine blk_set H2.out 0 _ <;> simp only [Go.Deep.nblk_alloc])
    case hi1 => exact (by kernel_rfl)
    rw [HE.out, HI.out, HL.out]
    exact ⟨A, c, rfl, .inl ⟨by decide, rfl, rfl⟩, below_setc' HB.out (by simp; omega) _⟩
  have y2 : decide (500 < (x2.size : Int)) = false := by simp; omega
  have y2n := decide_eq_false h2
  have HF := Lib.hid (show ¬ ¬ (key.size ≤ 100 ∧ x2.size ≤ 500) by omega)
  by_cases h3 : x0 = 0
  · have x3 : ((x0 : Int) == 0) = true := beq_iff_eq.2 (by omega)
    have x3n : (x0 == 0) = true := by simpa using h3
    have HE := Lib.hid (show rErr L key (x0, x1, x2) = 1 from by unfold rErr; rw [HLS.out]; exact (if_neg HF.out).trans (if_pos (.inl h3)))
    have HI := Lib.hid (show rInst L key (x0, x1, x2) = L by unfold rInst; rw [HE.out, if_neg (by decide)])
    go_wp2
    refine bodyPost_ret (res_ct (a := ⟨?g1, 0, none⟩) (v := .agg ?cs1) rfl ?hp1 (load_row (g := ?g1) (cs := ?cs1) (t := ?t1) (fr := ?fr1) ?hrow1 _ _ Try.underlying44 rfl ?hi1)) rfl ?_
    case hp1 => rfl
    case hrow1 => (refine blk_set H2.out 0 _ <;> simp only [Go.Deep.nblk_alloc])
    case hi1 => exact (by kernel_rfl)
    rw [HE.out, HI.out, HL.out]
    exact ⟨A, c, rfl, .inl ⟨by decide, rfl, rfl⟩, below_setc' HB.out (by simp; omega) _⟩
  have x3 : ((x0 : Int) == 0) = false := beq_eq_false_iff_ne.2 (by omega)
  have x3n : (x0 == 0) = false := by simpa using h3
  have z3 := str_ne x2
  have z4 := str_e x2
  cases x1 with
  | false =>
    have HG := Lib.hid (show ¬ (x0 = 0 ∨ (false = true ∧ x2.size ≠ 0)) from (by rintro (h | ⟨h, _⟩); exact h3 h; cases h))
    by_cases h5 : x0 ≤ lt
    · have x5 : decide ((x0 : Int) ≤ (lt : Int)) = true := by simp; omega
      have x5n := decide_eq_true h5
      have HE := Lib.hid (show rErr L key (x0, false, x2) = 8 from by unfold rErr; rw [HLS.out]; exact (if_neg HF.out).trans ((if_neg HG.out).trans (if_pos h5)))
      have HI := Lib.hid (show rInst L key (x0, false, x2) = L by unfold rInst; rw [HE.out, if_neg (by decide)])
      go_wp2
      refine bodyPost_ret (res_ct (a := ⟨?g1, 0, none⟩) (v := .agg ?cs1) rfl ?hp1 (load_row (g := ?g1) (cs := ?cs1) (t := ?t1) (fr := ?fr1) ?hrow1 _ _ Try.underlying44 rfl ?hi1)) rfl ?_
      case hp1 => rfl
      case hrow1 => (refine blk_set H2.out 0 _ <;> simp only [Go.Deep.nblk_alloc])
      case hi1 => exact (by kernel_rfl)
      rw [HE.out, HI.out, HL.out]
      exact ⟨A, c, rfl, .inl ⟨by decide, rfl, rfl⟩, below_setc' HB.out (by simp; omega) _⟩
    have x5 : decide ((x0 : Int) ≤ (lt : Int)) = false := by simp; omega
    have x5n := decide_eq_false h5
    by_cases h6 : 200 ≤ ln
    · have x6 : decide ((200 : Int) ≤ (ln : Int)) = true := by simp; omega
      have x6n := decide_eq_true h6
      have HE := Lib.hid (show rErr L key (x0, false, x2) = 11 from by unfold rErr; rw [HLS.out]; exact (if_neg HF.out).trans ((if_neg HG.out).trans ((if_neg h5).trans (if_pos h6))))
      have HI := Lib.hid (show rInst L key (x0, false, x2) = L by unfold rInst; rw [HE.out, if_neg (by decide)])
      go_wp2
      refine bodyPost_ret (res_ct (a := ⟨?g1, 0, none⟩) (v := .agg ?cs1) rfl ?hp1 (load_row (g := ?g1) (cs := ?cs1) (t := ?t1) (fr := ?fr1) ?hrow1 _ _ Try.underlying44 rfl ?hi1)) rfl ?_
      case hp1 => rfl
      case hrow1 => (refine blk_set H2.out 0 _ <;> simp only [Go.Deep.nblk_alloc])
      case hi1 => exact (by kernel_rfl)
      rw [HE.out, HI.out, HL.out]
      exact ⟨A, c, rfl, .inl ⟨by decide, rfl, rfl⟩, below_setc' HB.out (by simp; omega) _⟩
    have x6 : decide ((200 : Int) ≤ (ln : Int)) = false := by simp; omega
    have x6n := decide_eq_false h6
    have HE := Lib.hid (show rErr L key (x0, false, x2) = 0 from by unfold rErr; rw [HLS.out]; exact (if_neg HF.out).trans ((if_neg HG.out).trans ((if_neg h5).trans (if_neg h6))))
    have HI := Lib.hid (show rInst L key (x0, false, x2) = L ++ [(key, x0, false, x2)] by unfold rInst; rw [if_pos HE.out])
    have hl0 := blk_lt H0.out
    have hl1 := blk_lt H1.out
    have hl2 := blk_lt H2.out
    go_wp2
    clear y1 y1n y2 y2n x3 x3n z3 z4 x5 x5n x6 x6n h1 h2 h3 h5 h6
    refine start_ (n := 12) (S := fun w' => Below w1.heap.size w1 w' ∧ w'.cell? ⟨w.heap.size, 0, none⟩ = some (.slice A n c) ∧ w'.heap[w.heap.size + 1]? = some (.cells #[.int .u64 (x0 : Int), .bool false, .string x2] 25 (0, 0)) ∧ w'.heap[w.heap.size + 1 + 1]? = some (.cells #[.slice none 0 0] 44 (0, 0))) (ds := [8, 10]) #[false, false, false, false, false, false, false, false, false, false, false, false] (by kernel_rfl) rfl rfl ⟨(below_drew (Below.refl _ _)), g0, (blk_drew H1.out), (blk_drew H2.out)⟩ (fun hHeld => ?_)
    refine pure_ (i := 1) (N := some 48) (v := ?_) (a' := ?_) #[false, true, false, false, false, false, false, false, false, false, false, false] rfl rfl (by kernel_rfl) (fun _ _ _ h => h) (Or.inl ⟨by rfl, ?_⟩) ?_ ?_
    rotate_left
    · intro w'
      go_simp
      with_reducible rfl
    rotate_left
    · simp only [Act.put, List.setIfInBounds_toArray, List.set_cons_zero, List.set_cons_succ, i64_w, i32_w]
      rfl
    refine pure_ (i := 4) (N := some 51) (v := ?_) (a' := ?_) #[false, true, false, false, true, false, false, false, false, false, false, false] rfl rfl (by kernel_rfl) (fun _ _ _ h => h) (Or.inl ⟨by rfl, ?_⟩) ?_ ?_
    rotate_left
    · intro w'
      go_simp
      with_reducible rfl
    rotate_left
    · simp only [Act.put, List.setIfInBounds_toArray, List.set_cons_zero, List.set_cons_succ, i64_w, i32_w]
      rfl
    refine take_ (i := 2) (N := some 49) (v := ?_) (a' := ?_) #[false, true, true, false, true, false, false, false, false, false, false, false] rfl rfl (by kernel_rfl) (fun _ _ _ h => h) (Or.inl ⟨by rfl, ?_⟩) hHeld ?_ ?_
    rotate_left
    · rintro w' ⟨s0, s1, s2, s3⟩
      go_simp
      with_reducible rfl
    rotate_left
    · simp only [Act.put, List.setIfInBounds_toArray, List.set_cons_zero, List.set_cons_succ, i64_w, i32_w]
      rfl
    refine take_ (i := 5) (N := some 52) (v := ?_) (a' := ?_) #[false, true, true, false, true, true, false, false, false, false, false, false] rfl rfl (by kernel_rfl) (fun _ _ _ h => h) (Or.inl ⟨by rfl, ?_⟩) hHeld ?_ ?_
    rotate_left
    · rintro w' ⟨s0, s1, s2, s3⟩
      refine run_row 25 (.tmp 5) ?_ (w.heap.size + 1) ?_ 25 #[.int .u64 (x0 : Int), .bool false, .string x2] (0, 0) _ s2 Try.underlying25 rfl (by kernel_rfl) <;> rfl
    rotate_left
    · simp only [Act.put, List.setIfInBounds_toArray, List.set_cons_zero, List.set_cons_succ, i64_w, i32_w]
      rfl
    refine pure_ (i := 6) (N := some 53) (v := ?_) (a' := ?_) #[false, true, true, false, true, true, true, false, false, false, false, false] rfl rfl (by kernel_rfl) (fun _ _ _ h => h) (Or.inl ⟨by rfl, ?_⟩) ?_ ?_
    rotate_left
    · intro w'
      go_simp
      with_reducible rfl
    rotate_left
    · simp only [Act.put, List.setIfInBounds_toArray, List.set_cons_zero, List.set_cons_succ, i64_w, i32_w]
      rfl
    refine join_ (σ := Value × Nat × Nat) 4 #[true, true, true, true, true, true, true, true, false, false, false, false] (fun s => [(47, .slice (some ⟨s.2.2, 0, none⟩) 0 0), (50, s.1), (54, .slice (some ⟨s.2.1, 0, none⟩) 1 1)]) (fun s w' => (Below w1.heap.size w1 w' ∧ w'.cell? ⟨w.heap.size, 0, none⟩ = some (.slice A n c) ∧ w'.heap[w.heap.size + 1]? = some (.cells #[.int .u64 (x0 : Int), .bool false, .string x2] 25 (0, 0)) ∧ w'.heap[w.heap.size + 1 + 1]? = some (.cells #[.slice none 0 0] 44 (0, 0))) ∧ OwnF w' w1.heap.size 27 4 itC s.1 L ∧ w'.heap[s.2.1]? = some (.cells #[.string key, .int .u64 (x0 : Int), .bool false, .string x2] 27 (0, 0))) ?_ ?_
    rotate_left
    · intro hCont
      refine two_ (i := 0) (j := 7) (Ni := some 47) (Nj := some 54) #[true, true, true, false, true, true, true, false, false, false, false, false] #[false, true, true, false, true, true, true, true, false, false, false, false] rfl rfl rfl rfl (by kernel_rfl) (by decide) (by decide) (fun K hK => ?_) (fun K hK => ?_)
      · skip
        refine value_ (w1 := ?_) (v := ?_) (by rfl) rfl ?_ ?_
        rotate_left 2
        · go_simp
          constructor
          · rfl
          · rfl
        have HN := Lib.hid (hHeld.1.alloc hHeld.1.size (.cells #[] 27))
        have H47 := Lib.hid (row_new w1.drew (.cells #[] 27) (n := w1.heap.size) (by simp))
        refine hK.out _ _ ⟨HN.out, (HN.out.cell (p := ⟨w.heap.size, 0, none⟩) hl0).trans g0, (HN.out.block _ hl1).trans H1.out, (HN.out.block _ hl2).trans H2.out⟩ (fun hHeld => ?_)
        clear hK K
        refine norm_ (a' := ?_) ?_ ?_
        rotate_left
        · show Act.put _ (some 47) _ = _
          simp only [Act.put, List.setIfInBounds_toArray, List.set_cons_zero, List.set_cons_succ, i64_w, i32_w]
          rfl
        refine two_ (i := 3) (j := 7) (Ni := some 50) (Nj := some 54) #[true, true, true, true, true, true, true, false, false, false, false, false] #[true, true, true, false, true, true, true, true, false, false, false, false] rfl rfl rfl rfl (by kernel_rfl) (by decide) (by decide) (fun K hK => ?_) (fun K hK => ?_)
        · skip
          have HEM := Lib.hid (OwnF.empty (base := w1.heap.size) H47.out (by omega) 4 itC)
          obtain ⟨v50, w50, hr50, ho50, hg50, -⟩ := run_app_rows (P := Try.prog) (base := w1.heap.size) (xs := ([] : List ItT)) 22 22 Try.underlying22 info_it rfl (by decide) (by decide) itC_len itC_one HEM.out (c := c) (HA.out.below (HB.out.trans (hHeld.1.mono HSW.out))) hHeld.1.size (by have := HN0.out; simp only [List.length_nil]; omega)
          rw [List.nil_append] at ho50
          have HO50 := Lib.hid ho50; clear ho50
          have HN := Lib.hid (hHeld.1.grown hg50 hHeld.1.size (fun q hq => (HEM.out.block_ge q hq).1))
          refine step_app (by rfl) (.tmp 47) (.tmp 49) 22 rfl rfl rfl hr50 ?_
          refine hK.out _ _ ⟨HN.out, (HN.out.cell (p := ⟨w.heap.size, 0, none⟩) hl0).trans g0, (HN.out.block _ hl1).trans H1.out, (HN.out.block _ hl2).trans H2.out⟩ (fun hHeld => ?_)
          clear hK K
          refine norm_ (a' := ?_) ?_ ?_
          rotate_left
          · show Act.put _ (some 50) _ = _
            simp only [Act.put, List.setIfInBounds_toArray, List.set_cons_zero, List.set_cons_succ, i64_w, i32_w]
            rfl
          refine one_ (i := 7) (N := some 54) #[true, true, true, true, true, true, true, true, false, false, false, false] rfl rfl (by kernel_rfl) (by decide) (fun K hK => ?_)
          refine value_ (w1 := ?_) (v := ?_) (by rfl) rfl ?_ ?_
          rotate_left 2
          · go_simp
            constructor
            · rfl
            · rfl
          have HN := Lib.hid (hHeld.1.alloc hHeld.1.size (.cells #[.string key, .int .u64 (x0 : Int), .bool false, .string x2] 27))
          have H54 := Lib.hid (row_new w50 (.cells #[.string key, .int .u64 (x0 : Int), .bool false, .string x2] 27) (n := w50.heap.size) (by simp))
          replace HO50 := Lib.hid (HO50.out.below (below_alloc (Below.refl _ _) (.cells #[.string key, .int .u64 (x0 : Int), .bool false, .string x2] 27)))
          refine hK.out _ _ ⟨HN.out, (HN.out.cell (p := ⟨w.heap.size, 0, none⟩) hl0).trans g0, (HN.out.block _ hl1).trans H1.out, (HN.out.block _ hl2).trans H2.out⟩ (fun hHeld => ?_)
          clear hK K
          refine norm_ (a' := ?_) ?_ ?_
          rotate_left
          · show Act.put _ (some 54) _ = _
            simp only [Act.put, List.setIfInBounds_toArray, List.set_cons_zero, List.set_cons_succ, i64_w, i32_w]
            rfl
          exact norm_ (by simp only [putAll, Act.put, List.setIfInBounds_toArray, List.set_cons_zero, List.set_cons_succ]) (hCont (v50, w50.heap.size, w1.heap.size) _ ⟨hHeld, HO50.out, H54.out⟩)
        · skip
          refine value_ (w1 := ?_) (v := ?_) (by rfl) rfl ?_ ?_
          rotate_left 2
          · go_simp
            constructor
            · rfl
            · rfl
          have HN := Lib.hid (hHeld.1.alloc hHeld.1.size (.cells #[.string key, .int .u64 (x0 : Int), .bool false, .string x2] 27))
          have H54 := Lib.hid (row_new (w1.drew.alloc (.cells #[] 27)) (.cells #[.string key, .int .u64 (x0 : Int), .bool false, .string x2] 27) (n := w1.heap.size + 1) (by simp))
          have H47 := Lib.hid (blk_alloc H47.out (.cells #[.string key, .int .u64 (x0 : Int), .bool false, .string x2] 27))
          refine hK.out _ _ ⟨HN.out, (HN.out.cell (p := ⟨w.heap.size, 0, none⟩) hl0).trans g0, (HN.out.block _ hl1).trans H1.out, (HN.out.block _ hl2).trans H2.out⟩ (fun hHeld => ?_)
          clear hK K
          refine norm_ (a' := ?_) ?_ ?_
          rotate_left
          · show Act.put _ (some 54) _ = _
            simp only [Act.put, List.setIfInBounds_toArray, List.set_cons_zero, List.set_cons_succ, i64_w, i32_w]
            rfl
          refine one_ (i := 3) (N := some 50) #[true, true, true, true, true, true, true, true, false, false, false, false] rfl rfl (by kernel_rfl) (by decide) (fun K hK => ?_)
          have HEM := Lib.hid (OwnF.empty (base := w1.heap.size) H47.out (by omega) 4 itC)
          obtain ⟨v50, w50, hr50, ho50, hg50, -⟩ := run_app_rows (P := Try.prog) (base := w1.heap.size) (xs := ([] : List ItT)) 22 22 Try.underlying22 info_it rfl (by decide) (by decide) itC_len itC_one HEM.out (c := c) (HA.out.below (HB.out.trans (hHeld.1.mono HSW.out))) hHeld.1.size (by have := HN0.out; simp only [List.length_nil]; omega)
          rw [List.nil_append] at ho50
          have HO50 := Lib.hid ho50; clear ho50
          have HN := Lib.hid (hHeld.1.grown hg50 hHeld.1.size (fun q hq => (HEM.out.block_ge q hq).1))
          replace H54 := Lib.hid (blk_grown H54.out hg50 (fun e => by have e : some (w1.heap.size + 1) = some (w1.heap.size) := e; injection e with e; omega))
          refine step_app (by rfl) (.tmp 47) (.tmp 49) 22 rfl rfl rfl hr50 ?_
          refine hK.out _ _ ⟨HN.out, (HN.out.cell (p := ⟨w.heap.size, 0, none⟩) hl0).trans g0, (HN.out.block _ hl1).trans H1.out, (HN.out.block _ hl2).trans H2.out⟩ (fun hHeld => ?_)
          clear hK K
          refine norm_ (a' := ?_) ?_ ?_
          rotate_left
          · show Act.put _ (some 50) _ = _
            simp only [Act.put, List.setIfInBounds_toArray, List.set_cons_zero, List.set_cons_succ, i64_w, i32_w]
            rfl
          exact norm_ (by simp only [putAll, Act.put, List.setIfInBounds_toArray, List.set_cons_zero, List.set_cons_succ]) (hCont (v50, w1.heap.size + 1, w1.heap.size) _ ⟨hHeld, HO50.out, H54.out⟩)
      · skip
        refine value_ (w1 := ?_) (v := ?_) (by rfl) rfl ?_ ?_
        rotate_left 2
        · go_simp
          constructor
          · rfl
          · rfl
        have HN := Lib.hid (hHeld.1.alloc hHeld.1.size (.cells #[.string key, .int .u64 (x0 : Int), .bool false, .string x2] 27))
        have H54 := Lib.hid (row_new w1.drew (.cells #[.string key, .int .u64 (x0 : Int), .bool false, .string x2] 27) (n := w1.heap.size) (by simp))
        refine hK.out _ _ ⟨HN.out, (HN.out.cell (p := ⟨w.heap.size, 0, none⟩) hl0).trans g0, (HN.out.block _ hl1).trans H1.out, (HN.out.block _ hl2).trans H2.out⟩ (fun hHeld => ?_)
        clear hK K
        refine norm_ (a' := ?_) ?_ ?_
        rotate_left
        · show Act.put _ (some 54) _ = _
          simp only [Act.put, List.setIfInBounds_toArray, List.set_cons_zero, List.set_cons_succ, i64_w, i32_w]
          rfl
        refine one_ (i := 0) (N := some 47) #[true, true, true, false, true, true, true, true, false, false, false, false] rfl rfl (by kernel_rfl) (by decide) (fun K hK => ?_)
        refine value_ (w1 := ?_) (v := ?_) (by rfl) rfl ?_ ?_
        rotate_left 2
        · go_simp
          constructor
          · rfl
          · rfl
        have HN := Lib.hid (hHeld.1.alloc hHeld.1.size (.cells #[] 27))
        have H47 := Lib.hid (row_new (w1.drew.alloc (.cells #[.string key, .int .u64 (x0 : Int), .bool false, .string x2] 27)) (.cells #[] 27) (n := w1.heap.size + 1) (by simp))
        have H54 := Lib.hid (blk_alloc H54.out (.cells #[] 27))
        refine hK.out _ _ ⟨HN.out, (HN.out.cell (p := ⟨w.heap.size, 0, none⟩) hl0).trans g0, (HN.out.block _ hl1).trans H1.out, (HN.out.block _ hl2).trans H2.out⟩ (fun hHeld => ?_)
        clear hK K
        refine norm_ (a' := ?_) ?_ ?_
        rotate_left
        · show Act.put _ (some 47) _ = _
          simp only [Act.put, List.setIfInBounds_toArray, List.set_cons_zero, List.set_cons_succ, i64_w, i32_w]
          rfl
        refine one_ (i := 3) (N := some 50) #[true, true, true, true, true, true, true, true, false, false, false, false] rfl rfl (by kernel_rfl) (by decide) (fun K hK => ?_)
        have HEM := Lib.hid (OwnF.empty (base := w1.heap.size) H47.out (by omega) 4 itC)
        obtain ⟨v50, w50, hr50, ho50, hg50, -⟩ := run_app_rows (P := Try.prog) (base := w1.heap.size) (xs := ([] : List ItT)) 22 22 Try.underlying22 info_it rfl (by decide) (by decide) itC_len itC_one HEM.out (c := c) (HA.out.below (HB.out.trans (hHeld.1.mono HSW.out))) hHeld.1.size (by have := HN0.out; simp only [List.length_nil]; omega)
        rw [List.nil_append] at ho50
        have HO50 := Lib.hid ho50; clear ho50
        have HN := Lib.hid (hHeld.1.grown hg50 hHeld.1.size (fun q hq => (HEM.out.block_ge q hq).1))
        replace H54 := Lib.hid (blk_grown H54.out hg50 (fun e => by have e : some (w1.heap.size) = some (w1.heap.size + 1) := e; injection e with e; omega))
        refine step_app (by rfl) (.tmp 47) (.tmp 49) 22 rfl rfl rfl hr50 ?_
        refine hK.out _ _ ⟨HN.out, (HN.out.cell (p := ⟨w.heap.size, 0, none⟩) hl0).trans g0, (HN.out.block _ hl1).trans H1.out, (HN.out.block _ hl2).trans H2.out⟩ (fun hHeld => ?_)
        clear hK K
        refine norm_ (a' := ?_) ?_ ?_
        rotate_left
        · show Act.put _ (some 50) _ = _
          simp only [Act.put, List.setIfInBounds_toArray, List.set_cons_zero, List.set_cons_succ, i64_w, i32_w]
          rfl
        exact norm_ (by simp only [putAll, Act.put, List.setIfInBounds_toArray, List.set_cons_zero, List.set_cons_succ]) (hCont (v50, w1.heap.size, w1.heap.size + 1) _ ⟨hHeld, HO50.out, H54.out⟩)
    rintro ⟨v50, g54, g47⟩ w7 ⟨hHeld, ho50, h54⟩
    have HO50 := Lib.hid ho50; clear ho50
    have H54 := Lib.hid h54; clear h54
    refine norm_ (a' := ?_) ?_ ?_
    rotate_left
    · simp only [putAll, Act.put, List.setIfInBounds_toArray, List.set_cons_zero, List.set_cons_succ]
      rfl
    refine last_ (i := 8) (N := some 55) #[true, true, true, true, true, true, true, true, true, false, false, false] rfl rfl (by kernel_rfl) (by decide) (fun K hK => ?_)
    obtain ⟨v55, w55, hr55, ho55, hg55, -⟩ := run_app_rows (P := Try.prog) (base := w1.heap.size) (W := w7) (xs := L) 22 22 Try.underlying22 info_it rfl (by decide) (by decide) itC_len itC_one HO50.out (c := 1) ((OwnF.one (base := 0) (f := itC) (x := (key, x0, false, x2)) H54.out (Nat.zero_le _) rfl rfl).row itC_len) hHeld.1.size (by have := HN0.out; rw [HL.out]; omega)
    obtain ⟨A7, c7, e7, _⟩ := ho55.slice_
    obtain ⟨m7, hm7⟩ : ∃ m, m = (L ++ [(key, x0, false, x2)]).length := ⟨_, rfl⟩
    rw [← hm7] at e7
    obtain rfl := e7
    have HM7 := Lib.hid hm7; clear hm7
    have HO55 := Lib.hid ho55; clear ho55
    have HN := Lib.hid (hHeld.1.grown hg55 hHeld.1.size (fun q hq => (HO50.out.block_ge q hq).1)); clear hg55
    refine step_app (by rfl) (.tmp 50) (.tmp 54) 22 rfl rfl rfl hr55 ?_
    refine hK.out _ _ ?_
    clear hK K
    refine norm_ (a' := ?_) ?_ ?_
    rotate_left
    · show Act.put _ (some 55) _ = _
      simp only [Act.put, List.setIfInBounds_toArray, List.set_cons_zero, List.set_cons_succ, i64_w, i32_w]
      rfl
    refine pure_ (i := 9) (N := some 56) (v := ?_) (a' := ?_) #[true, true, true, true, true, true, true, true, true, true, false, false] rfl rfl (by kernel_rfl) (fun _ _ _ h => h) (Or.inl ⟨by rfl, ?_⟩) ?_ ?_
    rotate_left
    · intro w'
      go_simp
      with_reducible rfl
    rotate_left
    · simp only [Act.put, List.setIfInBounds_toArray, List.set_cons_zero, List.set_cons_succ, i64_w, i32_w]
      rfl
    refine last_ (i := 10) (N := none) #[true, true, true, true, true, true, true, true, true, true, true, false] rfl rfl (by kernel_rfl) (by decide) (fun K hK => ?_)
    refine skip_ (w1 := w55.setRow (w.heap.size + 1 + 1) #[.slice A7 m7 c7]) (by rfl) rfl (by refine run_strow 44 (.tmp 6) (.tmp 56) ?_ (w.heap.size + 1 + 1) #[.slice A7 m7 c7] ?_ ?_ 44 _ ((HN.out.block _ hl2).trans H2.out) (by kernel_rfl) rfl (by simp [Value.oneCell']) <;> rfl) ?_
    refine hK.out _ _ ?_
    clear hK K
    refine pure_ (i := 11) (N := some 7) (v := ?_) (a' := ?_) #[true, true, true, true, true, true, true, true, true, true, true, true] rfl rfl (by kernel_rfl) (fun _ _ _ h => h) (Or.inl ⟨by rfl, ?_⟩) ?_ ?_
    rotate_left
    · intro w'
      go_simp
      with_reducible rfl
    rotate_left
    · simp only [Act.put, List.setIfInBounds_toArray, List.set_cons_zero, List.set_cons_succ, i64_w, i32_w]
      rfl
    refine done_ (by kernel_rfl) ?_

    have HG2 := Lib.hid ((HN.out.block _ hl2).trans H2.out)
    have HV := Lib.hid (setRow_heap w55 (w.heap.size + 1 + 1) _ #[.slice A7 m7 c7] _ _ HG2.out)
    have HBF := Lib.hid (show Below w.heap.size w (w55.setRow (w.heap.size + 1 + 1) #[.slice A7 m7 c7]) from (HB.out.trans (HN.out.mono HSW.out)).trans ((keeps_setRow (Keeps.refl (Only (w.heap.size + 1 + 1)) w55) (.inl rfl) _).to_below (Nat.le_trans HSW.out HN.out.size) (fun i hi => by cases hi; omega)))
    have HOF := Lib.hid (HO55.out.keep (w1 := w55.setRow (w.heap.size + 1 + 1) #[.slice A7 m7 c7]) fun x hx hlt => setRow_other w55 (w.heap.size + 1 + 1) x _ (fun e => HO55.out.ne_type HG2.out (by decide) (by rw [hx]; exact congrArg some e)))
    go_wp2
    refine bodyPost_ret (res_ct (a := ⟨?g5, 0, none⟩) (v := .agg ?cs5) rfl ?hp5 (load_row (g := ?g5) (cs := ?cs5) (t := ?t5) (fr := ?fr5) ?hrow5 _ _ Try.underlying44 rfl ?hi5)) rfl ?_
    case hp5 => rfl
    case hrow5 => exact HV.out
    case hi5 => exact (by kernel_rfl)
    rw [HE.out, HI.out, ← HM7.out]
    first | exact ⟨A7, ⟨c7, rfl⟩, .inr ⟨rfl, HOF.out.lower HSW.out⟩, HBF.out⟩ | exact ⟨A7, c7, rfl, .inr ⟨rfl, HOF.out.lower HSW.out⟩, HBF.out⟩
  | true =>
    by_cases h4 : x2.size = 0
    · rw [decide_eq_false (fun h => h h4)] at z3
      rw [decide_eq_true h4] at z4
      have HG := Lib.hid (show ¬ (x0 = 0 ∨ (true = true ∧ x2.size ≠ 0)) from (by rintro (h | ⟨_, h⟩); exact h3 h; exact h h4))
      by_cases h5 : x0 ≤ lt
      · have x5 : decide ((x0 : Int) ≤ (lt : Int)) = true := by simp; omega
        have x5n := decide_eq_true h5
        have HE := Lib.hid (show rErr L key (x0, true, x2) = 8 from by unfold rErr; rw [HLS.out]; exact (if_neg HF.out).trans ((if_neg HG.out).trans (if_pos h5)))
        have HI := Lib.hid (show rInst L key (x0, true, x2) = L by unfold rInst; rw [HE.out, if_neg (by decide)])
        go_wp2
        refine bodyPost_ret (res_ct (a := ⟨?g1, 0, none⟩) (v := .agg ?cs1) rfl ?hp1 (load_row (g := ?g1) (cs := ?cs1) (t := ?t1) (fr := ?fr1) ?hrow1 _ _ Try.underlying44 rfl ?hi1)) rfl ?_
        case hp1 => rfl
        case hrow1 => (refine blk_set H2.out 0 _ <;> simp only [Go.Deep.nblk_alloc])
        case hi1 => exact (by kernel_rfl)
        rw [HE.out, HI.out, HL.out]
        exact ⟨A, c, rfl, .inl ⟨by decide, rfl, rfl⟩, below_setc' HB.out (by simp; omega) _⟩
      have x5 : decide ((x0 : Int) ≤ (lt : Int)) = false := by simp; omega
      have x5n := decide_eq_false h5
      by_cases h6 : 200 ≤ ln
      · have x6 : decide ((200 : Int) ≤ (ln : Int)) = true := by simp; omega
        have x6n := decide_eq_true h6
        have HE := Lib.hid (show rErr L key (x0, true, x2) = 11 from by unfold rErr; rw [HLS.out]; exact (if_neg HF.out).trans ((if_neg HG.out).trans ((if_neg h5).trans (if_pos h6))))
        have HI := Lib.hid (show rInst L key (x0, true, x2) = L by unfold rInst; rw [HE.out, if_neg (by decide)])
        go_wp2
        refine bodyPost_ret (res_ct (a := ⟨?g1, 0, none⟩) (v := .agg ?cs1) rfl ?hp1 (load_row (g := ?g1) (cs := ?cs1) (t := ?t1) (fr := ?fr1) ?hrow1 _ _ Try.underlying44 rfl ?hi1)) rfl ?_
        case hp1 => rfl
        case hrow1 => (refine blk_set H2.out 0 _ <;> simp only [Go.Deep.nblk_alloc])
        case hi1 => exact (by kernel_rfl)
        rw [HE.out, HI.out, HL.out]
        exact ⟨A, c, rfl, .inl ⟨by decide, rfl, rfl⟩, below_setc' HB.out (by simp; omega) _⟩
      have x6 : decide ((200 : Int) ≤ (ln : Int)) = false := by simp; omega
      have x6n := decide_eq_false h6
      have HE := Lib.hid (show rErr L key (x0, true, x2) = 0 from by unfold rErr; rw [HLS.out]; exact (if_neg HF.out).trans ((if_neg HG.out).trans ((if_neg h5).trans (if_neg h6))))
      have HI := Lib.hid (show rInst L key (x0, true, x2) = L ++ [(key, x0, true, x2)] by unfold rInst; rw [if_pos HE.out])
      have hl0 := blk_lt H0.out
      have hl1 := blk_lt H1.out
      have hl2 := blk_lt H2.out
      go_wp2
      clear y1 y1n y2 y2n x3 x3n z3 z4 x5 x5n x6 x6n h1 h2 h3 h5 h6
      refine start_ (n := 12) (S := fun w' => Below w1.heap.size w1 w' ∧ w'.cell? ⟨w.heap.size, 0, none⟩ = some (.slice A n c) ∧ w'.heap[w.heap.size + 1]? = some (.cells #[.int .u64 (x0 : Int), .bool true, .string x2] 25 (0, 0)) ∧ w'.heap[w.heap.size + 1 + 1]? = some (.cells #[.slice none 0 0] 44 (0, 0))) (ds := [8, 10]) #[false, false, false, false, false, false, false, false, false, false, false, false] (by kernel_rfl) rfl rfl ⟨(below_drew (Below.refl _ _)), g0, (blk_drew H1.out), (blk_drew H2.out)⟩ (fun hHeld => ?_)
      refine pure_ (i := 1) (N := some 48) (v := ?_) (a' := ?_) #[false, true, false, false, false, false, false, false, false, false, false, false] rfl rfl (by kernel_rfl) (fun _ _ _ h => h) (Or.inl ⟨by rfl, ?_⟩) ?_ ?_
      rotate_left
      · intro w'
        go_simp
        with_reducible rfl
      rotate_left
      · simp only [Act.put, List.setIfInBounds_toArray, List.set_cons_zero, List.set_cons_succ, i64_w, i32_w]
        rfl
      refine pure_ (i := 4) (N := some 51) (v := ?_) (a' := ?_) #[false, true, false, false, true, false, false, false, false, false, false, false] rfl rfl (by kernel_rfl) (fun _ _ _ h => h) (Or.inl ⟨by rfl, ?_⟩) ?_ ?_
      rotate_left
      · intro w'
        go_simp
        with_reducible rfl
      rotate_left
      · simp only [Act.put, List.setIfInBounds_toArray, List.set_cons_zero, List.set_cons_succ, i64_w, i32_w]
        rfl
      refine take_ (i := 2) (N := some 49) (v := ?_) (a' := ?_) #[false, true, true, false, true, false, false, false, false, false, false, false] rfl rfl (by kernel_rfl) (fun _ _ _ h => h) (Or.inl ⟨by rfl, ?_⟩) hHeld ?_ ?_
      rotate_left
      · rintro w' ⟨s0, s1, s2, s3⟩
        go_simp
        with_reducible rfl
      rotate_left
      · simp only [Act.put, List.setIfInBounds_toArray, List.set_cons_zero, List.set_cons_succ, i64_w, i32_w]
        rfl
      refine take_ (i := 5) (N := some 52) (v := ?_) (a' := ?_) #[false, true, true, false, true, true, false, false, false, false, false, false] rfl rfl (by kernel_rfl) (fun _ _ _ h => h) (Or.inl ⟨by rfl, ?_⟩) hHeld ?_ ?_
      rotate_left
      · rintro w' ⟨s0, s1, s2, s3⟩
        refine run_row 25 (.tmp 5) ?_ (w.heap.size + 1) ?_ 25 #[.int .u64 (x0 : Int), .bool true, .string x2] (0, 0) _ s2 Try.underlying25 rfl (by kernel_rfl) <;> rfl
      rotate_left
      · simp only [Act.put, List.setIfInBounds_toArray, List.set_cons_zero, List.set_cons_succ, i64_w, i32_w]
        rfl
      refine pure_ (i := 6) (N := some 53) (v := ?_) (a' := ?_) #[false, true, true, false, true, true, true, false, false, false, false, false] rfl rfl (by kernel_rfl) (fun _ _ _ h => h) (Or.inl ⟨by rfl, ?_⟩) ?_ ?_
      rotate_left
      · intro w'
        go_simp
        with_reducible rfl
      rotate_left
      · simp only [Act.put, List.setIfInBounds_toArray, List.set_cons_zero, List.set_cons_succ, i64_w, i32_w]
        rfl
      refine join_ (σ := Value × Nat × Nat) 4 #[true, true, true, true, true, true, true, true, false, false, false, false] (fun s => [(47, .slice (some ⟨s.2.2, 0, none⟩) 0 0), (50, s.1), (54, .slice (some ⟨s.2.1, 0, none⟩) 1 1)]) (fun s w' => (Below w1.heap.size w1 w' ∧ w'.cell? ⟨w.heap.size, 0, none⟩ = some (.slice A n c) ∧ w'.heap[w.heap.size + 1]? = some (.cells #[.int .u64 (x0 : Int), .bool true, .string x2] 25 (0, 0)) ∧ w'.heap[w.heap.size + 1 + 1]? = some (.cells #[.slice none 0 0] 44 (0, 0))) ∧ OwnF w' w1.heap.size 27 4 itC s.1 L ∧ w'.heap[s.2.1]? = some (.cells #[.string key, .int .u64 (x0 : Int), .bool true, .string x2] 27 (0, 0))) ?_ ?_
      rotate_left
      · intro hCont
        refine two_ (i := 0) (j := 7) (Ni := some 47) (Nj := some 54) #[true, true, true, false, true, true, true, false, false, false, false, false] #[false, true, true, false, true, true, true, true, false, false, false, false] rfl rfl rfl rfl (by kernel_rfl) (by decide) (by decide) (fun K hK => ?_) (fun K hK => ?_)
        · skip
          refine value_ (w1 := ?_) (v := ?_) (by rfl) rfl ?_ ?_
          rotate_left 2
          · go_simp
            constructor
            · rfl
            · rfl
          have HN := Lib.hid (hHeld.1.alloc hHeld.1.size (.cells #[] 27))
          have H47 := Lib.hid (row_new w1.drew (.cells #[] 27) (n := w1.heap.size) (by simp))
          refine hK.out _ _ ⟨HN.out, (HN.out.cell (p := ⟨w.heap.size, 0, none⟩) hl0).trans g0, (HN.out.block _ hl1).trans H1.out, (HN.out.block _ hl2).trans H2.out⟩ (fun hHeld => ?_)
          clear hK K
          refine norm_ (a' := ?_) ?_ ?_
          rotate_left
          · show Act.put _ (some 47) _ = _
            simp only [Act.put, List.setIfInBounds_toArray, List.set_cons_zero, List.set_cons_succ, i64_w, i32_w]
            rfl
          refine two_ (i := 3) (j := 7) (Ni := some 50) (Nj := some 54) #[true, true, true, true, true, true, true, false, false, false, false, false] #[true, true, true, false, true, true, true, true, false, false, false, false] rfl rfl rfl rfl (by kernel_rfl) (by decide) (by decide) (fun K hK => ?_) (fun K hK => ?_)
          · skip
            have HEM := Lib.hid (OwnF.empty (base := w1.heap.size) H47.out (by omega) 4 itC)
            obtain ⟨v50, w50, hr50, ho50, hg50, -⟩ := run_app_rows (P := Try.prog) (base := w1.heap.size) (xs := ([] : List ItT)) 22 22 Try.underlying22 info_it rfl (by decide) (by decide) itC_len itC_one HEM.out (c := c) (HA.out.below (HB.out.trans (hHeld.1.mono HSW.out))) hHeld.1.size (by have := HN0.out; simp only [List.length_nil]; omega)
            rw [List.nil_append] at ho50
            have HO50 := Lib.hid ho50; clear ho50
            have HN := Lib.hid (hHeld.1.grown hg50 hHeld.1.size (fun q hq => (HEM.out.block_ge q hq).1))
            refine step_app (by rfl) (.tmp 47) (.tmp 49) 22 rfl rfl rfl hr50 ?_
            refine hK.out _ _ ⟨HN.out, (HN.out.cell (p := ⟨w.heap.size, 0, none⟩) hl0).trans g0, (HN.out.block _ hl1).trans H1.out, (HN.out.block _ hl2).trans H2.out⟩ (fun hHeld => ?_)
            clear hK K
            refine norm_ (a' := ?_) ?_ ?_
            rotate_left
            · show Act.put _ (some 50) _ = _
              simp only [Act.put, List.setIfInBounds_toArray, List.set_cons_zero, List.set_cons_succ, i64_w, i32_w]
              rfl
            refine one_ (i := 7) (N := some 54) #[true, true, true, true, true, true, true, true, false, false, false, false] rfl rfl (by kernel_rfl) (by decide) (fun K hK => ?_)
            refine value_ (w1 := ?_) (v := ?_) (by rfl) rfl ?_ ?_
            rotate_left 2
            · go_simp
              constructor
              · rfl
              · rfl
            have HN := Lib.hid (hHeld.1.alloc hHeld.1.size (.cells #[.string key, .int .u64 (x0 : Int), .bool true, .string x2] 27))
            have H54 := Lib.hid (row_new w50 (.cells #[.string key, .int .u64 (x0 : Int), .bool true, .string x2] 27) (n := w50.heap.size) (by simp))
            replace HO50 := Lib.hid (HO50.out.below (below_alloc (Below.refl _ _) (.cells #[.string key, .int .u64 (x0 : Int), .bool true, .string x2] 27)))
            refine hK.out _ _ ⟨HN.out, (HN.out.cell (p := ⟨w.heap.size, 0, none⟩) hl0).trans g0, (HN.out.block _ hl1).trans H1.out, (HN.out.block _ hl2).trans H2.out⟩ (fun hHeld => ?_)
            clear hK K
            refine norm_ (a' := ?_) ?_ ?_
            rotate_left
            · show Act.put _ (some 54) _ = _
              simp only [Act.put, List.setIfInBounds_toArray, List.set_cons_zero, List.set_cons_succ, i64_w, i32_w]
              rfl
            exact norm_ (by simp only [putAll, Act.put, List.setIfInBounds_toArray, List.set_cons_zero, List.set_cons_succ]) (hCont (v50, w50.heap.size, w1.heap.size) _ ⟨hHeld, HO50.out, H54.out⟩)
          · skip
            refine value_ (w1 := ?_) (v := ?_) (by rfl) rfl ?_ ?_
            rotate_left 2
            · go_simp
              constructor
              · rfl
              · rfl
            have HN := Lib.hid (hHeld.1.alloc hHeld.1.size (.cells #[.string key, .int .u64 (x0 : Int), .bool true, .string x2] 27))
            have H54 := Lib.hid (row_new (w1.drew.alloc (.cells #[] 27)) (.cells #[.string key, .int .u64 (x0 : Int), .bool true, .string x2] 27) (n := w1.heap.size + 1) (by simp))
            have H47 := Lib.hid (blk_alloc H47.out (.cells #[.string key, .int .u64 (x0 : Int), .bool true, .string x2] 27))
            refine hK.out _ _ ⟨HN.out, (HN.out.cell (p := ⟨w.heap.size, 0, none⟩) hl0).trans g0, (HN.out.block _ hl1).trans H1.out, (HN.out.block _ hl2).trans H2.out⟩ (fun hHeld => ?_)
            clear hK K
            refine norm_ (a' := ?_) ?_ ?_
            rotate_left
            · show Act.put _ (some 54) _ = _
              simp only [Act.put, List.setIfInBounds_toArray, List.set_cons_zero, List.set_cons_succ, i64_w, i32_w]
              rfl
            refine one_ (i := 3) (N := some 50) #[true, true, true, true, true, true, true, true, false, false, false, false] rfl rfl (by kernel_rfl) (by decide) (fun K hK => ?_)
            have HEM := Lib.hid (OwnF.empty (base := w1.heap.size) H47.out (by omega) 4 itC)
            obtain ⟨v50, w50, hr50, ho50, hg50, -⟩ := run_app_rows (P := Try.prog) (base := w1.heap.size) (xs := ([] : List ItT)) 22 22 Try.underlying22 info_it rfl (by decide) (by decide) itC_len itC_one HEM.out (c := c) (HA.out.below (HB.out.trans (hHeld.1.mono HSW.out))) hHeld.1.size (by have := HN0.out; simp only [List.length_nil]; omega)
            rw [List.nil_append] at ho50
            have HO50 := Lib.hid ho50; clear ho50
            have HN := Lib.hid (hHeld.1.grown hg50 hHeld.1.size (fun q hq => (HEM.out.block_ge q hq).1))
            replace H54 := Lib.hid (blk_grown H54.out hg50 (fun e => by have e : some (w1.heap.size + 1) = some (w1.heap.size) := e; injection e with e; omega))
            refine step_app (by rfl) (.tmp 47) (.tmp 49) 22 rfl rfl rfl hr50 ?_
            refine hK.out _ _ ⟨HN.out, (HN.out.cell (p := ⟨w.heap.size, 0, none⟩) hl0).trans g0, (HN.out.block _ hl1).trans H1.out, (HN.out.block _ hl2).trans H2.out⟩ (fun hHeld => ?_)
            clear hK K
            refine norm_ (a' := ?_) ?_ ?_
            rotate_left
            · show Act.put _ (some 50) _ = _
              simp only [Act.put, List.setIfInBounds_toArray, List.set_cons_zero, List.set_cons_succ, i64_w, i32_w]
              rfl
            exact norm_ (by simp only [putAll, Act.put, List.setIfInBounds_toArray, List.set_cons_zero, List.set_cons_succ]) (hCont (v50, w1.heap.size + 1, w1.heap.size) _ ⟨hHeld, HO50.out, H54.out⟩)
        · skip
          refine value_ (w1 := ?_) (v := ?_) (by rfl) rfl ?_ ?_
          rotate_left 2
          · go_simp
            constructor
            · rfl
            · rfl
          have HN := Lib.hid (hHeld.1.alloc hHeld.1.size (.cells #[.string key, .int .u64 (x0 : Int), .bool true, .string x2] 27))
          have H54 := Lib.hid (row_new w1.drew (.cells #[.string key, .int .u64 (x0 : Int), .bool true, .string x2] 27) (n := w1.heap.size) (by simp))
          refine hK.out _ _ ⟨HN.out, (HN.out.cell (p := ⟨w.heap.size, 0, none⟩) hl0).trans g0, (HN.out.block _ hl1).trans H1.out, (HN.out.block _ hl2).trans H2.out⟩ (fun hHeld => ?_)
          clear hK K
          refine norm_ (a' := ?_) ?_ ?_
          rotate_left
          · show Act.put _ (some 54) _ = _
            simp only [Act.put, List.setIfInBounds_toArray, List.set_cons_zero, List.set_cons_succ, i64_w, i32_w]
            rfl
          refine one_ (i := 0) (N := some 47) #[true, true, true, false, true, true, true, true, false, false, false, false] rfl rfl (by kernel_rfl) (by decide) (fun K hK => ?_)
          refine value_ (w1 := ?_) (v := ?_) (by rfl) rfl ?_ ?_
          rotate_left 2
          · go_simp
            constructor
            · rfl
            · rfl
          have HN := Lib.hid (hHeld.1.alloc hHeld.1.size (.cells #[] 27))
          have H47 := Lib.hid (row_new (w1.drew.alloc (.cells #[.string key, .int .u64 (x0 : Int), .bool true, .string x2] 27)) (.cells #[] 27) (n := w1.heap.size + 1) (by simp))
          have H54 := Lib.hid (blk_alloc H54.out (.cells #[] 27))
          refine hK.out _ _ ⟨HN.out, (HN.out.cell (p := ⟨w.heap.size, 0, none⟩) hl0).trans g0, (HN.out.block _ hl1).trans H1.out, (HN.out.block _ hl2).trans H2.out⟩ (fun hHeld => ?_)
          clear hK K
          refine norm_ (a' := ?_) ?_ ?_
          rotate_left
          · show Act.put _ (some 47) _ = _
            simp only [Act.put, List.setIfInBounds_toArray, List.set_cons_zero, List.set_cons_succ, i64_w, i32_w]
            rfl
          refine one_ (i := 3) (N := some 50) #[true, true, true, true, true, true, true, true, false, false, false, false] rfl rfl (by kernel_rfl) (by decide) (fun K hK => ?_)
          have HEM := Lib.hid (OwnF.empty (base := w1.heap.size) H47.out (by omega) 4 itC)
          obtain ⟨v50, w50, hr50, ho50, hg50, -⟩ := run_app_rows (P := Try.prog) (base := w1.heap.size) (xs := ([] : List ItT)) 22 22 Try.underlying22 info_it rfl (by decide) (by decide) itC_len itC_one HEM.out (c := c) (HA.out.below (HB.out.trans (hHeld.1.mono HSW.out))) hHeld.1.size (by have := HN0.out; simp only [List.length_nil]; omega)
          rw [List.nil_append] at ho50
          have HO50 := Lib.hid ho50; clear ho50
          have HN := Lib.hid (hHeld.1.grown hg50 hHeld.1.size (fun q hq => (HEM.out.block_ge q hq).1))
          replace H54 := Lib.hid (blk_grown H54.out hg50 (fun e => by have e : some (w1.heap.size) = some (w1.heap.size + 1) := e; injection e with e; omega))
          refine step_app (by rfl) (.tmp 47) (.tmp 49) 22 rfl rfl rfl hr50 ?_
          refine hK.out _ _ ⟨HN.out, (HN.out.cell (p := ⟨w.heap.size, 0, none⟩) hl0).trans g0, (HN.out.block _ hl1).trans H1.out, (HN.out.block _ hl2).trans H2.out⟩ (fun hHeld => ?_)
          clear hK K
          refine norm_ (a' := ?_) ?_ ?_
          rotate_left
          · show Act.put _ (some 50) _ = _
            simp only [Act.put, List.setIfInBounds_toArray, List.set_cons_zero, List.set_cons_succ, i64_w, i32_w]
            rfl
          exact norm_ (by simp only [putAll, Act.put, List.setIfInBounds_toArray, List.set_cons_zero, List.set_cons_succ]) (hCont (v50, w1.heap.size, w1.heap.size + 1) _ ⟨hHeld, HO50.out, H54.out⟩)
      rintro ⟨v50, g54, g47⟩ w7 ⟨hHeld, ho50, h54⟩
      have HO50 := Lib.hid ho50; clear ho50
      have H54 := Lib.hid h54; clear h54
      refine norm_ (a' := ?_) ?_ ?_
      rotate_left
      · simp only [putAll, Act.put, List.setIfInBounds_toArray, List.set_cons_zero, List.set_cons_succ]
        rfl
      refine last_ (i := 8) (N := some 55) #[true, true, true, true, true, true, true, true, true, false, false, false] rfl rfl (by kernel_rfl) (by decide) (fun K hK => ?_)
      obtain ⟨v55, w55, hr55, ho55, hg55, -⟩ := run_app_rows (P := Try.prog) (base := w1.heap.size) (W := w7) (xs := L) 22 22 Try.underlying22 info_it rfl (by decide) (by decide) itC_len itC_one HO50.out (c := 1) ((OwnF.one (base := 0) (f := itC) (x := (key, x0, true, x2)) H54.out (Nat.zero_le _) rfl rfl).row itC_len) hHeld.1.size (by have := HN0.out; rw [HL.out]; omega)
      obtain ⟨A7, c7, e7, _⟩ := ho55.slice_
      obtain ⟨m7, hm7⟩ : ∃ m, m = (L ++ [(key, x0, true, x2)]).length := ⟨_, rfl⟩
      rw [← hm7] at e7
      obtain rfl := e7
      have HM7 := Lib.hid hm7; clear hm7
      have HO55 := Lib.hid ho55; clear ho55
      have HN := Lib.hid (hHeld.1.grown hg55 hHeld.1.size (fun q hq => (HO50.out.block_ge q hq).1)); clear hg55
      refine step_app (by rfl) (.tmp 50) (.tmp 54) 22 rfl rfl rfl hr55 ?_
      refine hK.out _ _ ?_
      clear hK K
      refine norm_ (a' := ?_) ?_ ?_
      rotate_left
      · show Act.put _ (some 55) _ = _
        simp only [Act.put, List.setIfInBounds_toArray, List.set_cons_zero, List.set_cons_succ, i64_w, i32_w]
        rfl
      refine pure_ (i := 9) (N := some 56) (v := ?_) (a' := ?_) #[true, true, true, true, true, true, true, true, true, true, false, false] rfl rfl (by kernel_rfl) (fun _ _ _ h => h) (Or.inl ⟨by rfl, ?_⟩) ?_ ?_
      rotate_left
      · intro w'
        go_simp
        with_reducible rfl
      rotate_left
      · simp only [Act.put, List.setIfInBounds_toArray, List.set_cons_zero, List.set_cons_succ, i64_w, i32_w]
        rfl
      refine last_ (i := 10) (N := none) #[true, true, true, true, true, true, true, true, true, true, true, false] rfl rfl (by kernel_rfl) (by decide) (fun K hK => ?_)
      refine skip_ (w1 := w55.setRow (w.heap.size + 1 + 1) #[.slice A7 m7 c7]) (by rfl) rfl (by refine run_strow 44 (.tmp 6) (.tmp 56) ?_ (w.heap.size + 1 + 1) #[.slice A7 m7 c7] ?_ ?_ 44 _ ((HN.out.block _ hl2).trans H2.out) (by kernel_rfl) rfl (by simp [Value.oneCell']) <;> rfl) ?_
      refine hK.out _ _ ?_
      clear hK K
      refine pure_ (i := 11) (N := some 7) (v := ?_) (a' := ?_) #[true, true, true, true, true, true, true, true, true, true, true, true] rfl rfl (by kernel_rfl) (fun _ _ _ h => h) (Or.inl ⟨by rfl, ?_⟩) ?_ ?_
      rotate_left
      · intro w'
        go_simp
        with_reducible rfl
      rotate_left
      · simp only [Act.put, List.setIfInBounds_toArray, List.set_cons_zero, List.set_cons_succ, i64_w, i32_w]
        rfl
      refine done_ (by kernel_rfl) ?_

      have HG2 := Lib.hid ((HN.out.block _ hl2).trans H2.out)
      have HV := Lib.hid (setRow_heap w55 (w.heap.size + 1 + 1) _ #[.slice A7 m7 c7] _ _ HG2.out)
      have HBF := Lib.hid (show Below w.heap.size w (w55.setRow (w.heap.size + 1 + 1) #[.slice A7 m7 c7]) from (HB.out.trans (HN.out.mono HSW.out)).trans ((keeps_setRow (Keeps.refl (Only (w.heap.size + 1 + 1)) w55) (.inl rfl) _).to_below (Nat.le_trans HSW.out HN.out.size) (fun i hi => by cases hi; omega)))
      have HOF := Lib.hid (HO55.out.keep (w1 := w55.setRow (w.heap.size + 1 + 1) #[.slice A7 m7 c7]) fun x hx hlt => setRow_other w55 (w.heap.size + 1 + 1) x _ (fun e => HO55.out.ne_type HG2.out (by decide) (by rw [hx]; exact congrArg some e)))
      go_wp2
      refine bodyPost_ret (res_ct (a := ⟨?g6, 0, none⟩) (v := .agg ?cs6) rfl ?hp6 (load_row (g := ?g6) (cs := ?cs6) (t := ?t6) (fr := ?fr6) ?hrow6 _ _ Try.underlying44 rfl ?hi6)) rfl ?_
      case hp6 => rfl
      case hrow6 => exact HV.out
      case hi6 => exact (by kernel_rfl)
      rw [HE.out, HI.out, ← HM7.out]
      first | exact ⟨A7, ⟨c7, rfl⟩, .inr ⟨rfl, HOF.out.lower HSW.out⟩, HBF.out⟩ | exact ⟨A7, c7, rfl, .inr ⟨rfl, HOF.out.lower HSW.out⟩, HBF.out⟩
    · rw [decide_eq_true h4] at z3
      rw [decide_eq_false h4] at z4
      have HE := Lib.hid (show rErr L key (x0, true, x2) = 1 from by unfold rErr; rw [HLS.out]; exact (if_neg HF.out).trans (if_pos (.inr ⟨rfl, h4⟩)))
      have HI := Lib.hid (show rInst L key (x0, true, x2) = L by unfold rInst; rw [HE.out, if_neg (by decide)])
      go_wp2
      refine bodyPost_ret (res_ct (a := ⟨?g1, 0, none⟩) (v := .agg ?cs1) rfl ?hp1 (load_row (g := ?g1) (cs := ?cs1) (t := ?t1) (fr := ?fr1) ?hrow1 _ _ Try.underlying44 rfl ?hi1)) rfl ?_
      case hp1 => rfl
      case hrow1 => (refine blk_set H2.out 0 _ <;> simp only [Go.Deep.nblk_alloc])
      case hi1 => exact (by kernel_rfl)
      rw [HE.out, HI.out, HL.out]
      exact ⟨A, c, rfl, .inl ⟨by decide, rfl, rfl⟩, below_setc' HB.out (by simp; omega) _⟩
end Go.Proofs.Ytcnehponkgofiaa.My
