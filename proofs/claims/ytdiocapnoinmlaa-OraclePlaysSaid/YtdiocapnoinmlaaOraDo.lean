/- isoglossref12.Oracle.Do: what a call leaves. -/
import Derived.Test.YtdiocapnoinmlaaOra
import Derived.Test.YtdiocapnoinmlaaRes
namespace Go.Proofs.Ytdiocapnoinmlaa.My
set_option linter.unusedSimpArgs false
set_option linter.unusedVariables false
open Go.RowKit Go.Proofs.YtdiocapnoinmlaaW.PrintWords Go.Proofs.YtdiocapnoinmlaaW.PrintLast Go.Proofs.Ytdiocapnoinmlaa.Pm

def doO (a b k n : Nat) : Nat × Nat × Nat × Bool :=
  if k % 4 = 0 then (if b ≤ a then (a, b, 0, false) else (a + 1, b, a + 1, true))
  else if k % 4 = 1 then (a, b, (wantO a b).1, (wantO a b).2)
  else if k % 4 = 2 then (a, max b n, 0, false)
  else (b, b, 0, false)
def oraV (a b : Nat) : Value := .agg #[.int .u64 a, .int .u64 b]
def opV (k n : Nat) : Value := .agg #[.int .u8 k, .int .u64 n]

set_option maxHeartbeats 4000000 in
theorem ora_do (a b k n : Nat) (w : World) (hab : a ≤ b) (hb : b ≤ topU) :
    Calls Try.prog 15 #[.agg #[.int .u64 a, .int .u64 b], .agg #[.int .u8 k, .int .u64 n]] w fun e w' =>
      e = .returned (.tuple #[.agg #[.int .u64 (doO a b k n).1, .int .u64 (doO a b k n).2.1], .int .u64 (doO a b k n).2.2.1, .bool (doO a b k n).2.2.2]) ∧ Below w.heap.size w w' := by
  obtain ⟨r, hr⟩ : ∃ r, k % 4 = r := ⟨_, rfl⟩
  have hri : (k : Int) % 4 = (r : Int) := by omega
  unfold doO wantO topU
  unfold topU at hb
  rw [hr]
  have HB := Lib.hid (Below.refl w.heap.size w)
  have hr4 : r < 4 := by omega
  clear hr
  rcases (show r = 0 ∨ r = 1 ∨ r = 2 ∨ r = 3 by omega) with rfl | rfl | rfl | rfl
  · rw [if_pos rfl]
    by_cases e : b ≤ a
    · obtain rfl : a = b := by omega
      rw [if_pos (Nat.le_refl _)]
      clear hab hb hr4 e
      go_enter Try.func15, Try.ntmps15
      go_wp2
      refine bodyPost_ret (res_ctt (a := ⟨?g1, 0, none⟩) (v := .agg ?cs1) rfl ?hp1 (load_row (g := ?g1) (cs := ?cs1) (t := ?t1) (fr := ?fr1) ?hrow1 _ _ Try.underlying33 rfl ?hi1)) rfl ?_
      case hp1 => rfl
      case hrow1 => (refine row_new _ _ ?_ <;> simp only [Go.Deep.nblk_alloc])
      case hi1 => exact (by kernel_rfl)
      exact ⟨rfl, below_alloc (below_alloc (below_alloc HB.out _) _) _⟩
    · have e1 : ((a : Int) == (b : Int)) = false := beq_eq_false_iff_ne.2 (by omega)
      have q : IntKind.u64.wrap ((a : Int) + 1) = ((a + 1 : Nat) : Int) := wrap_u64_nat (x := a + 1) (by omega)
      rw [if_neg e]
      generalize a + 1 = m at q ⊢
      clear hab hb hr4 e
      go_enter Try.func15, Try.ntmps15
      go_wp2
      refine start_ (n := 12) (S := fun w' => w'.cell? ⟨w.heap.size, 0, none⟩ = some (.int .u64 a) ∧ w'.cell? ⟨w.heap.size, 1, none⟩ = some (.int .u64 b)) (ds := []) #[false, false, false, false, false, false, false, false, false, false, false, false] (by kernel_rfl) rfl rfl ⟨((blk_cell ((blk_alloc (blk_alloc (blk_new w _) _) _)) 0).trans rfl), ((blk_cell ((blk_alloc (blk_alloc (blk_new w _) _) _)) 1).trans rfl)⟩ (fun hHeld => ?_)
      refine pure_ (i := 0) (N := some 19) (v := ?_) (a' := ?_) #[true, false, false, false, false, false, false, false, false, false, false, false] rfl rfl (by kernel_rfl) (fun _ _ _ h => h) (Or.inl ⟨by rfl, ?_⟩) ?_ ?_
      rotate_left
      · intro w'
        go_simp
        with_reducible rfl
      rotate_left
      · simp only [Act.put, List.setIfInBounds_toArray, List.set_cons_zero, List.set_cons_succ, i64_w, i32_w]
        rfl
      refine pure_ (i := 3) (N := some 22) (v := ?_) (a' := ?_) #[true, false, false, true, false, false, false, false, false, false, false, false] rfl rfl (by kernel_rfl) (fun _ _ _ h => h) (Or.inl ⟨by rfl, ?_⟩) ?_ ?_
      rotate_left
      · intro w'
        go_simp
        with_reducible rfl
      rotate_left
      · simp only [Act.put, List.setIfInBounds_toArray, List.set_cons_zero, List.set_cons_succ, i64_w, i32_w]
        rfl
      refine pure_ (i := 6) (N := some 25) (v := ?_) (a' := ?_) #[true, false, false, true, false, false, true, false, false, false, false, false] rfl rfl (by kernel_rfl) (fun _ _ _ h => h) (Or.inl ⟨by rfl, ?_⟩) ?_ ?_
      rotate_left
      · intro w'
        go_simp
        with_reducible rfl
      rotate_left
      · simp only [Act.put, List.setIfInBounds_toArray, List.set_cons_zero, List.set_cons_succ, i64_w, i32_w]
        rfl
      refine take_ (i := 1) (N := some 20) (v := ?_) (a' := ?_) #[true, true, false, true, false, false, true, false, false, false, false, false] rfl rfl (by kernel_rfl) (fun _ _ _ h => h) (Or.inl ⟨by rfl, ?_⟩) hHeld ?_ ?_
      rotate_left
      · rintro w' ⟨s0, s1⟩
        go_simp
        with_reducible rfl
      rotate_left
      · simp only [Act.put, List.setIfInBounds_toArray, List.set_cons_zero, List.set_cons_succ, i64_w, i32_w]
        rfl
      refine pure_ (i := 2) (N := some 21) (v := ?_) (a' := ?_) #[true, true, true, true, false, false, true, false, false, false, false, false] rfl rfl (by kernel_rfl) (fun _ _ _ h => h) (Or.inl ⟨by rfl, ?_⟩) ?_ ?_
      rotate_left
      · intro w'
        go_simp
        with_reducible rfl
      rotate_left
      · simp only [Act.put, List.setIfInBounds_toArray, List.set_cons_zero, List.set_cons_succ, i64_w, i32_w]
        rfl
      refine take_ (i := 4) (N := some 23) (v := ?_) (a' := ?_) #[true, true, true, true, true, false, true, false, false, false, false, false] rfl rfl (by kernel_rfl) (fun _ _ _ h => h) (Or.inl ⟨by rfl, ?_⟩) hHeld ?_ ?_
      rotate_left
      · rintro w' ⟨s0, s1⟩
        go_simp
        with_reducible rfl
      rotate_left
      · simp only [Act.put, List.setIfInBounds_toArray, List.set_cons_zero, List.set_cons_succ, i64_w, i32_w]
        rfl
      refine pure_ (i := 5) (N := some 24) (v := ?_) (a' := ?_) #[true, true, true, true, true, true, true, false, false, false, false, false] rfl rfl (by kernel_rfl) (fun _ _ _ h => h) (Or.inl ⟨by rfl, ?_⟩) ?_ ?_
      rotate_left
      · intro w'
        go_simp
        with_reducible rfl
      rotate_left
      · simp only [Act.put, List.setIfInBounds_toArray, List.set_cons_zero, List.set_cons_succ, i64_w, i32_w]
        rfl
      refine take_ (i := 7) (N := some 26) (v := ?_) (a' := ?_) #[true, true, true, true, true, true, true, true, false, false, false, false] rfl rfl (by kernel_rfl) (fun _ _ _ h => h) (Or.inl ⟨by rfl, ?_⟩) hHeld ?_ ?_
      rotate_left
      · rintro w' ⟨s0, s1⟩
        go_simp
        with_reducible rfl
      rotate_left
      · simp only [Act.put, List.setIfInBounds_toArray, List.set_cons_zero, List.set_cons_succ, i64_w, i32_w]
        rfl
      refine pure_ (i := 8) (N := some 27) (v := ?_) (a' := ?_) #[true, true, true, true, true, true, true, true, true, false, false, false] rfl rfl (by kernel_rfl) (fun _ _ _ h => h) (Or.inl ⟨by rfl, ?_⟩) ?_ ?_
      rotate_left
      · intro w'
        go_simp
        with_reducible rfl
      rotate_left
      · simp only [Act.put, List.setIfInBounds_toArray, List.set_cons_zero, List.set_cons_succ, i64_w, i32_w]
        rfl
      refine one_ (i := 9) (N := none) #[true, true, true, true, true, true, true, true, true, true, false, false] rfl rfl (by kernel_rfl) (by decide) (fun K hK => ?_)
      refine skip_ (w1 := ?_) (by rfl) rfl ?_ ?_
      rotate_left
      · go_simp
        rfl
      refine hK.out _ _ ⟨((blk_cell (blk_drew (blk_alloc (blk_alloc (blk_new w _) _) _)) 0).trans rfl), ((blk_cell (blk_drew (blk_alloc (blk_alloc (blk_new w _) _) _)) 1).trans rfl)⟩ (fun hHeld => ?_)
      clear hK K
      refine pure_ (i := 10) (N := some 5) (v := ?_) (a' := ?_) #[true, true, true, true, true, true, true, true, true, true, true, false] rfl rfl (by kernel_rfl) (fun _ _ _ h => h) (Or.inl ⟨by rfl, ?_⟩) ?_ ?_
      rotate_left
      · intro w'
        go_simp
        with_reducible rfl
      rotate_left
      · simp only [Act.put, List.setIfInBounds_toArray, List.set_cons_zero, List.set_cons_succ, i64_w, i32_w]
        rfl
      refine pure_ (i := 11) (N := some 6) (v := ?_) (a' := ?_) #[true, true, true, true, true, true, true, true, true, true, true, true] rfl rfl (by kernel_rfl) (fun _ _ _ h => h) (Or.inl ⟨by rfl, ?_⟩) ?_ ?_
      rotate_left
      · intro w'
        go_simp
        with_reducible rfl
      rotate_left
      · simp only [Act.put, List.setIfInBounds_toArray, List.set_cons_zero, List.set_cons_succ, i64_w, i32_w]
        rfl
      refine done_ (by kernel_rfl) ?_

      go_wp2
      refine bodyPost_ret (res_ctt (a := ⟨?g2, 0, none⟩) (v := .agg ?cs2) rfl ?hp2 (load_row (g := ?g2) (cs := ?cs2) (t := ?t2) (fr := ?fr2) ?hrow2 _ _ Try.underlying33 rfl ?hi2)) rfl ?_
      case hp2 => rfl
      case hrow2 => (refine row_drew _ _ ?_ <;> simp only [Go.Deep.nblk_alloc])
      case hi2 => exact (by kernel_rfl)
      exact ⟨rfl, below_drew (below_alloc (below_alloc (below_alloc HB.out _) _) _)⟩
  · rw [if_neg (by decide), if_pos rfl]
    by_cases e : a < b
    · have e1 : ((a : Int) == (b : Int)) = false := beq_eq_false_iff_ne.2 (by omega)
      rw [if_pos (.inl e)]
      clear hab hb hr4 e
      go_enter Try.func15, Try.ntmps15
      go_wp2
      go_wp2
      refine bodyPost_ret (res_ctt (a := ⟨?g3, 0, none⟩) (v := .agg ?cs3) rfl ?hp3 (load_row (g := ?g3) (cs := ?cs3) (t := ?t3) (fr := ?fr3) ?hrow3 _ _ Try.underlying33 rfl ?hi3)) rfl ?_
      case hp3 => rfl
      case hrow3 => (refine row_new _ _ ?_ <;> simp only [Go.Deep.nblk_alloc])
      case hi3 => exact (by kernel_rfl)
      exact ⟨rfl, (below_alloc (below_alloc (below_alloc HB.out _) _) _)⟩
    · obtain rfl : a = b := by omega
      by_cases e2 : a = 18446744073709551615
      · have e3 : ((a : Int) == 18446744073709551615) = true := beq_iff_eq.2 (by omega)
        rw [if_pos (.inr e2)]
        clear hab hb hr4 e e2
        go_enter Try.func15, Try.ntmps15
        go_wp2
        go_wp2
        refine bodyPost_ret (res_ctt (a := ⟨?g4, 0, none⟩) (v := .agg ?cs4) rfl ?hp4 (load_row (g := ?g4) (cs := ?cs4) (t := ?t4) (fr := ?fr4) ?hrow4 _ _ Try.underlying33 rfl ?hi4)) rfl ?_
        case hp4 => rfl
        case hrow4 => (refine row_new _ _ ?_ <;> simp only [Go.Deep.nblk_alloc])
        case hi4 => exact (by kernel_rfl)
        exact ⟨rfl, (below_alloc (below_alloc (below_alloc HB.out _) _) _)⟩
      · have e3 : ((a : Int) == 18446744073709551615) = false := beq_eq_false_iff_ne.2 (by omega)
        rw [if_neg (by omega)]
        have q0 : IntKind.u64.wrap (18446744073709551615 - (a : Int)) = ((18446744073709551615 - a : Nat) : Int) := by
          rw [show (18446744073709551615 - (a : Int)) = ((18446744073709551615 - a : Nat) : Int) by omega]
          exact wrap_u64_nat (by omega)
        by_cases e4 : 18446744073709551615 - 100 < a
        · have e5 : decide (((18446744073709551615 - a : Nat) : Int) < 100) = true := by simp; omega
          rw [if_pos e4]
          generalize 18446744073709551615 - a = m at q0 e5
          clear hab hb hr4 e e2 e4
          go_enter Try.func15, Try.ntmps15
          go_wp2
          go_wp2
          refine bodyPost_ret (res_ctt (a := ⟨?g5, 0, none⟩) (v := .agg ?cs5) rfl ?hp5 (load_row (g := ?g5) (cs := ?cs5) (t := ?t5) (fr := ?fr5) ?hrow5 _ _ Try.underlying33 rfl ?hi5)) rfl ?_
          case hp5 => rfl
          case hrow5 => (refine row_new _ _ ?_ <;> simp only [Go.Deep.nblk_alloc])
          case hi5 => exact (by kernel_rfl)
          exact ⟨rfl, (below_alloc (below_alloc (below_alloc HB.out _) _) _)⟩
        · have e5 : decide (((18446744073709551615 - a : Nat) : Int) < 100) = false := by simp; omega
          rw [if_neg e4]
          have q1 : IntKind.u64.wrap ((a : Int) + 100) = ((a + 100 : Nat) : Int) := wrap_u64_nat (x := a + 100) (by omega)
          generalize 18446744073709551615 - a = m at q0 e5
          generalize a + 100 = m2 at q1 ⊢
          clear hab hb hr4 e e2 e4
          go_enter Try.func15, Try.ntmps15
          go_wp2
          refine start_ (n := 7) (S := fun w' => w'.heap[w.heap.size]? = some (.cells #[.int .u64 a, .int .u64 a] 33 (0, 0)) ∧ w'.cell? ⟨w.heap.size, 1, none⟩ = some (.int .u64 a)) (ds := []) #[false, false, false, false, false, false, false] (by kernel_rfl) rfl rfl ⟨(blk_alloc (blk_alloc (blk_new w _) _) _), ((blk_cell ((blk_alloc (blk_alloc (blk_new w _) _) _)) 1).trans rfl)⟩ (fun hHeld => ?_)
          refine pure_ (i := 1) (N := some 50) (v := ?_) (a' := ?_) #[false, true, false, false, false, false, false] rfl rfl (by kernel_rfl) (fun _ _ _ h => h) (Or.inl ⟨by rfl, ?_⟩) ?_ ?_
          rotate_left
          · intro w'
            go_simp
            with_reducible rfl
          rotate_left
          · simp only [Act.put, List.setIfInBounds_toArray, List.set_cons_zero, List.set_cons_succ, i64_w, i32_w]
            rfl
          refine take_ (i := 0) (N := some 49) (v := ?_) (a' := ?_) #[true, true, false, false, false, false, false] rfl rfl (by kernel_rfl) (fun _ _ _ h => h) (Or.inl ⟨by rfl, ?_⟩) hHeld ?_ ?_
          rotate_left
          · rintro w' ⟨s0, s1⟩
            refine run_row 33 (.tmp 2) ?_ w.heap.size ?_ 33 #[.int .u64 a, .int .u64 a] (0, 0) _ s0 Try.underlying33 rfl (by kernel_rfl) <;> rfl
          rotate_left
          · simp only [Act.put, List.setIfInBounds_toArray, List.set_cons_zero, List.set_cons_succ, i64_w, i32_w]
            rfl
          refine take_ (i := 2) (N := some 51) (v := ?_) (a' := ?_) #[true, true, true, false, false, false, false] rfl rfl (by kernel_rfl) (fun _ _ _ h => h) (Or.inl ⟨by rfl, ?_⟩) hHeld ?_ ?_
          rotate_left
          · rintro w' ⟨s0, s1⟩
            go_simp
            with_reducible rfl
          rotate_left
          · simp only [Act.put, List.setIfInBounds_toArray, List.set_cons_zero, List.set_cons_succ, i64_w, i32_w]
            rfl
          refine pure_ (i := 3) (N := some 52) (v := ?_) (a' := ?_) #[true, true, true, true, false, false, false] rfl rfl (by kernel_rfl) (fun _ _ _ h => h) (Or.inl ⟨by rfl, ?_⟩) ?_ ?_
          rotate_left
          · intro w'
            go_simp
            with_reducible rfl
          rotate_left
          · simp only [Act.put, List.setIfInBounds_toArray, List.set_cons_zero, List.set_cons_succ, i64_w, i32_w]
            rfl
          refine one_ (i := 4) (N := none) #[true, true, true, true, true, false, false] rfl rfl (by kernel_rfl) (by decide) (fun K hK => ?_)
          refine skip_ (w1 := ?_) (by rfl) rfl ?_ ?_
          rotate_left
          · go_simp
            rfl
          refine hK.out _ _ ⟨(blk_drew <| blk_alloc (blk_alloc (blk_new w _) _) _), ((blk_cell (blk_drew (blk_alloc (blk_alloc (blk_new w _) _) _)) 1).trans rfl)⟩ (fun hHeld => ?_)
          clear hK K
          refine pure_ (i := 5) (N := some 5) (v := ?_) (a' := ?_) #[true, true, true, true, true, true, false] rfl rfl (by kernel_rfl) (fun _ _ _ h => h) (Or.inl ⟨by rfl, ?_⟩) ?_ ?_
          rotate_left
          · intro w'
            go_simp
            with_reducible rfl
          rotate_left
          · simp only [Act.put, List.setIfInBounds_toArray, List.set_cons_zero, List.set_cons_succ, i64_w, i32_w]
            rfl
          refine pure_ (i := 6) (N := some 6) (v := ?_) (a' := ?_) #[true, true, true, true, true, true, true] rfl rfl (by kernel_rfl) (fun _ _ _ h => h) (Or.inl ⟨by rfl, ?_⟩) ?_ ?_
          rotate_left
          · intro w'
            go_simp
            with_reducible rfl
          rotate_left
          · simp only [Act.put, List.setIfInBounds_toArray, List.set_cons_zero, List.set_cons_succ, i64_w, i32_w]
            rfl
          refine done_ (by kernel_rfl) ?_

          go_wp2
          refine bodyPost_ret (res_ctt (a := ⟨?g6, 0, none⟩) (v := .agg ?cs6) rfl ?hp6 (load_row (g := ?g6) (cs := ?cs6) (t := ?t6) (fr := ?fr6) ?hrow6 _ _ Try.underlying33 rfl ?hi6)) rfl ?_
          case hp6 => rfl
          case hrow6 => (refine row_drew _ _ ?_ <;> simp only [Go.Deep.nblk_alloc])
          case hi6 => exact (by kernel_rfl)
          exact ⟨rfl, below_drew (below_alloc (below_alloc (below_alloc HB.out _) _) _)⟩
  · rw [if_neg (by decide), if_neg (by decide), if_pos rfl]
    by_cases e : b < n
    · have e1 : decide (b < n) = true := by simp; omega
      rw [Nat.max_eq_right (Nat.le_of_lt e)]
      clear hab hb hr4 e
      go_enter Try.func15, Try.ntmps15
      go_wp2
      go_wp2
      refine bodyPost_ret (res_ctt (a := ⟨?g7, 0, none⟩) (v := .agg ?cs7) rfl ?hp7 (load_row (g := ?g7) (cs := ?cs7) (t := ?t7) (fr := ?fr7) ?hrow7 _ _ Try.underlying33 rfl ?hi7)) rfl ?_
      case hp7 => rfl
      case hrow7 => (refine row_new _ _ ?_ <;> simp only [Go.Deep.nblk_alloc])
      case hi7 => exact (by kernel_rfl)
      exact ⟨rfl, (below_alloc (below_alloc (below_alloc HB.out _) _) _)⟩
    · have e1 : decide (b < n) = false := by simp; omega
      rw [Nat.max_eq_left (Nat.le_of_not_lt e)]
      clear hab hb hr4 e
      go_enter Try.func15, Try.ntmps15
      go_wp2
      go_wp2
      refine bodyPost_ret (res_ctt (a := ⟨?g8, 0, none⟩) (v := .agg ?cs8) rfl ?hp8 (load_row (g := ?g8) (cs := ?cs8) (t := ?t8) (fr := ?fr8) ?hrow8 _ _ Try.underlying33 rfl ?hi8)) rfl ?_
      case hp8 => rfl
      case hrow8 => (refine row_new _ _ ?_ <;> simp only [Go.Deep.nblk_alloc])
      case hi8 => exact (by kernel_rfl)
      exact ⟨rfl, (below_alloc (below_alloc (below_alloc HB.out _) _) _)⟩
  · rw [if_neg (by decide), if_neg (by decide), if_neg (by decide)]
    clear hab hb hr4
    go_enter Try.func15, Try.ntmps15
    go_wp2
    go_wp2
    refine bodyPost_ret (res_ctt (a := ⟨?g9, 0, none⟩) (v := .agg ?cs9) rfl ?hp9 (load_row (g := ?g9) (cs := ?cs9) (t := ?t9) (fr := ?fr9) ?hrow9 _ _ Try.underlying33 rfl ?hi9)) rfl ?_
    case hp9 => rfl
    case hrow9 => (refine row_new _ _ ?_ <;> simp only [Go.Deep.nblk_alloc])
    case hi9 => exact (by kernel_rfl)
    exact ⟨rfl, (below_alloc (below_alloc (below_alloc HB.out _) _) _)⟩
end Go.Proofs.Ytdiocapnoinmlaa.My
