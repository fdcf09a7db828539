/- The law OraclePlays walked: each answer is the chapter's. -/
import Derived.Test.YtdiocapnoinmlaaOraDo
import Derived.Test.YtdiocapnoinmlaaLawRises
namespace Go.Proofs.Ytdiocapnoinmlaa.My
set_option linter.unusedSimpArgs false
set_option linter.unusedVariables false
open Go.RowKit Go.Proofs.YtdiocapnoinmlaaW.PrintWords Go.Proofs.YtdiocapnoinmlaaW.PrintLast Go.Proofs.Ytdiocapnoinmlaa.Pm

/-- A slice of calls that came in. -/
def ArgOps (w : World) (A : Option Addr) (len : Nat) (ps : List (Nat × Nat)) : Prop :=
  ps.length = len ∧ (∀ p ∈ ps, p.1 < 256 ∧ p.2 ≤ topU) ∧ (0 < len → ∃ b off, A = some ⟨b, off, none⟩ ∧ b < w.heap.size ∧
    ∀ j, j < len → w.cell? ⟨b, off + j * 2, none⟩ = some (.int .u8 (((ps.getD j (0, 0)).1 : Nat) : Int)) ∧ w.cell? ⟨b, off + j * 2 + 1, none⟩ = some (.int .u64 (((ps.getD j (0, 0)).2 : Nat) : Int)))

theorem ora_plays_big (n : Nat) (A : Option Addr) (len cap : Nat) (w : World) (h : 300 < len) (hlen : len ≤ 140737488355328) :
    Calls Try.prog 4 #[.int .u64 n, .slice A len cap] w fun e w' => e = .returned (.bool true) ∧ Below w.heap.size w w' := by
  have b1 : decide (300 < (len : Int)) = true := by simp; omega
  have HB := Lib.hid (Below.refl w.heap.size w)
  go_enter Try.func4, Try.ntmps4
  go_wp2_with fail
  refine (awake12 _).mono ?_
  rintro e wq1 ⟨rfl, hb⟩
  have HB := Lib.hid (HB.out.trans (hb.mono HB.out.size)); clear hb
  go_wp2_with fail
  refine (awake12 _).mono ?_
  rintro e wq2 ⟨rfl, hb⟩
  have HB := Lib.hid (HB.out.trans (hb.mono HB.out.size)); clear hb
  go_wp2
  go_ret
  exact ⟨rfl, HB.out⟩

def RowO (w : World) (h : Nat) (a b : Nat) : Prop := w.heap[h]? = some (.cells #[.int .u64 a, .int .u64 b] 33 (0, 0))
theorem RowO.below {w w' : World} {g a b : Nat} (h : RowO w g a b) (k : Below w.heap.size w w') : RowO w' g a b := blk_below h k
theorem RowO.keeps {w w' : World} {g a b : Nat} {S : Nat → Prop} (h : RowO w g a b) (k : Keeps S w w') (hn : ¬ S g) : RowO w' g a b := k.blk h hn
theorem do_le {a b k n : Nat} (h : a ≤ b) : (doO a b k n).1 ≤ (doO a b k n).2.1 := by
  unfold doO
  split
  · split
    · exact h
    · simp only []; omega
  · split
    · exact h
    · split
      · exact Nat.le_trans h (Nat.le_max_left _ _)
      · exact Nat.le_refl _
theorem do_top {a b k n : Nat} (h : b ≤ topU) (hn : n ≤ topU) : (doO a b k n).2.1 ≤ topU := by
  unfold doO
  split
  · split <;> exact h
  · split
    · exact h
    · split
      · exact Nat.max_le.2 ⟨h, hn⟩
      · exact h

set_option maxRecDepth 100000 in
set_option maxHeartbeats 8000000 in
theorem ora_plays (lim : Nat) (A : Option Addr) (len cap : Nat) (ps : List (Nat × Nat)) (w : World) (hlim : lim ≤ topU) (hA : ArgOps w A len ps) (hlen : len ≤ 300) :
    Calls Try.prog 4 #[.int .u64 lim, .slice A len cap] w fun e w' => e = .returned (.bool true) ∧ Below w.heap.size w w' := by
  have b1 : decide (300 < (len : Int)) = false := by simp; omega
  have HB := Lib.hid (Below.refl w.heap.size w)
  have HA := Lib.hid hA; clear hA
  go_enter Try.func4, Try.ntmps4
  go_wp2_with fail
  refine (awake12 _).mono ?_
  rintro e wq3 ⟨rfl, hb⟩
  have HB := Lib.hid (HB.out.trans (hb.mono HB.out.size)); clear hb
  go_wp2_with fail
  refine (ora_new lim _).mono ?_
  rintro e w1 ⟨g, rfl, hg, hi, hb⟩
  have hg : w.heap.size ≤ g := Nat.le_trans HB.out.size hg
  have HB := Lib.hid (HB.out.trans (hb.mono HB.out.size)); clear hb
  have HI := Lib.hid hi; clear hi
  go_wp2
  have hgl := blk_lt HI.out
  have h0 : RowO (w1.alloc (.cells #[.int .u64 lim, .int .u64 lim] 33)) w1.heap.size lim lim := blk_new _ _
  have HI := Lib.hid (blk_alloc HI.out (.cells #[.int .u64 lim, .int .u64 lim] 33))
  have HB1 := Lib.hid (below_alloc HB.out (.cells #[.int .u64 lim, .int .u64 lim] 33))
  obtain ⟨h, hh⟩ : ∃ h, w1.heap.size = h := ⟨_, rfl⟩
  have hwh : w.heap.size ≤ h := hh ▸ HB.out.size
  have hgh : g ≠ h := by rw [← hh]; exact Nat.ne_of_lt hgl
  rw [hh] at h0 ⊢
  have HR := Lib.hid h0; clear h0 HB
  have HB := HB1; clear HB1
  generalize w1.alloc (.cells #[.int .u64 lim, .int .u64 lim] 33) = w1 at *
  go_loopw [5, 7] (fun v5 v7 wr => ∃ i g a b : Nat, v7 = .int .i64 i ∧ i ≤ len ∧ v5 = .pointer (some ⟨g, 0, none⟩) ∧ w.heap.size ≤ g ∧ g ≠ h ∧ a ≤ b ∧ b ≤ topU ∧ IsOra wr g a b ∧ RowO wr h a b ∧ Below w.heap.size w wr) (fun _ v7 _ => len - (intOf v7).toNat)
  case atStart => exact ⟨0, g, lim, lim, rfl, by omega, rfl, hg, hgh, Nat.le_refl _, hlim, HI.out, HR.out, HB.out⟩
  case round =>
    clear HI HR HB hg hgh
    obtain ⟨i, g, a, b, rfl, hi, rfl, hg, hgh, hab, hb, hI, hR, hB⟩ := hrel
    have HI := Lib.hid hI; clear hI
    have HR := Lib.hid hR; clear hR
    have HB := Lib.hid hB; clear hB
    by_cases hlt : i < len
    · obtain ⟨b0, off, rfl, hb0, hcell⟩ := HA.out.2.2 (by omega)
      obtain ⟨p, hp⟩ : ∃ p, ps.getD i (0, 0) = p := ⟨_, rfl⟩
      obtain ⟨k, n⟩ := p
      have hpb : k < 256 ∧ n ≤ topU := by
        rw [List.getD_eq_getElem?_getD, List.getElem?_eq_getElem (by rw [HA.out.1]; exact hlt), Option.getD_some] at hp
        have := HA.out.2.1 _ (List.getElem_mem (by rw [HA.out.1]; exact hlt))
        rw [hp] at this
        exact this
      have hc := hcell i hlt
      rw [hp] at hc
      have HC := Lib.hid hc; clear hc hp hcell
      obtain ⟨a2, b2, x, ok, hdo⟩ : ∃ a2 b2 x ok, doO a b k n = (a2, b2, x, ok) := ⟨_, _, _, _, rfl⟩
      have h2 : a2 ≤ b2 := by have := do_le (k := k) (n := n) hab; rwa [hdo] at this
      have h3 : b2 ≤ topU := by have := do_top (a := a) (k := k) hb hpb.2; rwa [hdo] at this
      have HDO := Lib.hid (fun W => ora_do a b k n W hab hb)
      rw [hdo] at HDO
      have hc0 : World.cell? _ ⟨b0, off + i * 2, none⟩ = some (.int .u8 (k : Int)) := (HB.out.cell (p := ⟨b0, off + i * 2, none⟩) hb0).trans HC.out.1
      have hc1 : World.cell? _ ⟨b0, off + i * 2 + 1, none⟩ = some (.int .u64 (n : Int)) := (HB.out.cell (p := ⟨b0, off + i * 2 + 1, none⟩) hb0).trans HC.out.2
      obtain ⟨r, hr⟩ : ∃ r, k % 4 = r := ⟨_, rfl⟩
      have hri : (k : Int) % 4 = (r : Int) := by omega
      have hr4 : r < 4 := by omega
      unfold doO at hdo
      rw [hr] at hdo
      clear hr hpb
      have HDO' := HDO
      rcases (show r = 0 ∨ r = 1 ∨ r = 2 ∨ r = 3 by omega) with rfl | rfl | rfl | rfl
      · rw [if_pos rfl] at hdo
        have HN := Lib.hid (fun W hI => ora_next a b g W hI hb)
        have hn : nextO a b = (x, ok, a2) ∧ b = b2 := by
          unfold nextO
          split at hdo <;> simp only [Prod.mk.injEq] at hdo <;> obtain ⟨rfl, rfl, rfl, rfl⟩ := hdo <;> exact ⟨by simp_all, rfl⟩
        obtain ⟨hn, hbb⟩ := hn
        rw [hn] at HN
        clear hdo hn hr4 HDO'
        go_wp2_with fail
        refine (HN.out _ HI.out).mono ?_
        rintro e w5 ⟨rfl, hi5, hk5⟩
        have hi5 : IsOra w5 g a2 b2 := hbb ▸ hi5
        have HR := Lib.hid (HR.out.keeps hk5 (fun e => hgh e.symm))
        have HB := Lib.hid (below_keeps HB.out hk5 HB.out.size (fun i hi => by cases hi; exact hg)); clear hk5
        have HI := Lib.hid hi5; clear hi5
        go_wp2
        have hck : w5.rangeAt b0 (off + i * 2) [.int .u8 k, .int .u64 n] := by
          have e0 := (HB.out.cell (p := ⟨b0, off + i * 2, none⟩) hb0).trans HC.out.1
          have e1 := (HB.out.cell (p := ⟨b0, off + i * 2 + 1, none⟩) hb0).trans HC.out.2
          intro j v hj
          match j with
          | 0 => simp only [List.getElem?_cons_zero, Option.some.injEq] at hj; subst hj; exact e0
          | 1 => simp only [List.getElem?_cons_succ, List.getElem?_cons_zero, Option.some.injEq] at hj; subst hj; exact e1
          | j + 2 => simp at hj
        have HCK := Lib.hid hck; clear hck
        have hhl := blk_lt HR.out
        have hbl : b0 < w5.heap.size := Nat.lt_of_lt_of_le hb0 HB.out.size
        have HI : Hid (IsOra w5 g a2 b2) := HI
        refine start_ (n := 14) (S := fun w' => RowO w' h a b ∧ w'.rangeAt b0 (off + i * 2) [.int .u8 k, .int .u64 n]) (ds := []) #[false, false, false, false, false, false, false, false, false, false, false, false, false, false] (by kernel_rfl) rfl rfl ⟨HR.out, HCK.out⟩ (fun hHeld => ?_)
        have HL := Lib.hid (below_drew (Below.refl w5.heap.size w5))
        have HL0 := HL
        refine pure_ (i := 1) (N := some 74) (v := ?_) (a' := ?_) #[false, true, false, false, false, false, false, false, false, false, false, false, false, false] rfl rfl (by kernel_rfl) (fun _ _ _ h => h) (Or.inl ⟨by rfl, ?_⟩) ?_ ?_
        rotate_left
        · intro w'
          go_simp
          with_reducible rfl
        rotate_left
        · simp only [Act.put, List.setIfInBounds_toArray, List.set_cons_zero, List.set_cons_succ, i64_w, i32_w]
          rfl
        refine pure_ (i := 2) (N := some 75) (v := ?_) (a' := ?_) #[false, true, true, false, false, false, false, false, false, false, false, false, false, false] rfl rfl (by kernel_rfl) (fun _ _ _ h => h) (Or.inl ⟨by rfl, ?_⟩) ?_ ?_
        rotate_left
        · intro w'
          go_simp
          with_reducible rfl
        rotate_left
        · simp only [Act.put, List.setIfInBounds_toArray, List.set_cons_zero, List.set_cons_succ, i64_w, i32_w]
          rfl
        refine pure_ (i := 3) (N := some 76) (v := ?_) (a' := ?_) #[false, true, true, true, false, false, false, false, false, false, false, false, false, false] rfl rfl (by kernel_rfl) (fun _ _ _ h => h) (Or.inl ⟨by rfl, ?_⟩) ?_ ?_
        rotate_left
        · intro w'
          go_simp
          with_reducible rfl
        rotate_left
        · simp only [Act.put, List.setIfInBounds_toArray, List.set_cons_zero, List.set_cons_succ, i64_w, i32_w]
          rfl
        refine take_ (i := 0) (N := some 73) (v := ?_) (a' := ?_) #[true, true, true, true, false, false, false, false, false, false, false, false, false, false] rfl rfl (by kernel_rfl) (fun _ _ _ h => h) (Or.inl ⟨by rfl, ?_⟩) hHeld ?_ ?_
        rotate_left
        · rintro w' ⟨s0, s1⟩
          refine run_row 33 (.tmp 6) ?_ h ?_ 33 #[.int .u64 a, .int .u64 b] (0, 0) _ s0 Try.underlying33 rfl (by kernel_rfl) <;> rfl
        rotate_left
        · simp only [Act.put, List.setIfInBounds_toArray, List.set_cons_zero, List.set_cons_succ, i64_w, i32_w]
          rfl
        refine take_ (i := 4) (N := some 77) (v := ?_) (a' := ?_) #[true, true, true, true, true, false, false, false, false, false, false, false, false, false] rfl rfl (by kernel_rfl) (fun _ _ _ h => h) (Or.inl ⟨by rfl, ?_⟩) hHeld ?_ ?_
        rotate_left
        · rintro w' ⟨s0, s1⟩
          refine run_midrow 35 (.tmp 76) ?_ b0 (off + i * 2) ?_ [.int .u8 k, .int .u64 n] _ s1 Try.underlying35 rfl (by kernel_rfl) <;> rfl
        rotate_left
        · simp only [Act.put, List.setIfInBounds_toArray, List.set_cons_zero, List.set_cons_succ, i64_w, i32_w]
          rfl
        refine join_ (σ := Nat) 3 #[true, true, true, true, true, true, true, true, true, true, true, false, false, false] (fun s => [(78, .tuple #[.agg #[.int .u64 a2, .int .u64 b2], .int .u64 x, .bool ok]), (72, .tuple #[.agg #[.int .u64 a2, .int .u64 b2], .int .u64 x, .bool ok]), (79, .agg #[.int .u64 a2, .int .u64 b2]), (80, .int .u64 x), (81, .bool ok), (14, .pointer (some ⟨s, 0, none⟩))]) (fun s w' => (RowO w' h a b ∧ w'.rangeAt b0 (off + i * 2) [.int .u8 k, .int .u64 n]) ∧ RowO w' s 0 0 ∧ w5.heap.size ≤ s ∧ Below w5.heap.size w5 w') ?_ ?_
        rotate_left
        · intro hCont
          refine two_ (i := 5) (j := 10) (Ni := some 78) (Nj := some 14) #[true, true, true, true, true, true, false, false, false, false, false, false, false, false] #[true, true, true, true, true, false, false, false, false, false, true, false, false, false] rfl rfl rfl rfl (by kernel_rfl) (by decide) (by decide) (fun K hK => ?_) (fun K hK => ?_)
          · skip
            refine goes_ Try.func15 (by kernel_rfl) rfl #[.agg #[.int .u64 a, .int .u64 b], .agg #[.int .u8 k, .int .u64 n]] (by rfl) rfl rfl (by (try simp only [List.map_toArray, List.map_cons, List.map_nil]); first | done | rfl) ?_
            with_reducible refine (HDO.out _).mono ?_
            rintro e w6 ⟨rfl, hb6⟩
            refine ⟨_, rfl, ?_⟩
            have HL := Lib.hid (HL.out.trans (hb6.mono HL.out.size))
            refine hK.out _ _ ⟨hHeld.1.below hb6, range_below hHeld.2 hb6 (Nat.lt_of_lt_of_le hbl HL0.out.size)⟩ (fun hHeld => ?_)
            clear hK K
            refine norm_ (a' := ?_) ?_ ?_
            rotate_left
            · show Act.put _ (some 78) _ = _
              simp only [Act.put, List.setIfInBounds_toArray, List.set_cons_zero, List.set_cons_succ, i64_w, i32_w]
              rfl
            refine pure_ (i := 6) (N := some 72) (v := ?_) (a' := ?_) #[true, true, true, true, true, true, true, false, false, false, false, false, false, false] rfl rfl (by kernel_rfl) (fun _ _ _ h => h) (Or.inl ⟨by rfl, ?_⟩) ?_ ?_
            rotate_left
            · intro w'
              go_simp
              with_reducible rfl
            rotate_left
            · simp only [Act.put, List.setIfInBounds_toArray, List.set_cons_zero, List.set_cons_succ, i64_w, i32_w]
              rfl
            refine pure_ (i := 7) (N := some 79) (v := ?_) (a' := ?_) #[true, true, true, true, true, true, true, true, false, false, false, false, false, false] rfl rfl (by kernel_rfl) (fun _ _ _ h => h) (Or.inl ⟨by rfl, ?_⟩) ?_ ?_
            rotate_left
            · intro w'
              go_simp
              with_reducible rfl
            rotate_left
            · simp only [Act.put, List.setIfInBounds_toArray, List.set_cons_zero, List.set_cons_succ, i64_w, i32_w]
              rfl
            refine pure_ (i := 8) (N := some 80) (v := ?_) (a' := ?_) #[true, true, true, true, true, true, true, true, true, false, false, false, false, false] rfl rfl (by kernel_rfl) (fun _ _ _ h => h) (Or.inl ⟨by rfl, ?_⟩) ?_ ?_
            rotate_left
            · intro w'
              go_simp
              with_reducible rfl
            rotate_left
            · simp only [Act.put, List.setIfInBounds_toArray, List.set_cons_zero, List.set_cons_succ, i64_w, i32_w]
              rfl
            refine pure_ (i := 9) (N := some 81) (v := ?_) (a' := ?_) #[true, true, true, true, true, true, true, true, true, true, false, false, false, false] rfl rfl (by kernel_rfl) (fun _ _ _ h => h) (Or.inl ⟨by rfl, ?_⟩) ?_ ?_
            rotate_left
            · intro w'
              go_simp
              with_reducible rfl
            rotate_left
            · simp only [Act.put, List.setIfInBounds_toArray, List.set_cons_zero, List.set_cons_succ, i64_w, i32_w]
              rfl
            refine one_ (i := 10) (N := some 14) #[true, true, true, true, true, true, true, true, true, true, true, false, false, false] rfl rfl (by kernel_rfl) (by decide) (fun K hK => ?_)
            refine value_ (w1 := ?_) (v := ?_) (by rfl) rfl ?_ ?_
            rotate_left 2
            · go_simp
              constructor
              · rfl
              · rfl
            have HS := Lib.hid (show RowO _ _ 0 0 from blk_new w6 (.cells #[.int .u64 0, .int .u64 0] 33 (0, 0)))
            have HL := Lib.hid (below_alloc HL.out (.cells #[.int .u64 0, .int .u64 0] 33))
            refine hK.out _ _ ⟨hHeld.1.below (below_alloc (Below.refl _ _) _), range_below hHeld.2 (below_alloc (Below.refl _ _) _) (Nat.lt_of_lt_of_le hbl (Nat.le_trans HL0.out.size hb6.size))⟩ (fun hHeld => ?_)
            clear hK K
            refine norm_ (a' := ?_) ?_ ?_
            rotate_left
            · show Act.put _ (some 14) _ = _
              simp only [Act.put, List.setIfInBounds_toArray, List.set_cons_zero, List.set_cons_succ, i64_w, i32_w]
              rfl
            exact norm_ (by simp only [putAll, Act.put, List.setIfInBounds_toArray, List.set_cons_zero, List.set_cons_succ]) (hCont w6.heap.size _ ⟨hHeld, HS.out, hb6.size, HL.out⟩)
          · skip
            refine value_ (w1 := ?_) (v := ?_) (by rfl) rfl ?_ ?_
            rotate_left 2
            · go_simp
              constructor
              · rfl
              · rfl
            have HS := Lib.hid (show RowO _ _ 0 0 from blk_new w5.drew (.cells #[.int .u64 0, .int .u64 0] 33 (0, 0)))
            have HL := Lib.hid (below_alloc HL.out (.cells #[.int .u64 0, .int .u64 0] 33))
            refine hK.out _ _ ⟨hHeld.1.below (below_alloc (Below.refl _ _) _), range_below hHeld.2 (below_alloc (Below.refl _ _) _) (Nat.lt_of_lt_of_le hbl HL0.out.size)⟩ (fun hHeld => ?_)
            clear hK K
            refine norm_ (a' := ?_) ?_ ?_
            rotate_left
            · show Act.put _ (some 14) _ = _
              simp only [Act.put, List.setIfInBounds_toArray, List.set_cons_zero, List.set_cons_succ, i64_w, i32_w]
              rfl
            refine one_ (i := 5) (N := some 78) #[true, true, true, true, true, true, false, false, false, false, true, false, false, false] rfl rfl (by kernel_rfl) (by decide) (fun K hK => ?_)
            refine goes_ Try.func15 (by kernel_rfl) rfl #[.agg #[.int .u64 a, .int .u64 b], .agg #[.int .u8 k, .int .u64 n]] (by rfl) rfl rfl (by (try simp only [List.map_toArray, List.map_cons, List.map_nil]); first | done | rfl) ?_
            with_reducible refine (HDO.out _).mono ?_
            rintro e w6 ⟨rfl, hb6⟩
            refine ⟨_, rfl, ?_⟩
            have HL := Lib.hid (HL.out.trans (hb6.mono HL.out.size))
            have HS := Lib.hid (HS.out.below hb6)
            refine hK.out _ _ ⟨hHeld.1.below hb6, range_below hHeld.2 hb6 (Nat.lt_of_lt_of_le hbl (below_alloc HL0.out _).size)⟩ (fun hHeld => ?_)
            clear hK K
            refine norm_ (a' := ?_) ?_ ?_
            rotate_left
            · show Act.put _ (some 78) _ = _
              simp only [Act.put, List.setIfInBounds_toArray, List.set_cons_zero, List.set_cons_succ, i64_w, i32_w]
              rfl
            refine pure_ (i := 6) (N := some 72) (v := ?_) (a' := ?_) #[true, true, true, true, true, true, true, false, false, false, true, false, false, false] rfl rfl (by kernel_rfl) (fun _ _ _ h => h) (Or.inl ⟨by rfl, ?_⟩) ?_ ?_
            rotate_left
            · intro w'
              go_simp
              with_reducible rfl
            rotate_left
            · simp only [Act.put, List.setIfInBounds_toArray, List.set_cons_zero, List.set_cons_succ, i64_w, i32_w]
              rfl
            refine pure_ (i := 7) (N := some 79) (v := ?_) (a' := ?_) #[true, true, true, true, true, true, true, true, false, false, true, false, false, false] rfl rfl (by kernel_rfl) (fun _ _ _ h => h) (Or.inl ⟨by rfl, ?_⟩) ?_ ?_
            rotate_left
            · intro w'
              go_simp
              with_reducible rfl
            rotate_left
            · simp only [Act.put, List.setIfInBounds_toArray, List.set_cons_zero, List.set_cons_succ, i64_w, i32_w]
              rfl
            refine pure_ (i := 8) (N := some 80) (v := ?_) (a' := ?_) #[true, true, true, true, true, true, true, true, true, false, true, false, false, false] rfl rfl (by kernel_rfl) (fun _ _ _ h => h) (Or.inl ⟨by rfl, ?_⟩) ?_ ?_
            rotate_left
            · intro w'
              go_simp
              with_reducible rfl
            rotate_left
            · simp only [Act.put, List.setIfInBounds_toArray, List.set_cons_zero, List.set_cons_succ, i64_w, i32_w]
              rfl
            refine pure_ (i := 9) (N := some 81) (v := ?_) (a' := ?_) #[true, true, true, true, true, true, true, true, true, true, true, false, false, false] rfl rfl (by kernel_rfl) (fun _ _ _ h => h) (Or.inl ⟨by rfl, ?_⟩) ?_ ?_
            rotate_left
            · intro w'
              go_simp
              with_reducible rfl
            rotate_left
            · simp only [Act.put, List.setIfInBounds_toArray, List.set_cons_zero, List.set_cons_succ, i64_w, i32_w]
              rfl
            exact norm_ (by simp only [putAll, Act.put, List.setIfInBounds_toArray, List.set_cons_zero, List.set_cons_succ]) (hCont w5.heap.size _ ⟨hHeld, HS.out, Nat.le_refl _, HL.out⟩)
        rintro s w7 ⟨hHeld, hs, hs1, hl⟩
        have HS := Lib.hid hs; clear hs
        have HL := Lib.hid hl; clear hl
        refine norm_ (a' := ?_) ?_ ?_
        rotate_left
        · simp only [putAll, Act.put, List.setIfInBounds_toArray, List.set_cons_zero, List.set_cons_succ]
          rfl
        refine one_ (i := 11) (N := none) #[true, true, true, true, true, true, true, true, true, true, true, true, false, false] rfl rfl (by kernel_rfl) (by decide) (fun K hK => ?_)
        refine skip_ (w1 := w7.setRow s #[.int .u64 a2, .int .u64 b2]) (by rfl) rfl (by refine run_strow 33 (.tmp 14) (.tmp 79) ?_ s #[.int .u64 a2, .int .u64 b2] ?_ ?_ 33 #[.int .u64 0, .int .u64 0] HS.out (by kernel_rfl) rfl (by simp [Value.oneCell']) <;> rfl) ?_
        refine hK.out _ _ ⟨(setRow_other _ _ _ _ (by omega)).trans hHeld.1, range_setRow hHeld.2 (by omega) _⟩ (fun hHeld => ?_)
        clear hK K
        refine pure_ (i := 12) (N := some 15) (v := ?_) (a' := ?_) #[true, true, true, true, true, true, true, true, true, true, true, true, true, false] rfl rfl (by kernel_rfl) (fun _ _ _ h => h) (Or.inl ⟨by rfl, ?_⟩) ?_ ?_
        rotate_left
        · intro w'
          go_simp
          with_reducible rfl
        rotate_left
        · simp only [Act.put, List.setIfInBounds_toArray, List.set_cons_zero, List.set_cons_succ, i64_w, i32_w]
          rfl
        refine pure_ (i := 13) (N := some 16) (v := ?_) (a' := ?_) #[true, true, true, true, true, true, true, true, true, true, true, true, true, true] rfl rfl (by kernel_rfl) (fun _ _ _ h => h) (Or.inl ⟨by rfl, ?_⟩) ?_ ?_
        rotate_left
        · intro w'
          go_simp
          with_reducible rfl
        rotate_left
        · simp only [Act.put, List.setIfInBounds_toArray, List.set_cons_zero, List.set_cons_succ, i64_w, i32_w]
          rfl
        refine done_ (by kernel_rfl) ?_

        clear HL0
        have HS := Lib.hid (show RowO _ s a2 b2 from setRow_heap _ _ _ _ _ _ HS.out)
        have HL := Lib.hid (below_setRow HL.out hs1 #[.int .u64 a2, .int .u64 b2])
        have HI := Lib.hid (HI.out.below HL.out)
        have HB := Lib.hid (HB.out.trans (HL.out.mono HB.out.size))
        have HR := Lib.hid hHeld.1
        clear HL
        generalize w7.setRow s #[.int .u64 a2, .int .u64 b2] = w8 at *
        go_wp2_with (first | refine wpList_load_row rfl 33 _ rfl s rfl 33 #[.int .u64 a2, .int .u64 b2] (0, 0) _ HS.out Try.underlying33 rfl (by kernel_rfl) ?_ | refine wpList_store_row rfl 33 _ _ rfl h #[.int .u64 a2, .int .u64 b2] rfl rfl 33 #[.int .u64 a, .int .u64 b] HR.out (by kernel_rfl) rfl (by simp [Value.oneCell']) ?_)
        have HI := Lib.hid (show IsOra (w8.setRow h #[.int .u64 a2, .int .u64 b2]) g a2 b2 from (setRow_other _ _ _ _ hgh).trans HI.out)
        have HR := Lib.hid (show RowO _ h a2 b2 from setRow_heap _ _ _ _ _ _ HR.out)
        have HB := Lib.hid (below_setRow HB.out hwh #[.int .u64 a2, .int .u64 b2])
        generalize w8.setRow h #[.int .u64 a2, .int .u64 b2] = w9 at *
        refine start_ (n := 15) (S := fun w' => w'.cell? ⟨h, 0, none⟩ = some (.int .u64 a2) ∧ IsOra w' g a2 b2) (ds := []) #[false, false, false, false, false, false, false, false, false, false, false, false, false, false, false] (by kernel_rfl) rfl rfl ⟨(blk_cell HR.out 0).trans rfl, HI.out⟩ (fun hHeld => ?_)
        have HB := Lib.hid (below_drew HB.out)
        refine pure_ (i := 0) (N := some 83) (v := ?_) (a' := ?_) #[true, false, false, false, false, false, false, false, false, false, false, false, false, false, false] rfl rfl (by kernel_rfl) (fun _ _ _ h => h) (Or.inl ⟨by rfl, ?_⟩) ?_ ?_
        rotate_left
        · intro w'
          go_simp
          with_reducible rfl
        rotate_left
        · simp only [Act.put, List.setIfInBounds_toArray, List.set_cons_zero, List.set_cons_succ, i64_w, i32_w]
          rfl
        refine pure_ (i := 1) (N := some 84) (v := ?_) (a' := ?_) #[true, true, false, false, false, false, false, false, false, false, false, false, false, false, false] rfl rfl (by kernel_rfl) (fun _ _ _ h => h) (Or.inl ⟨by rfl, ?_⟩) ?_ ?_
        rotate_left
        · intro w'
          go_simp
          with_reducible rfl
        rotate_left
        · simp only [Act.put, List.setIfInBounds_toArray, List.set_cons_zero, List.set_cons_succ, i64_w, i32_w]
          rfl
        refine pure_ (i := 2) (N := some 85) (v := ?_) (a' := ?_) #[true, true, true, false, false, false, false, false, false, false, false, false, false, false, false] rfl rfl (by kernel_rfl) (fun _ _ _ h => h) (Or.inl ⟨by rfl, ?_⟩) ?_ ?_
        rotate_left
        · intro w'
          go_simp
          with_reducible rfl
        rotate_left
        · simp only [Act.put, List.setIfInBounds_toArray, List.set_cons_zero, List.set_cons_succ, i64_w, i32_w]
          rfl
        refine pure_ (i := 3) (N := some 86) (v := ?_) (a' := ?_) #[true, true, true, true, false, false, false, false, false, false, false, false, false, false, false] rfl rfl (by kernel_rfl) (fun _ _ _ h => h) (Or.inl ⟨by rfl, ?_⟩) ?_ ?_
        rotate_left
        · intro w'
          go_simp
          with_reducible rfl
        rotate_left
        · simp only [Act.put, List.setIfInBounds_toArray, List.set_cons_zero, List.set_cons_succ, i64_w, i32_w]
          rfl
        refine pure_ (i := 4) (N := some 87) (v := ?_) (a' := ?_) #[true, true, true, true, true, false, false, false, false, false, false, false, false, false, false] rfl rfl (by kernel_rfl) (fun _ _ _ h => h) (Or.inl ⟨by rfl, ?_⟩) ?_ ?_
        rotate_left
        · intro w'
          go_simp
          with_reducible rfl
        rotate_left
        · simp only [Act.put, List.setIfInBounds_toArray, List.set_cons_zero, List.set_cons_succ, i64_w, i32_w]
          rfl
        refine pure_ (i := 5) (N := some 88) (v := ?_) (a' := ?_) #[true, true, true, true, true, true, false, false, false, false, false, false, false, false, false] rfl rfl (by kernel_rfl) (fun _ _ _ h => h) (Or.inl ⟨by rfl, ?_⟩) ?_ ?_
        rotate_left
        · intro w'
          go_simp
          with_reducible rfl
        rotate_left
        · simp only [Act.put, List.setIfInBounds_toArray, List.set_cons_zero, List.set_cons_succ, i64_w, i32_w]
          rfl
        refine pure_ (i := 6) (N := some 89) (v := ?_) (a' := ?_) #[true, true, true, true, true, true, true, false, false, false, false, false, false, false, false] rfl rfl (by kernel_rfl) (fun _ _ _ h => h) (Or.inl ⟨by rfl, ?_⟩) ?_ ?_
        rotate_left
        · intro w'
          go_simp
          with_reducible rfl
        rotate_left
        · simp only [Act.put, List.setIfInBounds_toArray, List.set_cons_zero, List.set_cons_succ, i64_w, i32_w]
          rfl
        refine pure_ (i := 7) (N := some 90) (v := ?_) (a' := ?_) #[true, true, true, true, true, true, true, true, false, false, false, false, false, false, false] rfl rfl (by kernel_rfl) (fun _ _ _ h => h) (Or.inl ⟨by rfl, ?_⟩) ?_ ?_
        rotate_left
        · intro w'
          go_simp
          with_reducible rfl
        rotate_left
        · simp only [Act.put, List.setIfInBounds_toArray, List.set_cons_zero, List.set_cons_succ, i64_w, i32_w]
          rfl
        refine pure_ (i := 8) (N := some 91) (v := ?_) (a' := ?_) #[true, true, true, true, true, true, true, true, true, false, false, false, false, false, false] rfl rfl (by kernel_rfl) (fun _ _ _ h => h) (Or.inl ⟨by rfl, ?_⟩) ?_ ?_
        rotate_left
        · intro w'
          go_simp
          with_reducible rfl
        rotate_left
        · simp only [Act.put, List.setIfInBounds_toArray, List.set_cons_zero, List.set_cons_succ, i64_w, i32_w]
          rfl
        refine pure_ (i := 9) (N := some 92) (v := ?_) (a' := ?_) #[true, true, true, true, true, true, true, true, true, true, false, false, false, false, false] rfl rfl (by kernel_rfl) (fun _ _ _ h => h) (Or.inl ⟨by rfl, ?_⟩) ?_ ?_
        rotate_left
        · intro w'
          go_simp
          with_reducible rfl
        rotate_left
        · simp only [Act.put, List.setIfInBounds_toArray, List.set_cons_zero, List.set_cons_succ, i64_w, i32_w]
          rfl
        refine pure_ (i := 11) (N := some 94) (v := ?_) (a' := ?_) #[true, true, true, true, true, true, true, true, true, true, false, true, false, false, false] rfl rfl (by kernel_rfl) (fun _ _ _ h => h) (Or.inl ⟨by rfl, ?_⟩) ?_ ?_
        rotate_left
        · intro w'
          go_simp
          with_reducible rfl
        rotate_left
        · simp only [Act.put, List.setIfInBounds_toArray, List.set_cons_zero, List.set_cons_succ, i64_w, i32_w]
          rfl
        refine take_ (i := 12) (N := some 95) (v := ?_) (a' := ?_) #[true, true, true, true, true, true, true, true, true, true, false, true, true, false, false] rfl rfl (by kernel_rfl) (fun _ _ _ h => h) (Or.inl ⟨by rfl, ?_⟩) hHeld ?_ ?_
        rotate_left
        · rintro w' ⟨s0, s1⟩
          go_simp
          with_reducible rfl
        rotate_left
        · simp only [Act.put, List.setIfInBounds_toArray, List.set_cons_zero, List.set_cons_succ, i64_w, i32_w]
          rfl
        refine one_ (i := 10) (N := some 93) #[true, true, true, true, true, true, true, true, true, true, true, true, true, false, false] rfl rfl (by kernel_rfl) (by decide) (fun K hK => ?_)
        refine goes_ Try.func16 (by kernel_rfl) rfl #[.pointer (some ⟨g, 0, none⟩)] (by rfl) rfl rfl (by (try simp only [List.map_toArray, List.map_cons, List.map_nil]); first | done | rfl) ?_
        with_reducible refine (ora_last a2 b2 g _ hHeld.2).mono ?_
        rintro e w10 ⟨rfl, rfl⟩
        refine ⟨_, rfl, ?_⟩
        refine hK.out _ _ ⟨hHeld.1, hHeld.2⟩ (fun hHeld => ?_)
        clear hK K
        refine norm_ (a' := ?_) ?_ ?_
        rotate_left
        · show Act.put _ (some 93) _ = _
          simp only [Act.put, List.setIfInBounds_toArray, List.set_cons_zero, List.set_cons_succ, i64_w, i32_w]
          rfl
        refine pure_ (i := 13) (N := some 96) (v := ?_) (a' := ?_) #[true, true, true, true, true, true, true, true, true, true, true, true, true, true, false] rfl rfl (by kernel_rfl) (fun _ _ _ h => h) (Or.inl ⟨by rfl, ?_⟩) ?_ ?_
        rotate_left
        · intro w'
          go_simp
          with_reducible rfl
        rotate_left
        · simp only [Act.put, List.setIfInBounds_toArray, List.set_cons_zero, List.set_cons_succ, i64_w, i32_w]
          rfl
        refine pure_ (i := 14) (N := some 97) (v := ?_) (a' := ?_) #[true, true, true, true, true, true, true, true, true, true, true, true, true, true, true] rfl rfl (by kernel_rfl) (fun _ _ _ h => h) (Or.inl ⟨by rfl, ?_⟩) ?_ ?_
        rotate_left
        · intro w'
          go_simp
          with_reducible rfl
        rotate_left
        · simp only [Act.put, List.setIfInBounds_toArray, List.set_cons_zero, List.set_cons_succ, i64_w, i32_w]
          rfl
        refine done_ (by kernel_rfl) ?_

        go_wp2
        go_roundw
        case rel => exact ⟨i + 1, g, a2, b2, by go_num, by omega, rfl, hg, hgh, h2, h3, HI.out, HR.out, HB.out⟩
        case measure => simp [intOf]; omega
      · rw [if_neg (by decide), if_pos rfl] at hdo
        simp only [Prod.mk.injEq] at hdo
        obtain ⟨haa, hbb, hx, hok⟩ := hdo
        have HN := Lib.hid (fun W hI => ora_want a b g W hI hb)
        rw [hx, hok] at HN
        clear hr4 HDO' hx hok
        go_wp2_with fail
        refine (HN.out _ HI.out).mono ?_
        rintro e w5 ⟨rfl, hb5⟩
        have hi5 : IsOra w5 g a2 b2 := hbb ▸ haa ▸ HI.out.below hb5
        have HR := Lib.hid (HR.out.below hb5)
        have HB := Lib.hid (HB.out.trans (hb5.mono HB.out.size)); clear hb5
        have HI := Lib.hid hi5; clear hi5
        go_wp2
        have hck : w5.rangeAt b0 (off + i * 2) [.int .u8 k, .int .u64 n] := by
          have e0 := (HB.out.cell (p := ⟨b0, off + i * 2, none⟩) hb0).trans HC.out.1
          have e1 := (HB.out.cell (p := ⟨b0, off + i * 2 + 1, none⟩) hb0).trans HC.out.2
          intro j v hj
          match j with
          | 0 => simp only [List.getElem?_cons_zero, Option.some.injEq] at hj; subst hj; exact e0
          | 1 => simp only [List.getElem?_cons_succ, List.getElem?_cons_zero, Option.some.injEq] at hj; subst hj; exact e1
          | j + 2 => simp at hj
        have HCK := Lib.hid hck; clear hck
        have hhl := blk_lt HR.out
        have hbl : b0 < w5.heap.size := Nat.lt_of_lt_of_le hb0 HB.out.size
        refine start_ (n := 14) (S := fun w' => RowO w' h a b ∧ w'.rangeAt b0 (off + i * 2) [.int .u8 k, .int .u64 n]) (ds := []) #[false, false, false, false, false, false, false, false, false, false, false, false, false, false] (by kernel_rfl) rfl rfl ⟨HR.out, HCK.out⟩ (fun hHeld => ?_)
        have HL := Lib.hid (below_drew (Below.refl w5.heap.size w5))
        have HL0 := HL
        refine pure_ (i := 1) (N := some 74) (v := ?_) (a' := ?_) #[false, true, false, false, false, false, false, false, false, false, false, false, false, false] rfl rfl (by kernel_rfl) (fun _ _ _ h => h) (Or.inl ⟨by rfl, ?_⟩) ?_ ?_
        rotate_left
        · intro w'
          go_simp
          with_reducible rfl
        rotate_left
        · simp only [Act.put, List.setIfInBounds_toArray, List.set_cons_zero, List.set_cons_succ, i64_w, i32_w]
          rfl
        refine pure_ (i := 2) (N := some 75) (v := ?_) (a' := ?_) #[false, true, true, false, false, false, false, false, false, false, false, false, false, false] rfl rfl (by kernel_rfl) (fun _ _ _ h => h) (Or.inl ⟨by rfl, ?_⟩) ?_ ?_
        rotate_left
        · intro w'
          go_simp
          with_reducible rfl
        rotate_left
        · simp only [Act.put, List.setIfInBounds_toArray, List.set_cons_zero, List.set_cons_succ, i64_w, i32_w]
          rfl
        refine pure_ (i := 3) (N := some 76) (v := ?_) (a' := ?_) #[false, true, true, true, false, false, false, false, false, false, false, false, false, false] rfl rfl (by kernel_rfl) (fun _ _ _ h => h) (Or.inl ⟨by rfl, ?_⟩) ?_ ?_
        rotate_left
        · intro w'
          go_simp
          with_reducible rfl
        rotate_left
        · simp only [Act.put, List.setIfInBounds_toArray, List.set_cons_zero, List.set_cons_succ, i64_w, i32_w]
          rfl
        refine take_ (i := 0) (N := some 73) (v := ?_) (a' := ?_) #[true, true, true, true, false, false, false, false, false, false, false, false, false, false] rfl rfl (by kernel_rfl) (fun _ _ _ h => h) (Or.inl ⟨by rfl, ?_⟩) hHeld ?_ ?_
        rotate_left
        · rintro w' ⟨s0, s1⟩
          refine run_row 33 (.tmp 6) ?_ h ?_ 33 #[.int .u64 a, .int .u64 b] (0, 0) _ s0 Try.underlying33 rfl (by kernel_rfl) <;> rfl
        rotate_left
        · simp only [Act.put, List.setIfInBounds_toArray, List.set_cons_zero, List.set_cons_succ, i64_w, i32_w]
          rfl
        refine take_ (i := 4) (N := some 77) (v := ?_) (a' := ?_) #[true, true, true, true, true, false, false, false, false, false, false, false, false, false] rfl rfl (by kernel_rfl) (fun _ _ _ h => h) (Or.inl ⟨by rfl, ?_⟩) hHeld ?_ ?_
        rotate_left
        · rintro w' ⟨s0, s1⟩
          refine run_midrow 35 (.tmp 76) ?_ b0 (off + i * 2) ?_ [.int .u8 k, .int .u64 n] _ s1 Try.underlying35 rfl (by kernel_rfl) <;> rfl
        rotate_left
        · simp only [Act.put, List.setIfInBounds_toArray, List.set_cons_zero, List.set_cons_succ, i64_w, i32_w]
          rfl
        refine join_ (σ := Nat) 3 #[true, true, true, true, true, true, true, true, true, true, true, false, false, false] (fun s => [(78, .tuple #[.agg #[.int .u64 a2, .int .u64 b2], .int .u64 x, .bool ok]), (72, .tuple #[.agg #[.int .u64 a2, .int .u64 b2], .int .u64 x, .bool ok]), (79, .agg #[.int .u64 a2, .int .u64 b2]), (80, .int .u64 x), (81, .bool ok), (14, .pointer (some ⟨s, 0, none⟩))]) (fun s w' => (RowO w' h a b ∧ w'.rangeAt b0 (off + i * 2) [.int .u8 k, .int .u64 n]) ∧ RowO w' s 0 0 ∧ w5.heap.size ≤ s ∧ Below w5.heap.size w5 w') ?_ ?_
        rotate_left
        · intro hCont
          refine two_ (i := 5) (j := 10) (Ni := some 78) (Nj := some 14) #[true, true, true, true, true, true, false, false, false, false, false, false, false, false] #[true, true, true, true, true, false, false, false, false, false, true, false, false, false] rfl rfl rfl rfl (by kernel_rfl) (by decide) (by decide) (fun K hK => ?_) (fun K hK => ?_)
          · skip
            refine goes_ Try.func15 (by kernel_rfl) rfl #[.agg #[.int .u64 a, .int .u64 b], .agg #[.int .u8 k, .int .u64 n]] (by rfl) rfl rfl (by (try simp only [List.map_toArray, List.map_cons, List.map_nil]); first | done | rfl) ?_
            with_reducible refine (HDO.out _).mono ?_
            rintro e w6 ⟨rfl, hb6⟩
            refine ⟨_, rfl, ?_⟩
            have HL := Lib.hid (HL.out.trans (hb6.mono HL.out.size))
            refine hK.out _ _ ⟨hHeld.1.below hb6, range_below hHeld.2 hb6 (Nat.lt_of_lt_of_le hbl HL0.out.size)⟩ (fun hHeld => ?_)
            clear hK K
            refine norm_ (a' := ?_) ?_ ?_
            rotate_left
            · show Act.put _ (some 78) _ = _
              simp only [Act.put, List.setIfInBounds_toArray, List.set_cons_zero, List.set_cons_succ, i64_w, i32_w]
              rfl
            refine pure_ (i := 6) (N := some 72) (v := ?_) (a' := ?_) #[true, true, true, true, true, true, true, false, false, false, false, false, false, false] rfl rfl (by kernel_rfl) (fun _ _ _ h => h) (Or.inl ⟨by rfl, ?_⟩) ?_ ?_
            rotate_left
            · intro w'
              go_simp
              with_reducible rfl
            rotate_left
            · simp only [Act.put, List.setIfInBounds_toArray, List.set_cons_zero, List.set_cons_succ, i64_w, i32_w]
              rfl
            refine pure_ (i := 7) (N := some 79) (v := ?_) (a' := ?_) #[true, true, true, true, true, true, true, true, false, false, false, false, false, false] rfl rfl (by kernel_rfl) (fun _ _ _ h => h) (Or.inl ⟨by rfl, ?_⟩) ?_ ?_
            rotate_left
            · intro w'
              go_simp
              with_reducible rfl
            rotate_left
            · simp only [Act.put, List.setIfInBounds_toArray, List.set_cons_zero, List.set_cons_succ, i64_w, i32_w]
              rfl
            refine pure_ (i := 8) (N := some 80) (v := ?_) (a' := ?_) #[true, true, true, true, true, true, true, true, true, false, false, false, false, false] rfl rfl (by kernel_rfl) (fun _ _ _ h => h) (Or.inl ⟨by rfl, ?_⟩) ?_ ?_
            rotate_left
            · intro w'
              go_simp
              with_reducible rfl
            rotate_left
            · simp only [Act.put, List.setIfInBounds_toArray, List.set_cons_zero, List.set_cons_succ, i64_w, i32_w]
              rfl
            refine pure_ (i := 9) (N := some 81) (v := ?_) (a' := ?_) #[true, true, true, true, true, true, true, true, true, true, false, false, false, false] rfl rfl (by kernel_rfl) (fun _ _ _ h => h) (Or.inl ⟨by rfl, ?_⟩) ?_ ?_
            rotate_left
            · intro w'
              go_simp
              with_reducible rfl
            rotate_left
            · simp only [Act.put, List.setIfInBounds_toArray, List.set_cons_zero, List.set_cons_succ, i64_w, i32_w]
              rfl
            refine one_ (i := 10) (N := some 14) #[true, true, true, true, true, true, true, true, true, true, true, false, false, false] rfl rfl (by kernel_rfl) (by decide) (fun K hK => ?_)
            refine value_ (w1 := ?_) (v := ?_) (by rfl) rfl ?_ ?_
            rotate_left 2
            · go_simp
              constructor
              · rfl
              · rfl
            have HS := Lib.hid (show RowO _ _ 0 0 from blk_new w6 (.cells #[.int .u64 0, .int .u64 0] 33 (0, 0)))
            have HL := Lib.hid (below_alloc HL.out (.cells #[.int .u64 0, .int .u64 0] 33))
            refine hK.out _ _ ⟨hHeld.1.below (below_alloc (Below.refl _ _) _), range_below hHeld.2 (below_alloc (Below.refl _ _) _) (Nat.lt_of_lt_of_le hbl (Nat.le_trans HL0.out.size hb6.size))⟩ (fun hHeld => ?_)
            clear hK K
            refine norm_ (a' := ?_) ?_ ?_
            rotate_left
            · show Act.put _ (some 14) _ = _
              simp only [Act.put, List.setIfInBounds_toArray, List.set_cons_zero, List.set_cons_succ, i64_w, i32_w]
              rfl
            exact norm_ (by simp only [putAll, Act.put, List.setIfInBounds_toArray, List.set_cons_zero, List.set_cons_succ]) (hCont w6.heap.size _ ⟨hHeld, HS.out, hb6.size, HL.out⟩)
          · skip
            refine value_ (w1 := ?_) (v := ?_) (by rfl) rfl ?_ ?_
            rotate_left 2
            · go_simp
              constructor
              · rfl
              · rfl
            have HS := Lib.hid (show RowO _ _ 0 0 from blk_new w5.drew (.cells #[.int .u64 0, .int .u64 0] 33 (0, 0)))
            have HL := Lib.hid (below_alloc HL.out (.cells #[.int .u64 0, .int .u64 0] 33))
            refine hK.out _ _ ⟨hHeld.1.below (below_alloc (Below.refl _ _) _), range_below hHeld.2 (below_alloc (Below.refl _ _) _) (Nat.lt_of_lt_of_le hbl HL0.out.size)⟩ (fun hHeld => ?_)
            clear hK K
            refine norm_ (a' := ?_) ?_ ?_
            rotate_left
            · show Act.put _ (some 14) _ = _
              simp only [Act.put, List.setIfInBounds_toArray, List.set_cons_zero, List.set_cons_succ, i64_w, i32_w]
              rfl
            refine one_ (i := 5) (N := some 78) #[true, true, true, true, true, true, false, false, false, false, true, false, false, false] rfl rfl (by kernel_rfl) (by decide) (fun K hK => ?_)
            refine goes_ Try.func15 (by kernel_rfl) rfl #[.agg #[.int .u64 a, .int .u64 b], .agg #[.int .u8 k, .int .u64 n]] (by rfl) rfl rfl (by (try simp only [List.map_toArray, List.map_cons, List.map_nil]); first | done | rfl) ?_
            with_reducible refine (HDO.out _).mono ?_
            rintro e w6 ⟨rfl, hb6⟩
            refine ⟨_, rfl, ?_⟩
            have HL := Lib.hid (HL.out.trans (hb6.mono HL.out.size))
            have HS := Lib.hid (HS.out.below hb6)
            refine hK.out _ _ ⟨hHeld.1.below hb6, range_below hHeld.2 hb6 (Nat.lt_of_lt_of_le hbl (below_alloc HL0.out _).size)⟩ (fun hHeld => ?_)
            clear hK K
            refine norm_ (a' := ?_) ?_ ?_
            rotate_left
            · show Act.put _ (some 78) _ = _
              simp only [Act.put, List.setIfInBounds_toArray, List.set_cons_zero, List.set_cons_succ, i64_w, i32_w]
              rfl
            refine pure_ (i := 6) (N := some 72) (v := ?_) (a' := ?_) #[true, true, true, true, true, true, true, false, false, false, true, false, false, false] rfl rfl (by kernel_rfl) (fun _ _ _ h => h) (Or.inl ⟨by rfl, ?_⟩) ?_ ?_
            rotate_left
            · intro w'
              go_simp
              with_reducible rfl
            rotate_left
            · simp only [Act.put, List.setIfInBounds_toArray, List.set_cons_zero, List.set_cons_succ, i64_w, i32_w]
              rfl
            refine pure_ (i := 7) (N := some 79) (v := ?_) (a' := ?_) #[true, true, true, true, true, true, true, true, false, false, true, false, false, false] rfl rfl (by kernel_rfl) (fun _ _ _ h => h) (Or.inl ⟨by rfl, ?_⟩) ?_ ?_
            rotate_left
            · intro w'
              go_simp
              with_reducible rfl
            rotate_left
            · simp only [Act.put, List.setIfInBounds_toArray, List.set_cons_zero, List.set_cons_succ, i64_w, i32_w]
              rfl
            refine pure_ (i := 8) (N := some 80) (v := ?_) (a' := ?_) #[true, true, true, true, true, true, true, true, true, false, true, false, false, false] rfl rfl (by kernel_rfl) (fun _ _ _ h => h) (Or.inl ⟨by rfl, ?_⟩) ?_ ?_
            rotate_left
            · intro w'
              go_simp
              with_reducible rfl
            rotate_left
            · simp only [Act.put, List.setIfInBounds_toArray, List.set_cons_zero, List.set_cons_succ, i64_w, i32_w]
              rfl
            refine pure_ (i := 9) (N := some 81) (v := ?_) (a' := ?_) #[true, true, true, true, true, true, true, true, true, true, true, false, false, false] rfl rfl (by kernel_rfl) (fun _ _ _ h => h) (Or.inl ⟨by rfl, ?_⟩) ?_ ?_
            rotate_left
            · intro w'
              go_simp
              with_reducible rfl
            rotate_left
            · simp only [Act.put, List.setIfInBounds_toArray, List.set_cons_zero, List.set_cons_succ, i64_w, i32_w]
              rfl
            exact norm_ (by simp only [putAll, Act.put, List.setIfInBounds_toArray, List.set_cons_zero, List.set_cons_succ]) (hCont w5.heap.size _ ⟨hHeld, HS.out, Nat.le_refl _, HL.out⟩)
        rintro s w7 ⟨hHeld, hs, hs1, hl⟩
        have HS := Lib.hid hs; clear hs
        have HL := Lib.hid hl; clear hl
        refine norm_ (a' := ?_) ?_ ?_
        rotate_left
        · simp only [putAll, Act.put, List.setIfInBounds_toArray, List.set_cons_zero, List.set_cons_succ]
          rfl
        refine one_ (i := 11) (N := none) #[true, true, true, true, true, true, true, true, true, true, true, true, false, false] rfl rfl (by kernel_rfl) (by decide) (fun K hK => ?_)
        refine skip_ (w1 := w7.setRow s #[.int .u64 a2, .int .u64 b2]) (by rfl) rfl (by refine run_strow 33 (.tmp 14) (.tmp 79) ?_ s #[.int .u64 a2, .int .u64 b2] ?_ ?_ 33 #[.int .u64 0, .int .u64 0] HS.out (by kernel_rfl) rfl (by simp [Value.oneCell']) <;> rfl) ?_
        refine hK.out _ _ ⟨(setRow_other _ _ _ _ (by omega)).trans hHeld.1, range_setRow hHeld.2 (by omega) _⟩ (fun hHeld => ?_)
        clear hK K
        refine pure_ (i := 12) (N := some 15) (v := ?_) (a' := ?_) #[true, true, true, true, true, true, true, true, true, true, true, true, true, false] rfl rfl (by kernel_rfl) (fun _ _ _ h => h) (Or.inl ⟨by rfl, ?_⟩) ?_ ?_
        rotate_left
        · intro w'
          go_simp
          with_reducible rfl
        rotate_left
        · simp only [Act.put, List.setIfInBounds_toArray, List.set_cons_zero, List.set_cons_succ, i64_w, i32_w]
          rfl
        refine pure_ (i := 13) (N := some 16) (v := ?_) (a' := ?_) #[true, true, true, true, true, true, true, true, true, true, true, true, true, true] rfl rfl (by kernel_rfl) (fun _ _ _ h => h) (Or.inl ⟨by rfl, ?_⟩) ?_ ?_
        rotate_left
        · intro w'
          go_simp
          with_reducible rfl
        rotate_left
        · simp only [Act.put, List.setIfInBounds_toArray, List.set_cons_zero, List.set_cons_succ, i64_w, i32_w]
          rfl
        refine done_ (by kernel_rfl) ?_

        clear HL0
        have HS := Lib.hid (show RowO _ s a2 b2 from setRow_heap _ _ _ _ _ _ HS.out)
        have HL := Lib.hid (below_setRow HL.out hs1 #[.int .u64 a2, .int .u64 b2])
        have HI := Lib.hid (HI.out.below HL.out)
        have HB := Lib.hid (HB.out.trans (HL.out.mono HB.out.size))
        have HR := Lib.hid hHeld.1
        clear HL
        generalize w7.setRow s #[.int .u64 a2, .int .u64 b2] = w8 at *
        go_wp2_with (first | refine wpList_load_row rfl 33 _ rfl s rfl 33 #[.int .u64 a2, .int .u64 b2] (0, 0) _ HS.out Try.underlying33 rfl (by kernel_rfl) ?_ | refine wpList_store_row rfl 33 _ _ rfl h #[.int .u64 a2, .int .u64 b2] rfl rfl 33 #[.int .u64 a, .int .u64 b] HR.out (by kernel_rfl) rfl (by simp [Value.oneCell']) ?_)
        have HI := Lib.hid (show IsOra (w8.setRow h #[.int .u64 a2, .int .u64 b2]) g a2 b2 from (setRow_other _ _ _ _ hgh).trans HI.out)
        have HR := Lib.hid (show RowO _ h a2 b2 from setRow_heap _ _ _ _ _ _ HR.out)
        have HB := Lib.hid (below_setRow HB.out hwh #[.int .u64 a2, .int .u64 b2])
        generalize w8.setRow h #[.int .u64 a2, .int .u64 b2] = w9 at *
        refine start_ (n := 15) (S := fun w' => w'.cell? ⟨h, 0, none⟩ = some (.int .u64 a2) ∧ IsOra w' g a2 b2) (ds := []) #[false, false, false, false, false, false, false, false, false, false, false, false, false, false, false] (by kernel_rfl) rfl rfl ⟨(blk_cell HR.out 0).trans rfl, HI.out⟩ (fun hHeld => ?_)
        have HB := Lib.hid (below_drew HB.out)
        refine pure_ (i := 0) (N := some 83) (v := ?_) (a' := ?_) #[true, false, false, false, false, false, false, false, false, false, false, false, false, false, false] rfl rfl (by kernel_rfl) (fun _ _ _ h => h) (Or.inl ⟨by rfl, ?_⟩) ?_ ?_
        rotate_left
        · intro w'
          go_simp
          with_reducible rfl
        rotate_left
        · simp only [Act.put, List.setIfInBounds_toArray, List.set_cons_zero, List.set_cons_succ, i64_w, i32_w]
          rfl
        refine pure_ (i := 1) (N := some 84) (v := ?_) (a' := ?_) #[true, true, false, false, false, false, false, false, false, false, false, false, false, false, false] rfl rfl (by kernel_rfl) (fun _ _ _ h => h) (Or.inl ⟨by rfl, ?_⟩) ?_ ?_
        rotate_left
        · intro w'
          go_simp
          with_reducible rfl
        rotate_left
        · simp only [Act.put, List.setIfInBounds_toArray, List.set_cons_zero, List.set_cons_succ, i64_w, i32_w]
          rfl
        refine pure_ (i := 2) (N := some 85) (v := ?_) (a' := ?_) #[true, true, true, false, false, false, false, false, false, false, false, false, false, false, false] rfl rfl (by kernel_rfl) (fun _ _ _ h => h) (Or.inl ⟨by rfl, ?_⟩) ?_ ?_
        rotate_left
        · intro w'
          go_simp
          with_reducible rfl
        rotate_left
        · simp only [Act.put, List.setIfInBounds_toArray, List.set_cons_zero, List.set_cons_succ, i64_w, i32_w]
          rfl
        refine pure_ (i := 3) (N := some 86) (v := ?_) (a' := ?_) #[true, true, true, true, false, false, false, false, false, false, false, false, false, false, false] rfl rfl (by kernel_rfl) (fun _ _ _ h => h) (Or.inl ⟨by rfl, ?_⟩) ?_ ?_
        rotate_left
        · intro w'
          go_simp
          with_reducible rfl
        rotate_left
        · simp only [Act.put, List.setIfInBounds_toArray, List.set_cons_zero, List.set_cons_succ, i64_w, i32_w]
          rfl
        refine pure_ (i := 4) (N := some 87) (v := ?_) (a' := ?_) #[true, true, true, true, true, false, false, false, false, false, false, false, false, false, false] rfl rfl (by kernel_rfl) (fun _ _ _ h => h) (Or.inl ⟨by rfl, ?_⟩) ?_ ?_
        rotate_left
        · intro w'
          go_simp
          with_reducible rfl
        rotate_left
        · simp only [Act.put, List.setIfInBounds_toArray, List.set_cons_zero, List.set_cons_succ, i64_w, i32_w]
          rfl
        refine pure_ (i := 5) (N := some 88) (v := ?_) (a' := ?_) #[true, true, true, true, true, true, false, false, false, false, false, false, false, false, false] rfl rfl (by kernel_rfl) (fun _ _ _ h => h) (Or.inl ⟨by rfl, ?_⟩) ?_ ?_
        rotate_left
        · intro w'
          go_simp
          with_reducible rfl
        rotate_left
        · simp only [Act.put, List.setIfInBounds_toArray, List.set_cons_zero, List.set_cons_succ, i64_w, i32_w]
          rfl
        refine pure_ (i := 6) (N := some 89) (v := ?_) (a' := ?_) #[true, true, true, true, true, true, true, false, false, false, false, false, false, false, false] rfl rfl (by kernel_rfl) (fun _ _ _ h => h) (Or.inl ⟨by rfl, ?_⟩) ?_ ?_
        rotate_left
        · intro w'
          go_simp
          with_reducible rfl
        rotate_left
        · simp only [Act.put, List.setIfInBounds_toArray, List.set_cons_zero, List.set_cons_succ, i64_w, i32_w]
          rfl
        refine pure_ (i := 7) (N := some 90) (v := ?_) (a' := ?_) #[true, true, true, true, true, true, true, true, false, false, false, false, false, false, false] rfl rfl (by kernel_rfl) (fun _ _ _ h => h) (Or.inl ⟨by rfl, ?_⟩) ?_ ?_
        rotate_left
        · intro w'
          go_simp
          with_reducible rfl
        rotate_left
        · simp only [Act.put, List.setIfInBounds_toArray, List.set_cons_zero, List.set_cons_succ, i64_w, i32_w]
          rfl
        refine pure_ (i := 8) (N := some 91) (v := ?_) (a' := ?_) #[true, true, true, true, true, true, true, true, true, false, false, false, false, false, false] rfl rfl (by kernel_rfl) (fun _ _ _ h => h) (Or.inl ⟨by rfl, ?_⟩) ?_ ?_
        rotate_left
        · intro w'
          go_simp
          with_reducible rfl
        rotate_left
        · simp only [Act.put, List.setIfInBounds_toArray, List.set_cons_zero, List.set_cons_succ, i64_w, i32_w]
          rfl
        refine pure_ (i := 9) (N := some 92) (v := ?_) (a' := ?_) #[true, true, true, true, true, true, true, true, true, true, false, false, false, false, false] rfl rfl (by kernel_rfl) (fun _ _ _ h => h) (Or.inl ⟨by rfl, ?_⟩) ?_ ?_
        rotate_left
        · intro w'
          go_simp
          with_reducible rfl
        rotate_left
        · simp only [Act.put, List.setIfInBounds_toArray, List.set_cons_zero, List.set_cons_succ, i64_w, i32_w]
          rfl
        refine pure_ (i := 11) (N := some 94) (v := ?_) (a' := ?_) #[true, true, true, true, true, true, true, true, true, true, false, true, false, false, false] rfl rfl (by kernel_rfl) (fun _ _ _ h => h) (Or.inl ⟨by rfl, ?_⟩) ?_ ?_
        rotate_left
        · intro w'
          go_simp
          with_reducible rfl
        rotate_left
        · simp only [Act.put, List.setIfInBounds_toArray, List.set_cons_zero, List.set_cons_succ, i64_w, i32_w]
          rfl
        refine take_ (i := 12) (N := some 95) (v := ?_) (a' := ?_) #[true, true, true, true, true, true, true, true, true, true, false, true, true, false, false] rfl rfl (by kernel_rfl) (fun _ _ _ h => h) (Or.inl ⟨by rfl, ?_⟩) hHeld ?_ ?_
        rotate_left
        · rintro w' ⟨s0, s1⟩
          go_simp
          with_reducible rfl
        rotate_left
        · simp only [Act.put, List.setIfInBounds_toArray, List.set_cons_zero, List.set_cons_succ, i64_w, i32_w]
          rfl
        refine one_ (i := 10) (N := some 93) #[true, true, true, true, true, true, true, true, true, true, true, true, true, false, false] rfl rfl (by kernel_rfl) (by decide) (fun K hK => ?_)
        refine goes_ Try.func16 (by kernel_rfl) rfl #[.pointer (some ⟨g, 0, none⟩)] (by rfl) rfl rfl (by (try simp only [List.map_toArray, List.map_cons, List.map_nil]); first | done | rfl) ?_
        with_reducible refine (ora_last a2 b2 g _ hHeld.2).mono ?_
        rintro e w10 ⟨rfl, rfl⟩
        refine ⟨_, rfl, ?_⟩
        refine hK.out _ _ ⟨hHeld.1, hHeld.2⟩ (fun hHeld => ?_)
        clear hK K
        refine norm_ (a' := ?_) ?_ ?_
        rotate_left
        · show Act.put _ (some 93) _ = _
          simp only [Act.put, List.setIfInBounds_toArray, List.set_cons_zero, List.set_cons_succ, i64_w, i32_w]
          rfl
        refine pure_ (i := 13) (N := some 96) (v := ?_) (a' := ?_) #[true, true, true, true, true, true, true, true, true, true, true, true, true, true, false] rfl rfl (by kernel_rfl) (fun _ _ _ h => h) (Or.inl ⟨by rfl, ?_⟩) ?_ ?_
        rotate_left
        · intro w'
          go_simp
          with_reducible rfl
        rotate_left
        · simp only [Act.put, List.setIfInBounds_toArray, List.set_cons_zero, List.set_cons_succ, i64_w, i32_w]
          rfl
        refine pure_ (i := 14) (N := some 97) (v := ?_) (a' := ?_) #[true, true, true, true, true, true, true, true, true, true, true, true, true, true, true] rfl rfl (by kernel_rfl) (fun _ _ _ h => h) (Or.inl ⟨by rfl, ?_⟩) ?_ ?_
        rotate_left
        · intro w'
          go_simp
          with_reducible rfl
        rotate_left
        · simp only [Act.put, List.setIfInBounds_toArray, List.set_cons_zero, List.set_cons_succ, i64_w, i32_w]
          rfl
        refine done_ (by kernel_rfl) ?_

        go_wp2
        go_roundw
        case rel => exact ⟨i + 1, g, a2, b2, by go_num, by omega, rfl, hg, hgh, h2, h3, HI.out, HR.out, HB.out⟩
        case measure => simp [intOf]; omega
      · rw [if_neg (by decide), if_neg (by decide), if_pos rfl] at hdo
        simp only [Prod.mk.injEq] at hdo
        obtain ⟨haa, hbb, rfl, rfl⟩ := hdo
        rw [show ((0 : Nat) : Int) = 0 from rfl] at HDO
        have HN := Lib.hid (fun W hI => ora_noted a b n g W hI)
        clear hr4 HDO'
        go_wp2_with fail
        refine (HN.out _ HI.out).mono ?_
        rintro e w5 ⟨rfl, hi5, hk5⟩
        have hi5 : IsOra w5 g a2 b2 := hbb ▸ haa ▸ hi5
        have HR := Lib.hid (HR.out.keeps hk5 (fun e => hgh e.symm))
        have HB := Lib.hid (below_keeps HB.out hk5 HB.out.size (fun i hi => by cases hi; exact hg)); clear hk5
        have HI := Lib.hid hi5; clear hi5
        go_wp2
        have hck : w5.rangeAt b0 (off + i * 2) [.int .u8 k, .int .u64 n] := by
          have e0 := (HB.out.cell (p := ⟨b0, off + i * 2, none⟩) hb0).trans HC.out.1
          have e1 := (HB.out.cell (p := ⟨b0, off + i * 2 + 1, none⟩) hb0).trans HC.out.2
          intro j v hj
          match j with
          | 0 => simp only [List.getElem?_cons_zero, Option.some.injEq] at hj; subst hj; exact e0
          | 1 => simp only [List.getElem?_cons_succ, List.getElem?_cons_zero, Option.some.injEq] at hj; subst hj; exact e1
          | j + 2 => simp at hj
        have HCK := Lib.hid hck; clear hck
        have hhl := blk_lt HR.out
        have hbl : b0 < w5.heap.size := Nat.lt_of_lt_of_le hb0 HB.out.size
        refine start_ (n := 14) (S := fun w' => RowO w' h a b ∧ w'.rangeAt b0 (off + i * 2) [.int .u8 k, .int .u64 n]) (ds := []) #[false, false, false, false, false, false, false, false, false, false, false, false, false, false] (by kernel_rfl) rfl rfl ⟨HR.out, HCK.out⟩ (fun hHeld => ?_)
        have HL := Lib.hid (below_drew (Below.refl w5.heap.size w5))
        have HL0 := HL
        refine pure_ (i := 1) (N := some 74) (v := ?_) (a' := ?_) #[false, true, false, false, false, false, false, false, false, false, false, false, false, false] rfl rfl (by kernel_rfl) (fun _ _ _ h => h) (Or.inl ⟨by rfl, ?_⟩) ?_ ?_
        rotate_left
        · intro w'
          go_simp
          with_reducible rfl
        rotate_left
        · simp only [Act.put, List.setIfInBounds_toArray, List.set_cons_zero, List.set_cons_succ, i64_w, i32_w]
          rfl
        refine pure_ (i := 2) (N := some 75) (v := ?_) (a' := ?_) #[false, true, true, false, false, false, false, false, false, false, false, false, false, false] rfl rfl (by kernel_rfl) (fun _ _ _ h => h) (Or.inl ⟨by rfl, ?_⟩) ?_ ?_
        rotate_left
        · intro w'
          go_simp
          with_reducible rfl
        rotate_left
        · simp only [Act.put, List.setIfInBounds_toArray, List.set_cons_zero, List.set_cons_succ, i64_w, i32_w]
          rfl
        refine pure_ (i := 3) (N := some 76) (v := ?_) (a' := ?_) #[false, true, true, true, false, false, false, false, false, false, false, false, false, false] rfl rfl (by kernel_rfl) (fun _ _ _ h => h) (Or.inl ⟨by rfl, ?_⟩) ?_ ?_
        rotate_left
        · intro w'
          go_simp
          with_reducible rfl
        rotate_left
        · simp only [Act.put, List.setIfInBounds_toArray, List.set_cons_zero, List.set_cons_succ, i64_w, i32_w]
          rfl
        refine take_ (i := 0) (N := some 73) (v := ?_) (a' := ?_) #[true, true, true, true, false, false, false, false, false, false, false, false, false, false] rfl rfl (by kernel_rfl) (fun _ _ _ h => h) (Or.inl ⟨by rfl, ?_⟩) hHeld ?_ ?_
        rotate_left
        · rintro w' ⟨s0, s1⟩
          refine run_row 33 (.tmp 6) ?_ h ?_ 33 #[.int .u64 a, .int .u64 b] (0, 0) _ s0 Try.underlying33 rfl (by kernel_rfl) <;> rfl
        rotate_left
        · simp only [Act.put, List.setIfInBounds_toArray, List.set_cons_zero, List.set_cons_succ, i64_w, i32_w]
          rfl
        refine take_ (i := 4) (N := some 77) (v := ?_) (a' := ?_) #[true, true, true, true, true, false, false, false, false, false, false, false, false, false] rfl rfl (by kernel_rfl) (fun _ _ _ h => h) (Or.inl ⟨by rfl, ?_⟩) hHeld ?_ ?_
        rotate_left
        · rintro w' ⟨s0, s1⟩
          refine run_midrow 35 (.tmp 76) ?_ b0 (off + i * 2) ?_ [.int .u8 k, .int .u64 n] _ s1 Try.underlying35 rfl (by kernel_rfl) <;> rfl
        rotate_left
        · simp only [Act.put, List.setIfInBounds_toArray, List.set_cons_zero, List.set_cons_succ, i64_w, i32_w]
          rfl
        refine join_ (σ := Nat) 3 #[true, true, true, true, true, true, true, true, true, true, true, false, false, false] (fun s => [(78, .tuple #[.agg #[.int .u64 a2, .int .u64 b2], .int .u64 0, .bool false]), (72, .tuple #[.agg #[.int .u64 a2, .int .u64 b2], .int .u64 0, .bool false]), (79, .agg #[.int .u64 a2, .int .u64 b2]), (80, .int .u64 0), (81, .bool false), (14, .pointer (some ⟨s, 0, none⟩))]) (fun s w' => (RowO w' h a b ∧ w'.rangeAt b0 (off + i * 2) [.int .u8 k, .int .u64 n]) ∧ RowO w' s 0 0 ∧ w5.heap.size ≤ s ∧ Below w5.heap.size w5 w') ?_ ?_
        rotate_left
        · intro hCont
          refine two_ (i := 5) (j := 10) (Ni := some 78) (Nj := some 14) #[true, true, true, true, true, true, false, false, false, false, false, false, false, false] #[true, true, true, true, true, false, false, false, false, false, true, false, false, false] rfl rfl rfl rfl (by kernel_rfl) (by decide) (by decide) (fun K hK => ?_) (fun K hK => ?_)
          · skip
            refine goes_ Try.func15 (by kernel_rfl) rfl #[.agg #[.int .u64 a, .int .u64 b], .agg #[.int .u8 k, .int .u64 n]] (by rfl) rfl rfl (by (try simp only [List.map_toArray, List.map_cons, List.map_nil]); first | done | rfl) ?_
            with_reducible refine (HDO.out _).mono ?_
            rintro e w6 ⟨rfl, hb6⟩
            refine ⟨_, rfl, ?_⟩
            have HL := Lib.hid (HL.out.trans (hb6.mono HL.out.size))
            refine hK.out _ _ ⟨hHeld.1.below hb6, range_below hHeld.2 hb6 (Nat.lt_of_lt_of_le hbl HL0.out.size)⟩ (fun hHeld => ?_)
            clear hK K
            refine norm_ (a' := ?_) ?_ ?_
            rotate_left
            · show Act.put _ (some 78) _ = _
              simp only [Act.put, List.setIfInBounds_toArray, List.set_cons_zero, List.set_cons_succ, i64_w, i32_w]
              rfl
            refine pure_ (i := 6) (N := some 72) (v := ?_) (a' := ?_) #[true, true, true, true, true, true, true, false, false, false, false, false, false, false] rfl rfl (by kernel_rfl) (fun _ _ _ h => h) (Or.inl ⟨by rfl, ?_⟩) ?_ ?_
            rotate_left
            · intro w'
              go_simp
              with_reducible rfl
            rotate_left
            · simp only [Act.put, List.setIfInBounds_toArray, List.set_cons_zero, List.set_cons_succ, i64_w, i32_w]
              rfl
            refine pure_ (i := 7) (N := some 79) (v := ?_) (a' := ?_) #[true, true, true, true, true, true, true, true, false, false, false, false, false, false] rfl rfl (by kernel_rfl) (fun _ _ _ h => h) (Or.inl ⟨by rfl, ?_⟩) ?_ ?_
            rotate_left
            · intro w'
              go_simp
              with_reducible rfl
            rotate_left
            · simp only [Act.put, List.setIfInBounds_toArray, List.set_cons_zero, List.set_cons_succ, i64_w, i32_w]
              rfl
            refine pure_ (i := 8) (N := some 80) (v := ?_) (a' := ?_) #[true, true, true, true, true, true, true, true, true, false, false, false, false, false] rfl rfl (by kernel_rfl) (fun _ _ _ h => h) (Or.inl ⟨by rfl, ?_⟩) ?_ ?_
            rotate_left
            · intro w'
              go_simp
              with_reducible rfl
            rotate_left
            · simp only [Act.put, List.setIfInBounds_toArray, List.set_cons_zero, List.set_cons_succ, i64_w, i32_w]
              rfl
            refine pure_ (i := 9) (N := some 81) (v := ?_) (a' := ?_) #[true, true, true, true, true, true, true, true, true, true, false, false, false, false] rfl rfl (by kernel_rfl) (fun _ _ _ h => h) (Or.inl ⟨by rfl, ?_⟩) ?_ ?_
            rotate_left
            · intro w'
              go_simp
              with_reducible rfl
            rotate_left
            · simp only [Act.put, List.setIfInBounds_toArray, List.set_cons_zero, List.set_cons_succ, i64_w, i32_w]
              rfl
            refine one_ (i := 10) (N := some 14) #[true, true, true, true, true, true, true, true, true, true, true, false, false, false] rfl rfl (by kernel_rfl) (by decide) (fun K hK => ?_)
            refine value_ (w1 := ?_) (v := ?_) (by rfl) rfl ?_ ?_
            rotate_left 2
            · go_simp
              constructor
              · rfl
              · rfl
            have HS := Lib.hid (show RowO _ _ 0 0 from blk_new w6 (.cells #[.int .u64 0, .int .u64 0] 33 (0, 0)))
            have HL := Lib.hid (below_alloc HL.out (.cells #[.int .u64 0, .int .u64 0] 33))
            refine hK.out _ _ ⟨hHeld.1.below (below_alloc (Below.refl _ _) _), range_below hHeld.2 (below_alloc (Below.refl _ _) _) (Nat.lt_of_lt_of_le hbl (Nat.le_trans HL0.out.size hb6.size))⟩ (fun hHeld => ?_)
            clear hK K
            refine norm_ (a' := ?_) ?_ ?_
            rotate_left
            · show Act.put _ (some 14) _ = _
              simp only [Act.put, List.setIfInBounds_toArray, List.set_cons_zero, List.set_cons_succ, i64_w, i32_w]
              rfl
            exact norm_ (by simp only [putAll, Act.put, List.setIfInBounds_toArray, List.set_cons_zero, List.set_cons_succ]) (hCont w6.heap.size _ ⟨hHeld, HS.out, hb6.size, HL.out⟩)
          · skip
            refine value_ (w1 := ?_) (v := ?_) (by rfl) rfl ?_ ?_
            rotate_left 2
            · go_simp
              constructor
              · rfl
              · rfl
            have HS := Lib.hid (show RowO _ _ 0 0 from blk_new w5.drew (.cells #[.int .u64 0, .int .u64 0] 33 (0, 0)))
            have HL := Lib.hid (below_alloc HL.out (.cells #[.int .u64 0, .int .u64 0] 33))
            refine hK.out _ _ ⟨hHeld.1.below (below_alloc (Below.refl _ _) _), range_below hHeld.2 (below_alloc (Below.refl _ _) _) (Nat.lt_of_lt_of_le hbl HL0.out.size)⟩ (fun hHeld => ?_)
            clear hK K
            refine norm_ (a' := ?_) ?_ ?_
            rotate_left
            · show Act.put _ (some 14) _ = _
              simp only [Act.put, List.setIfInBounds_toArray, List.set_cons_zero, List.set_cons_succ, i64_w, i32_w]
              rfl
            refine one_ (i := 5) (N := some 78) #[true, true, true, true, true, true, false, false, false, false, true, false, false, false] rfl rfl (by kernel_rfl) (by decide) (fun K hK => ?_)
            refine goes_ Try.func15 (by kernel_rfl) rfl #[.agg #[.int .u64 a, .int .u64 b], .agg #[.int .u8 k, .int .u64 n]] (by rfl) rfl rfl (by (try simp only [List.map_toArray, List.map_cons, List.map_nil]); first | done | rfl) ?_
            with_reducible refine (HDO.out _).mono ?_
            rintro e w6 ⟨rfl, hb6⟩
            refine ⟨_, rfl, ?_⟩
            have HL := Lib.hid (HL.out.trans (hb6.mono HL.out.size))
            have HS := Lib.hid (HS.out.below hb6)
            refine hK.out _ _ ⟨hHeld.1.below hb6, range_below hHeld.2 hb6 (Nat.lt_of_lt_of_le hbl (below_alloc HL0.out _).size)⟩ (fun hHeld => ?_)
            clear hK K
            refine norm_ (a' := ?_) ?_ ?_
            rotate_left
            · show Act.put _ (some 78) _ = _
              simp only [Act.put, List.setIfInBounds_toArray, List.set_cons_zero, List.set_cons_succ, i64_w, i32_w]
              rfl
            refine pure_ (i := 6) (N := some 72) (v := ?_) (a' := ?_) #[true, true, true, true, true, true, true, false, false, false, true, false, false, false] rfl rfl (by kernel_rfl) (fun _ _ _ h => h) (Or.inl ⟨by rfl, ?_⟩) ?_ ?_
            rotate_left
            · intro w'
              go_simp
              with_reducible rfl
            rotate_left
            · simp only [Act.put, List.setIfInBounds_toArray, List.set_cons_zero, List.set_cons_succ, i64_w, i32_w]
              rfl
            refine pure_ (i := 7) (N := some 79) (v := ?_) (a' := ?_) #[true, true, true, true, true, true, true, true, false, false, true, false, false, false] rfl rfl (by kernel_rfl) (fun _ _ _ h => h) (Or.inl ⟨by rfl, ?_⟩) ?_ ?_
            rotate_left
            · intro w'
              go_simp
              with_reducible rfl
            rotate_left
            · simp only [Act.put, List.setIfInBounds_toArray, List.set_cons_zero, List.set_cons_succ, i64_w, i32_w]
              rfl
            refine pure_ (i := 8) (N := some 80) (v := ?_) (a' := ?_) #[true, true, true, true, true, true, true, true, true, false, true, false, false, false] rfl rfl (by kernel_rfl) (fun _ _ _ h => h) (Or.inl ⟨by rfl, ?_⟩) ?_ ?_
            rotate_left
            · intro w'
              go_simp
              with_reducible rfl
            rotate_left
            · simp only [Act.put, List.setIfInBounds_toArray, List.set_cons_zero, List.set_cons_succ, i64_w, i32_w]
              rfl
            refine pure_ (i := 9) (N := some 81) (v := ?_) (a' := ?_) #[true, true, true, true, true, true, true, true, true, true, true, false, false, false] rfl rfl (by kernel_rfl) (fun _ _ _ h => h) (Or.inl ⟨by rfl, ?_⟩) ?_ ?_
            rotate_left
            · intro w'
              go_simp
              with_reducible rfl
            rotate_left
            · simp only [Act.put, List.setIfInBounds_toArray, List.set_cons_zero, List.set_cons_succ, i64_w, i32_w]
              rfl
            exact norm_ (by simp only [putAll, Act.put, List.setIfInBounds_toArray, List.set_cons_zero, List.set_cons_succ]) (hCont w5.heap.size _ ⟨hHeld, HS.out, Nat.le_refl _, HL.out⟩)
        rintro s w7 ⟨hHeld, hs, hs1, hl⟩
        have HS := Lib.hid hs; clear hs
        have HL := Lib.hid hl; clear hl
        refine norm_ (a' := ?_) ?_ ?_
        rotate_left
        · simp only [putAll, Act.put, List.setIfInBounds_toArray, List.set_cons_zero, List.set_cons_succ]
          rfl
        refine one_ (i := 11) (N := none) #[true, true, true, true, true, true, true, true, true, true, true, true, false, false] rfl rfl (by kernel_rfl) (by decide) (fun K hK => ?_)
        refine skip_ (w1 := w7.setRow s #[.int .u64 a2, .int .u64 b2]) (by rfl) rfl (by refine run_strow 33 (.tmp 14) (.tmp 79) ?_ s #[.int .u64 a2, .int .u64 b2] ?_ ?_ 33 #[.int .u64 0, .int .u64 0] HS.out (by kernel_rfl) rfl (by simp [Value.oneCell']) <;> rfl) ?_
        refine hK.out _ _ ⟨(setRow_other _ _ _ _ (by omega)).trans hHeld.1, range_setRow hHeld.2 (by omega) _⟩ (fun hHeld => ?_)
        clear hK K
        refine pure_ (i := 12) (N := some 15) (v := ?_) (a' := ?_) #[true, true, true, true, true, true, true, true, true, true, true, true, true, false] rfl rfl (by kernel_rfl) (fun _ _ _ h => h) (Or.inl ⟨by rfl, ?_⟩) ?_ ?_
        rotate_left
        · intro w'
          go_simp
          with_reducible rfl
        rotate_left
        · simp only [Act.put, List.setIfInBounds_toArray, List.set_cons_zero, List.set_cons_succ, i64_w, i32_w]
          rfl
        refine pure_ (i := 13) (N := some 16) (v := ?_) (a' := ?_) #[true, true, true, true, true, true, true, true, true, true, true, true, true, true] rfl rfl (by kernel_rfl) (fun _ _ _ h => h) (Or.inl ⟨by rfl, ?_⟩) ?_ ?_
        rotate_left
        · intro w'
          go_simp
          with_reducible rfl
        rotate_left
        · simp only [Act.put, List.setIfInBounds_toArray, List.set_cons_zero, List.set_cons_succ, i64_w, i32_w]
          rfl
        refine done_ (by kernel_rfl) ?_

        clear HL0
        have HS := Lib.hid (show RowO _ s a2 b2 from setRow_heap _ _ _ _ _ _ HS.out)
        have HL := Lib.hid (below_setRow HL.out hs1 #[.int .u64 a2, .int .u64 b2])
        have HI := Lib.hid (HI.out.below HL.out)
        have HB := Lib.hid (HB.out.trans (HL.out.mono HB.out.size))
        have HR := Lib.hid hHeld.1
        clear HL
        generalize w7.setRow s #[.int .u64 a2, .int .u64 b2] = w8 at *
        go_wp2_with (first | refine wpList_load_row rfl 33 _ rfl s rfl 33 #[.int .u64 a2, .int .u64 b2] (0, 0) _ HS.out Try.underlying33 rfl (by kernel_rfl) ?_ | refine wpList_store_row rfl 33 _ _ rfl h #[.int .u64 a2, .int .u64 b2] rfl rfl 33 #[.int .u64 a, .int .u64 b] HR.out (by kernel_rfl) rfl (by simp [Value.oneCell']) ?_)
        have HI := Lib.hid (show IsOra (w8.setRow h #[.int .u64 a2, .int .u64 b2]) g a2 b2 from (setRow_other _ _ _ _ hgh).trans HI.out)
        have HR := Lib.hid (show RowO _ h a2 b2 from setRow_heap _ _ _ _ _ _ HR.out)
        have HB := Lib.hid (below_setRow HB.out hwh #[.int .u64 a2, .int .u64 b2])
        generalize w8.setRow h #[.int .u64 a2, .int .u64 b2] = w9 at *
        refine start_ (n := 15) (S := fun w' => w'.cell? ⟨h, 0, none⟩ = some (.int .u64 a2) ∧ IsOra w' g a2 b2) (ds := []) #[false, false, false, false, false, false, false, false, false, false, false, false, false, false, false] (by kernel_rfl) rfl rfl ⟨(blk_cell HR.out 0).trans rfl, HI.out⟩ (fun hHeld => ?_)
        have HB := Lib.hid (below_drew HB.out)
        refine pure_ (i := 0) (N := some 83) (v := ?_) (a' := ?_) #[true, false, false, false, false, false, false, false, false, false, false, false, false, false, false] rfl rfl (by kernel_rfl) (fun _ _ _ h => h) (Or.inl ⟨by rfl, ?_⟩) ?_ ?_
        rotate_left
        · intro w'
          go_simp
          with_reducible rfl
        rotate_left
        · simp only [Act.put, List.setIfInBounds_toArray, List.set_cons_zero, List.set_cons_succ, i64_w, i32_w]
          rfl
        refine pure_ (i := 1) (N := some 84) (v := ?_) (a' := ?_) #[true, true, false, false, false, false, false, false, false, false, false, false, false, false, false] rfl rfl (by kernel_rfl) (fun _ _ _ h => h) (Or.inl ⟨by rfl, ?_⟩) ?_ ?_
        rotate_left
        · intro w'
          go_simp
          with_reducible rfl
        rotate_left
        · simp only [Act.put, List.setIfInBounds_toArray, List.set_cons_zero, List.set_cons_succ, i64_w, i32_w]
          rfl
        refine pure_ (i := 2) (N := some 85) (v := ?_) (a' := ?_) #[true, true, true, false, false, false, false, false, false, false, false, false, false, false, false] rfl rfl (by kernel_rfl) (fun _ _ _ h => h) (Or.inl ⟨by rfl, ?_⟩) ?_ ?_
        rotate_left
        · intro w'
          go_simp
          with_reducible rfl
        rotate_left
        · simp only [Act.put, List.setIfInBounds_toArray, List.set_cons_zero, List.set_cons_succ, i64_w, i32_w]
          rfl
        refine pure_ (i := 3) (N := some 86) (v := ?_) (a' := ?_) #[true, true, true, true, false, false, false, false, false, false, false, false, false, false, false] rfl rfl (by kernel_rfl) (fun _ _ _ h => h) (Or.inl ⟨by rfl, ?_⟩) ?_ ?_
        rotate_left
        · intro w'
          go_simp
          with_reducible rfl
        rotate_left
        · simp only [Act.put, List.setIfInBounds_toArray, List.set_cons_zero, List.set_cons_succ, i64_w, i32_w]
          rfl
        refine pure_ (i := 4) (N := some 87) (v := ?_) (a' := ?_) #[true, true, true, true, true, false, false, false, false, false, false, false, false, false, false] rfl rfl (by kernel_rfl) (fun _ _ _ h => h) (Or.inl ⟨by rfl, ?_⟩) ?_ ?_
        rotate_left
        · intro w'
          go_simp
          with_reducible rfl
        rotate_left
        · simp only [Act.put, List.setIfInBounds_toArray, List.set_cons_zero, List.set_cons_succ, i64_w, i32_w]
          rfl
        refine pure_ (i := 5) (N := some 88) (v := ?_) (a' := ?_) #[true, true, true, true, true, true, false, false, false, false, false, false, false, false, false] rfl rfl (by kernel_rfl) (fun _ _ _ h => h) (Or.inl ⟨by rfl, ?_⟩) ?_ ?_
        rotate_left
        · intro w'
          go_simp
          with_reducible rfl
        rotate_left
        · simp only [Act.put, List.setIfInBounds_toArray, List.set_cons_zero, List.set_cons_succ, i64_w, i32_w]
          rfl
        refine pure_ (i := 6) (N := some 89) (v := ?_) (a' := ?_) #[true, true, true, true, true, true, true, false, false, false, false, false, false, false, false] rfl rfl (by kernel_rfl) (fun _ _ _ h => h) (Or.inl ⟨by rfl, ?_⟩) ?_ ?_
        rotate_left
        · intro w'
          go_simp
          with_reducible rfl
        rotate_left
        · simp only [Act.put, List.setIfInBounds_toArray, List.set_cons_zero, List.set_cons_succ, i64_w, i32_w]
          rfl
        refine pure_ (i := 7) (N := some 90) (v := ?_) (a' := ?_) #[true, true, true, true, true, true, true, true, false, false, false, false, false, false, false] rfl rfl (by kernel_rfl) (fun _ _ _ h => h) (Or.inl ⟨by rfl, ?_⟩) ?_ ?_
        rotate_left
        · intro w'
          go_simp
          with_reducible rfl
        rotate_left
        · simp only [Act.put, List.setIfInBounds_toArray, List.set_cons_zero, List.set_cons_succ, i64_w, i32_w]
          rfl
        refine pure_ (i := 8) (N := some 91) (v := ?_) (a' := ?_) #[true, true, true, true, true, true, true, true, true, false, false, false, false, false, false] rfl rfl (by kernel_rfl) (fun _ _ _ h => h) (Or.inl ⟨by rfl, ?_⟩) ?_ ?_
        rotate_left
        · intro w'
          go_simp
          with_reducible rfl
        rotate_left
        · simp only [Act.put, List.setIfInBounds_toArray, List.set_cons_zero, List.set_cons_succ, i64_w, i32_w]
          rfl
        refine pure_ (i := 9) (N := some 92) (v := ?_) (a' := ?_) #[true, true, true, true, true, true, true, true, true, true, false, false, false, false, false] rfl rfl (by kernel_rfl) (fun _ _ _ h => h) (Or.inl ⟨by rfl, ?_⟩) ?_ ?_
        rotate_left
        · intro w'
          go_simp
          with_reducible rfl
        rotate_left
        · simp only [Act.put, List.setIfInBounds_toArray, List.set_cons_zero, List.set_cons_succ, i64_w, i32_w]
          rfl
        refine pure_ (i := 11) (N := some 94) (v := ?_) (a' := ?_) #[true, true, true, true, true, true, true, true, true, true, false, true, false, false, false] rfl rfl (by kernel_rfl) (fun _ _ _ h => h) (Or.inl ⟨by rfl, ?_⟩) ?_ ?_
        rotate_left
        · intro w'
          go_simp
          with_reducible rfl
        rotate_left
        · simp only [Act.put, List.setIfInBounds_toArray, List.set_cons_zero, List.set_cons_succ, i64_w, i32_w]
          rfl
        refine take_ (i := 12) (N := some 95) (v := ?_) (a' := ?_) #[true, true, true, true, true, true, true, true, true, true, false, true, true, false, false] rfl rfl (by kernel_rfl) (fun _ _ _ h => h) (Or.inl ⟨by rfl, ?_⟩) hHeld ?_ ?_
        rotate_left
        · rintro w' ⟨s0, s1⟩
          go_simp
          with_reducible rfl
        rotate_left
        · simp only [Act.put, List.setIfInBounds_toArray, List.set_cons_zero, List.set_cons_succ, i64_w, i32_w]
          rfl
        refine one_ (i := 10) (N := some 93) #[true, true, true, true, true, true, true, true, true, true, true, true, true, false, false] rfl rfl (by kernel_rfl) (by decide) (fun K hK => ?_)
        refine goes_ Try.func16 (by kernel_rfl) rfl #[.pointer (some ⟨g, 0, none⟩)] (by rfl) rfl rfl (by (try simp only [List.map_toArray, List.map_cons, List.map_nil]); first | done | rfl) ?_
        with_reducible refine (ora_last a2 b2 g _ hHeld.2).mono ?_
        rintro e w10 ⟨rfl, rfl⟩
        refine ⟨_, rfl, ?_⟩
        refine hK.out _ _ ⟨hHeld.1, hHeld.2⟩ (fun hHeld => ?_)
        clear hK K
        refine norm_ (a' := ?_) ?_ ?_
        rotate_left
        · show Act.put _ (some 93) _ = _
          simp only [Act.put, List.setIfInBounds_toArray, List.set_cons_zero, List.set_cons_succ, i64_w, i32_w]
          rfl
        refine pure_ (i := 13) (N := some 96) (v := ?_) (a' := ?_) #[true, true, true, true, true, true, true, true, true, true, true, true, true, true, false] rfl rfl (by kernel_rfl) (fun _ _ _ h => h) (Or.inl ⟨by rfl, ?_⟩) ?_ ?_
        rotate_left
        · intro w'
          go_simp
          with_reducible rfl
        rotate_left
        · simp only [Act.put, List.setIfInBounds_toArray, List.set_cons_zero, List.set_cons_succ, i64_w, i32_w]
          rfl
        refine pure_ (i := 14) (N := some 97) (v := ?_) (a' := ?_) #[true, true, true, true, true, true, true, true, true, true, true, true, true, true, true] rfl rfl (by kernel_rfl) (fun _ _ _ h => h) (Or.inl ⟨by rfl, ?_⟩) ?_ ?_
        rotate_left
        · intro w'
          go_simp
          with_reducible rfl
        rotate_left
        · simp only [Act.put, List.setIfInBounds_toArray, List.set_cons_zero, List.set_cons_succ, i64_w, i32_w]
          rfl
        refine done_ (by kernel_rfl) ?_

        go_wp2
        go_roundw
        case rel => exact ⟨i + 1, g, a2, b2, by go_num, by omega, rfl, hg, hgh, h2, h3, HI.out, HR.out, HB.out⟩
        case measure => simp [intOf]; omega
      · rw [if_neg (by decide), if_neg (by decide), if_neg (by decide)] at hdo
        simp only [Prod.mk.injEq] at hdo
        obtain ⟨haa, hbb, rfl, rfl⟩ := hdo
        rw [show ((0 : Nat) : Int) = 0 from rfl] at HDO
        have HAA := Lib.hid haa; have HBB := Lib.hid hbb; clear haa hbb
        have hlb : World.cell? _ ⟨h, 1, none⟩ = some (.int .u64 b) := (blk_cell HR.out 1).trans rfl
        clear hr4 HDO'
        go_wp2_with fail
        refine (ora_new b _).mono ?_
        rintro e w5 ⟨g2, rfl, hgo, hi5, hb5⟩
        have hi5 : IsOra w5 g2 a2 b2 := HAA.out ▸ HBB.out ▸ hi5
        have hgh : g2 ≠ h := by have := blk_lt HR.out; omega
        have hg : w.heap.size ≤ g2 := Nat.le_trans HB.out.size hgo
        have HR := Lib.hid (HR.out.below hb5)
        have HB := Lib.hid (HB.out.trans (hb5.mono HB.out.size)); clear hb5
        have HI := Lib.hid hi5; clear hi5
        go_wp2
        have hck : w5.rangeAt b0 (off + i * 2) [.int .u8 k, .int .u64 n] := by
          have e0 := (HB.out.cell (p := ⟨b0, off + i * 2, none⟩) hb0).trans HC.out.1
          have e1 := (HB.out.cell (p := ⟨b0, off + i * 2 + 1, none⟩) hb0).trans HC.out.2
          intro j v hj
          match j with
          | 0 => simp only [List.getElem?_cons_zero, Option.some.injEq] at hj; subst hj; exact e0
          | 1 => simp only [List.getElem?_cons_succ, List.getElem?_cons_zero, Option.some.injEq] at hj; subst hj; exact e1
          | j + 2 => simp at hj
        have HCK := Lib.hid hck; clear hck
        have hhl := blk_lt HR.out
        have hbl : b0 < w5.heap.size := Nat.lt_of_lt_of_le hb0 HB.out.size
        refine start_ (n := 14) (S := fun w' => RowO w' h a b ∧ w'.rangeAt b0 (off + i * 2) [.int .u8 k, .int .u64 n]) (ds := []) #[false, false, false, false, false, false, false, false, false, false, false, false, false, false] (by kernel_rfl) rfl rfl ⟨HR.out, HCK.out⟩ (fun hHeld => ?_)
        have HL := Lib.hid (below_drew (Below.refl w5.heap.size w5))
        have HL0 := HL
        refine pure_ (i := 1) (N := some 74) (v := ?_) (a' := ?_) #[false, true, false, false, false, false, false, false, false, false, false, false, false, false] rfl rfl (by kernel_rfl) (fun _ _ _ h => h) (Or.inl ⟨by rfl, ?_⟩) ?_ ?_
        rotate_left
        · intro w'
          go_simp
          with_reducible rfl
        rotate_left
        · simp only [Act.put, List.setIfInBounds_toArray, List.set_cons_zero, List.set_cons_succ, i64_w, i32_w]
          rfl
        refine pure_ (i := 2) (N := some 75) (v := ?_) (a' := ?_) #[false, true, true, false, false, false, false, false, false, false, false, false, false, false] rfl rfl (by kernel_rfl) (fun _ _ _ h => h) (Or.inl ⟨by rfl, ?_⟩) ?_ ?_
        rotate_left
        · intro w'
          go_simp
          with_reducible rfl
        rotate_left
        · simp only [Act.put, List.setIfInBounds_toArray, List.set_cons_zero, List.set_cons_succ, i64_w, i32_w]
          rfl
        refine pure_ (i := 3) (N := some 76) (v := ?_) (a' := ?_) #[false, true, true, true, false, false, false, false, false, false, false, false, false, false] rfl rfl (by kernel_rfl) (fun _ _ _ h => h) (Or.inl ⟨by rfl, ?_⟩) ?_ ?_
        rotate_left
        · intro w'
          go_simp
          with_reducible rfl
        rotate_left
        · simp only [Act.put, List.setIfInBounds_toArray, List.set_cons_zero, List.set_cons_succ, i64_w, i32_w]
          rfl
        refine take_ (i := 0) (N := some 73) (v := ?_) (a' := ?_) #[true, true, true, true, false, false, false, false, false, false, false, false, false, false] rfl rfl (by kernel_rfl) (fun _ _ _ h => h) (Or.inl ⟨by rfl, ?_⟩) hHeld ?_ ?_
        rotate_left
        · rintro w' ⟨s0, s1⟩
          refine run_row 33 (.tmp 6) ?_ h ?_ 33 #[.int .u64 a, .int .u64 b] (0, 0) _ s0 Try.underlying33 rfl (by kernel_rfl) <;> rfl
        rotate_left
        · simp only [Act.put, List.setIfInBounds_toArray, List.set_cons_zero, List.set_cons_succ, i64_w, i32_w]
          rfl
        refine take_ (i := 4) (N := some 77) (v := ?_) (a' := ?_) #[true, true, true, true, true, false, false, false, false, false, false, false, false, false] rfl rfl (by kernel_rfl) (fun _ _ _ h => h) (Or.inl ⟨by rfl, ?_⟩) hHeld ?_ ?_
        rotate_left
        · rintro w' ⟨s0, s1⟩
          refine run_midrow 35 (.tmp 76) ?_ b0 (off + i * 2) ?_ [.int .u8 k, .int .u64 n] _ s1 Try.underlying35 rfl (by kernel_rfl) <;> rfl
        rotate_left
        · simp only [Act.put, List.setIfInBounds_toArray, List.set_cons_zero, List.set_cons_succ, i64_w, i32_w]
          rfl
        refine join_ (σ := Nat) 3 #[true, true, true, true, true, true, true, true, true, true, true, false, false, false] (fun s => [(78, .tuple #[.agg #[.int .u64 a2, .int .u64 b2], .int .u64 0, .bool false]), (72, .tuple #[.agg #[.int .u64 a2, .int .u64 b2], .int .u64 0, .bool false]), (79, .agg #[.int .u64 a2, .int .u64 b2]), (80, .int .u64 0), (81, .bool false), (14, .pointer (some ⟨s, 0, none⟩))]) (fun s w' => (RowO w' h a b ∧ w'.rangeAt b0 (off + i * 2) [.int .u8 k, .int .u64 n]) ∧ RowO w' s 0 0 ∧ w5.heap.size ≤ s ∧ Below w5.heap.size w5 w') ?_ ?_
        rotate_left
        · intro hCont
          refine two_ (i := 5) (j := 10) (Ni := some 78) (Nj := some 14) #[true, true, true, true, true, true, false, false, false, false, false, false, false, false] #[true, true, true, true, true, false, false, false, false, false, true, false, false, false] rfl rfl rfl rfl (by kernel_rfl) (by decide) (by decide) (fun K hK => ?_) (fun K hK => ?_)
          · skip
            refine goes_ Try.func15 (by kernel_rfl) rfl #[.agg #[.int .u64 a, .int .u64 b], .agg #[.int .u8 k, .int .u64 n]] (by rfl) rfl rfl (by (try simp only [List.map_toArray, List.map_cons, List.map_nil]); first | done | rfl) ?_
            with_reducible refine (HDO.out _).mono ?_
            rintro e w6 ⟨rfl, hb6⟩
            refine ⟨_, rfl, ?_⟩
            have HL := Lib.hid (HL.out.trans (hb6.mono HL.out.size))
            refine hK.out _ _ ⟨hHeld.1.below hb6, range_below hHeld.2 hb6 (Nat.lt_of_lt_of_le hbl HL0.out.size)⟩ (fun hHeld => ?_)
            clear hK K
            refine norm_ (a' := ?_) ?_ ?_
            rotate_left
            · show Act.put _ (some 78) _ = _
              simp only [Act.put, List.setIfInBounds_toArray, List.set_cons_zero, List.set_cons_succ, i64_w, i32_w]
              rfl
            refine pure_ (i := 6) (N := some 72) (v := ?_) (a' := ?_) #[true, true, true, true, true, true, true, false, false, false, false, false, false, false] rfl rfl (by kernel_rfl) (fun _ _ _ h => h) (Or.inl ⟨by rfl, ?_⟩) ?_ ?_
            rotate_left
            · intro w'
              go_simp
              with_reducible rfl
            rotate_left
            · simp only [Act.put, List.setIfInBounds_toArray, List.set_cons_zero, List.set_cons_succ, i64_w, i32_w]
              rfl
            refine pure_ (i := 7) (N := some 79) (v := ?_) (a' := ?_) #[true, true, true, true, true, true, true, true, false, false, false, false, false, false] rfl rfl (by kernel_rfl) (fun _ _ _ h => h) (Or.inl ⟨by rfl, ?_⟩) ?_ ?_
            rotate_left
            · intro w'
              go_simp
              with_reducible rfl
            rotate_left
            · simp only [Act.put, List.setIfInBounds_toArray, List.set_cons_zero, List.set_cons_succ, i64_w, i32_w]
              rfl
            refine pure_ (i := 8) (N := some 80) (v := ?_) (a' := ?_) #[true, true, true, true, true, true, true, true, true, false, false, false, false, false] rfl rfl (by kernel_rfl) (fun _ _ _ h => h) (Or.inl ⟨by rfl, ?_⟩) ?_ ?_
            rotate_left
            · intro w'
              go_simp
              with_reducible rfl
            rotate_left
            · simp only [Act.put, List.setIfInBounds_toArray, List.set_cons_zero, List.set_cons_succ, i64_w, i32_w]
              rfl
            refine pure_ (i := 9) (N := some 81) (v := ?_) (a' := ?_) #[true, true, true, true, true, true, true, true, true, true, false, false, false, false] rfl rfl (by kernel_rfl) (fun _ _ _ h => h) (Or.inl ⟨by rfl, ?_⟩) ?_ ?_
            rotate_left
            · intro w'
              go_simp
              with_reducible rfl
            rotate_left
            · simp only [Act.put, List.setIfInBounds_toArray, List.set_cons_zero, List.set_cons_succ, i64_w, i32_w]
              rfl
            refine one_ (i := 10) (N := some 14) #[true, true, true, true, true, true, true, true, true, true, true, false, false, false] rfl rfl (by kernel_rfl) (by decide) (fun K hK => ?_)
            refine value_ (w1 := ?_) (v := ?_) (by rfl) rfl ?_ ?_
            rotate_left 2
            · go_simp
              constructor
              · rfl
              · rfl
            have HS := Lib.hid (show RowO _ _ 0 0 from blk_new w6 (.cells #[.int .u64 0, .int .u64 0] 33 (0, 0)))
            have HL := Lib.hid (below_alloc HL.out (.cells #[.int .u64 0, .int .u64 0] 33))
            refine hK.out _ _ ⟨hHeld.1.below (below_alloc (Below.refl _ _) _), range_below hHeld.2 (below_alloc (Below.refl _ _) _) (Nat.lt_of_lt_of_le hbl (Nat.le_trans HL0.out.size hb6.size))⟩ (fun hHeld => ?_)
            clear hK K
            refine norm_ (a' := ?_) ?_ ?_
            rotate_left
            · show Act.put _ (some 14) _ = _
              simp only [Act.put, List.setIfInBounds_toArray, List.set_cons_zero, List.set_cons_succ, i64_w, i32_w]
              rfl
            exact norm_ (by simp only [putAll, Act.put, List.setIfInBounds_toArray, List.set_cons_zero, List.set_cons_succ]) (hCont w6.heap.size _ ⟨hHeld, HS.out, hb6.size, HL.out⟩)
          · skip
            refine value_ (w1 := ?_) (v := ?_) (by rfl) rfl ?_ ?_
            rotate_left 2
            · go_simp
              constructor
              · rfl
              · rfl
            have HS := Lib.hid (show RowO _ _ 0 0 from blk_new w5.drew (.cells #[.int .u64 0, .int .u64 0] 33 (0, 0)))
            have HL := Lib.hid (below_alloc HL.out (.cells #[.int .u64 0, .int .u64 0] 33))
            refine hK.out _ _ ⟨hHeld.1.below (below_alloc (Below.refl _ _) _), range_below hHeld.2 (below_alloc (Below.refl _ _) _) (Nat.lt_of_lt_of_le hbl HL0.out.size)⟩ (fun hHeld => ?_)
            clear hK K
            refine norm_ (a' := ?_) ?_ ?_
            rotate_left
            · show Act.put _ (some 14) _ = _
              simp only [Act.put, List.setIfInBounds_toArray, List.set_cons_zero, List.set_cons_succ, i64_w, i32_w]
              rfl
            refine one_ (i := 5) (N := some 78) #[true, true, true, true, true, true, false, false, false, false, true, false, false, false] rfl rfl (by kernel_rfl) (by decide) (fun K hK => ?_)
            refine goes_ Try.func15 (by kernel_rfl) rfl #[.agg #[.int .u64 a, .int .u64 b], .agg #[.int .u8 k, .int .u64 n]] (by rfl) rfl rfl (by (try simp only [List.map_toArray, List.map_cons, List.map_nil]); first | done | rfl) ?_
            with_reducible refine (HDO.out _).mono ?_
            rintro e w6 ⟨rfl, hb6⟩
            refine ⟨_, rfl, ?_⟩
            have HL := Lib.hid (HL.out.trans (hb6.mono HL.out.size))
            have HS := Lib.hid (HS.out.below hb6)
            refine hK.out _ _ ⟨hHeld.1.below hb6, range_below hHeld.2 hb6 (Nat.lt_of_lt_of_le hbl (below_alloc HL0.out _).size)⟩ (fun hHeld => ?_)
            clear hK K
            refine norm_ (a' := ?_) ?_ ?_
            rotate_left
            · show Act.put _ (some 78) _ = _
              simp only [Act.put, List.setIfInBounds_toArray, List.set_cons_zero, List.set_cons_succ, i64_w, i32_w]
              rfl
            refine pure_ (i := 6) (N := some 72) (v := ?_) (a' := ?_) #[true, true, true, true, true, true, true, false, false, false, true, false, false, false] rfl rfl (by kernel_rfl) (fun _ _ _ h => h) (Or.inl ⟨by rfl, ?_⟩) ?_ ?_
            rotate_left
            · intro w'
              go_simp
              with_reducible rfl
            rotate_left
            · simp only [Act.put, List.setIfInBounds_toArray, List.set_cons_zero, List.set_cons_succ, i64_w, i32_w]
              rfl
            refine pure_ (i := 7) (N := some 79) (v := ?_) (a' := ?_) #[true, true, true, true, true, true, true, true, false, false, true, false, false, false] rfl rfl (by kernel_rfl) (fun _ _ _ h => h) (Or.inl ⟨by rfl, ?_⟩) ?_ ?_
            rotate_left
            · intro w'
              go_simp
              with_reducible rfl
            rotate_left
            · simp only [Act.put, List.setIfInBounds_toArray, List.set_cons_zero, List.set_cons_succ, i64_w, i32_w]
              rfl
            refine pure_ (i := 8) (N := some 80) (v := ?_) (a' := ?_) #[true, true, true, true, true, true, true, true, true, false, true, false, false, false] rfl rfl (by kernel_rfl) (fun _ _ _ h => h) (Or.inl ⟨by rfl, ?_⟩) ?_ ?_
            rotate_left
            · intro w'
              go_simp
              with_reducible rfl
            rotate_left
            · simp only [Act.put, List.setIfInBounds_toArray, List.set_cons_zero, List.set_cons_succ, i64_w, i32_w]
              rfl
            refine pure_ (i := 9) (N := some 81) (v := ?_) (a' := ?_) #[true, true, true, true, true, true, true, true, true, true, true, false, false, false] rfl rfl (by kernel_rfl) (fun _ _ _ h => h) (Or.inl ⟨by rfl, ?_⟩) ?_ ?_
            rotate_left
            · intro w'
              go_simp
              with_reducible rfl
            rotate_left
            · simp only [Act.put, List.setIfInBounds_toArray, List.set_cons_zero, List.set_cons_succ, i64_w, i32_w]
              rfl
            exact norm_ (by simp only [putAll, Act.put, List.setIfInBounds_toArray, List.set_cons_zero, List.set_cons_succ]) (hCont w5.heap.size _ ⟨hHeld, HS.out, Nat.le_refl _, HL.out⟩)
        rintro s w7 ⟨hHeld, hs, hs1, hl⟩
        have HS := Lib.hid hs; clear hs
        have HL := Lib.hid hl; clear hl
        refine norm_ (a' := ?_) ?_ ?_
        rotate_left
        · simp only [putAll, Act.put, List.setIfInBounds_toArray, List.set_cons_zero, List.set_cons_succ]
          rfl
        refine one_ (i := 11) (N := none) #[true, true, true, true, true, true, true, true, true, true, true, true, false, false] rfl rfl (by kernel_rfl) (by decide) (fun K hK => ?_)
        refine skip_ (w1 := w7.setRow s #[.int .u64 a2, .int .u64 b2]) (by rfl) rfl (by refine run_strow 33 (.tmp 14) (.tmp 79) ?_ s #[.int .u64 a2, .int .u64 b2] ?_ ?_ 33 #[.int .u64 0, .int .u64 0] HS.out (by kernel_rfl) rfl (by simp [Value.oneCell']) <;> rfl) ?_
        refine hK.out _ _ ⟨(setRow_other _ _ _ _ (by omega)).trans hHeld.1, range_setRow hHeld.2 (by omega) _⟩ (fun hHeld => ?_)
        clear hK K
        refine pure_ (i := 12) (N := some 15) (v := ?_) (a' := ?_) #[true, true, true, true, true, true, true, true, true, true, true, true, true, false] rfl rfl (by kernel_rfl) (fun _ _ _ h => h) (Or.inl ⟨by rfl, ?_⟩) ?_ ?_
        rotate_left
        · intro w'
          go_simp
          with_reducible rfl
        rotate_left
        · simp only [Act.put, List.setIfInBounds_toArray, List.set_cons_zero, List.set_cons_succ, i64_w, i32_w]
          rfl
        refine pure_ (i := 13) (N := some 16) (v := ?_) (a' := ?_) #[true, true, true, true, true, true, true, true, true, true, true, true, true, true] rfl rfl (by kernel_rfl) (fun _ _ _ h => h) (Or.inl ⟨by rfl, ?_⟩) ?_ ?_
        rotate_left
        · intro w'
          go_simp
          with_reducible rfl
        rotate_left
        · simp only [Act.put, List.setIfInBounds_toArray, List.set_cons_zero, List.set_cons_succ, i64_w, i32_w]
          rfl
        refine done_ (by kernel_rfl) ?_

        clear HL0
        have HS := Lib.hid (show RowO _ s a2 b2 from setRow_heap _ _ _ _ _ _ HS.out)
        have HL := Lib.hid (below_setRow HL.out hs1 #[.int .u64 a2, .int .u64 b2])
        have HI := Lib.hid (HI.out.below HL.out)
        have HB := Lib.hid (HB.out.trans (HL.out.mono HB.out.size))
        have HR := Lib.hid hHeld.1
        clear HL
        generalize w7.setRow s #[.int .u64 a2, .int .u64 b2] = w8 at *
        go_wp2_with (first | refine wpList_load_row rfl 33 _ rfl s rfl 33 #[.int .u64 a2, .int .u64 b2] (0, 0) _ HS.out Try.underlying33 rfl (by kernel_rfl) ?_ | refine wpList_store_row rfl 33 _ _ rfl h #[.int .u64 a2, .int .u64 b2] rfl rfl 33 #[.int .u64 a, .int .u64 b] HR.out (by kernel_rfl) rfl (by simp [Value.oneCell']) ?_)
        have HI := Lib.hid (show IsOra (w8.setRow h #[.int .u64 a2, .int .u64 b2]) g2 a2 b2 from (setRow_other _ _ _ _ hgh).trans HI.out)
        have HR := Lib.hid (show RowO _ h a2 b2 from setRow_heap _ _ _ _ _ _ HR.out)
        have HB := Lib.hid (below_setRow HB.out hwh #[.int .u64 a2, .int .u64 b2])
        generalize w8.setRow h #[.int .u64 a2, .int .u64 b2] = w9 at *
        refine start_ (n := 15) (S := fun w' => w'.cell? ⟨h, 0, none⟩ = some (.int .u64 a2) ∧ IsOra w' g2 a2 b2) (ds := []) #[false, false, false, false, false, false, false, false, false, false, false, false, false, false, false] (by kernel_rfl) rfl rfl ⟨(blk_cell HR.out 0).trans rfl, HI.out⟩ (fun hHeld => ?_)
        have HB := Lib.hid (below_drew HB.out)
        refine pure_ (i := 0) (N := some 83) (v := ?_) (a' := ?_) #[true, false, false, false, false, false, false, false, false, false, false, false, false, false, false] rfl rfl (by kernel_rfl) (fun _ _ _ h => h) (Or.inl ⟨by rfl, ?_⟩) ?_ ?_
        rotate_left
        · intro w'
          go_simp
          with_reducible rfl
        rotate_left
        · simp only [Act.put, List.setIfInBounds_toArray, List.set_cons_zero, List.set_cons_succ, i64_w, i32_w]
          rfl
        refine pure_ (i := 1) (N := some 84) (v := ?_) (a' := ?_) #[true, true, false, false, false, false, false, false, false, false, false, false, false, false, false] rfl rfl (by kernel_rfl) (fun _ _ _ h => h) (Or.inl ⟨by rfl, ?_⟩) ?_ ?_
        rotate_left
        · intro w'
          go_simp
          with_reducible rfl
        rotate_left
        · simp only [Act.put, List.setIfInBounds_toArray, List.set_cons_zero, List.set_cons_succ, i64_w, i32_w]
          rfl
        refine pure_ (i := 2) (N := some 85) (v := ?_) (a' := ?_) #[true, true, true, false, false, false, false, false, false, false, false, false, false, false, false] rfl rfl (by kernel_rfl) (fun _ _ _ h => h) (Or.inl ⟨by rfl, ?_⟩) ?_ ?_
        rotate_left
        · intro w'
          go_simp
          with_reducible rfl
        rotate_left
        · simp only [Act.put, List.setIfInBounds_toArray, List.set_cons_zero, List.set_cons_succ, i64_w, i32_w]
          rfl
        refine pure_ (i := 3) (N := some 86) (v := ?_) (a' := ?_) #[true, true, true, true, false, false, false, false, false, false, false, false, false, false, false] rfl rfl (by kernel_rfl) (fun _ _ _ h => h) (Or.inl ⟨by rfl, ?_⟩) ?_ ?_
        rotate_left
        · intro w'
          go_simp
          with_reducible rfl
        rotate_left
        · simp only [Act.put, List.setIfInBounds_toArray, List.set_cons_zero, List.set_cons_succ, i64_w, i32_w]
          rfl
        refine pure_ (i := 4) (N := some 87) (v := ?_) (a' := ?_) #[true, true, true, true, true, false, false, false, false, false, false, false, false, false, false] rfl rfl (by kernel_rfl) (fun _ _ _ h => h) (Or.inl ⟨by rfl, ?_⟩) ?_ ?_
        rotate_left
        · intro w'
          go_simp
          with_reducible rfl
        rotate_left
        · simp only [Act.put, List.setIfInBounds_toArray, List.set_cons_zero, List.set_cons_succ, i64_w, i32_w]
          rfl
        refine pure_ (i := 5) (N := some 88) (v := ?_) (a' := ?_) #[true, true, true, true, true, true, false, false, false, false, false, false, false, false, false] rfl rfl (by kernel_rfl) (fun _ _ _ h => h) (Or.inl ⟨by rfl, ?_⟩) ?_ ?_
        rotate_left
        · intro w'
          go_simp
          with_reducible rfl
        rotate_left
        · simp only [Act.put, List.setIfInBounds_toArray, List.set_cons_zero, List.set_cons_succ, i64_w, i32_w]
          rfl
        refine pure_ (i := 6) (N := some 89) (v := ?_) (a' := ?_) #[true, true, true, true, true, true, true, false, false, false, false, false, false, false, false] rfl rfl (by kernel_rfl) (fun _ _ _ h => h) (Or.inl ⟨by rfl, ?_⟩) ?_ ?_
        rotate_left
        · intro w'
          go_simp
          with_reducible rfl
        rotate_left
        · simp only [Act.put, List.setIfInBounds_toArray, List.set_cons_zero, List.set_cons_succ, i64_w, i32_w]
          rfl
        refine pure_ (i := 7) (N := some 90) (v := ?_) (a' := ?_) #[true, true, true, true, true, true, true, true, false, false, false, false, false, false, false] rfl rfl (by kernel_rfl) (fun _ _ _ h => h) (Or.inl ⟨by rfl, ?_⟩) ?_ ?_
        rotate_left
        · intro w'
          go_simp
          with_reducible rfl
        rotate_left
        · simp only [Act.put, List.setIfInBounds_toArray, List.set_cons_zero, List.set_cons_succ, i64_w, i32_w]
          rfl
        refine pure_ (i := 8) (N := some 91) (v := ?_) (a' := ?_) #[true, true, true, true, true, true, true, true, true, false, false, false, false, false, false] rfl rfl (by kernel_rfl) (fun _ _ _ h => h) (Or.inl ⟨by rfl, ?_⟩) ?_ ?_
        rotate_left
        · intro w'
          go_simp
          with_reducible rfl
        rotate_left
        · simp only [Act.put, List.setIfInBounds_toArray, List.set_cons_zero, List.set_cons_succ, i64_w, i32_w]
          rfl
        refine pure_ (i := 9) (N := some 92) (v := ?_) (a' := ?_) #[true, true, true, true, true, true, true, true, true, true, false, false, false, false, false] rfl rfl (by kernel_rfl) (fun _ _ _ h => h) (Or.inl ⟨by rfl, ?_⟩) ?_ ?_
        rotate_left
        · intro w'
          go_simp
          with_reducible rfl
        rotate_left
        · simp only [Act.put, List.setIfInBounds_toArray, List.set_cons_zero, List.set_cons_succ, i64_w, i32_w]
          rfl
        refine pure_ (i := 11) (N := some 94) (v := ?_) (a' := ?_) #[true, true, true, true, true, true, true, true, true, true, false, true, false, false, false] rfl rfl (by kernel_rfl) (fun _ _ _ h => h) (Or.inl ⟨by rfl, ?_⟩) ?_ ?_
        rotate_left
        · intro w'
          go_simp
          with_reducible rfl
        rotate_left
        · simp only [Act.put, List.setIfInBounds_toArray, List.set_cons_zero, List.set_cons_succ, i64_w, i32_w]
          rfl
        refine take_ (i := 12) (N := some 95) (v := ?_) (a' := ?_) #[true, true, true, true, true, true, true, true, true, true, false, true, true, false, false] rfl rfl (by kernel_rfl) (fun _ _ _ h => h) (Or.inl ⟨by rfl, ?_⟩) hHeld ?_ ?_
        rotate_left
        · rintro w' ⟨s0, s1⟩
          go_simp
          with_reducible rfl
        rotate_left
        · simp only [Act.put, List.setIfInBounds_toArray, List.set_cons_zero, List.set_cons_succ, i64_w, i32_w]
          rfl
        refine one_ (i := 10) (N := some 93) #[true, true, true, true, true, true, true, true, true, true, true, true, true, false, false] rfl rfl (by kernel_rfl) (by decide) (fun K hK => ?_)
        refine goes_ Try.func16 (by kernel_rfl) rfl #[.pointer (some ⟨g2, 0, none⟩)] (by rfl) rfl rfl (by (try simp only [List.map_toArray, List.map_cons, List.map_nil]); first | done | rfl) ?_
        with_reducible refine (ora_last a2 b2 g2 _ hHeld.2).mono ?_
        rintro e w10 ⟨rfl, rfl⟩
        refine ⟨_, rfl, ?_⟩
        refine hK.out _ _ ⟨hHeld.1, hHeld.2⟩ (fun hHeld => ?_)
        clear hK K
        refine norm_ (a' := ?_) ?_ ?_
        rotate_left
        · show Act.put _ (some 93) _ = _
          simp only [Act.put, List.setIfInBounds_toArray, List.set_cons_zero, List.set_cons_succ, i64_w, i32_w]
          rfl
        refine pure_ (i := 13) (N := some 96) (v := ?_) (a' := ?_) #[true, true, true, true, true, true, true, true, true, true, true, true, true, true, false] rfl rfl (by kernel_rfl) (fun _ _ _ h => h) (Or.inl ⟨by rfl, ?_⟩) ?_ ?_
        rotate_left
        · intro w'
          go_simp
          with_reducible rfl
        rotate_left
        · simp only [Act.put, List.setIfInBounds_toArray, List.set_cons_zero, List.set_cons_succ, i64_w, i32_w]
          rfl
        refine pure_ (i := 14) (N := some 97) (v := ?_) (a' := ?_) #[true, true, true, true, true, true, true, true, true, true, true, true, true, true, true] rfl rfl (by kernel_rfl) (fun _ _ _ h => h) (Or.inl ⟨by rfl, ?_⟩) ?_ ?_
        rotate_left
        · intro w'
          go_simp
          with_reducible rfl
        rotate_left
        · simp only [Act.put, List.setIfInBounds_toArray, List.set_cons_zero, List.set_cons_succ, i64_w, i32_w]
          rfl
        refine done_ (by kernel_rfl) ?_

        go_wp2
        go_roundw
        case rel => exact ⟨i + 1, g2, a2, b2, by go_num, by omega, rfl, hg, hgh, h2, h3, HI.out, HR.out, HB.out⟩
        case measure => simp [intOf]; omega
    · go_wp2
      go_ret
      exact ⟨rfl, HB.out⟩
end Go.Proofs.Ytdiocapnoinmlaa.My
