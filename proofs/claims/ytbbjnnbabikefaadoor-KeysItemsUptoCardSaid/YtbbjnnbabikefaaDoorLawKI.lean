/- The law KeysItems walked. -/
import Derived.Test.YtbbjnnbabikefaaDoorKeysJ
namespace Go.Proofs.YtbbjnnbabikefaaDoor.My
set_option linter.unusedSimpArgs false
set_option linter.unusedVariables false
open Go.RowKit Go.Proofs.YtbbjnnbabikefaaDoorW.PrintWords Go.Proofs.YtbbjnnbabikefaaDoorW.PrintLast Go.Proofs.YtbbjnnbabikefaaDoor.Pm

set_option maxRecDepth 100000 in
set_option maxHeartbeats 16000000 in
theorem keys_items_walk (n : Int) (s : ByteArray) (w : World) (hs : s.size ≤ 4000000) (hg : Glob w) :
    Calls Tryd.prog 5 #[.int .i64 n, .string s] w fun e w' => e = .returned (.bool true) ∧ Below w.heap.size w w' := by
  have HG := Lib.hid hg; clear hg
  have AW := Lib.hid (fun w (hg : Glob w) => awake03 w hg)
  have E2 := Lib.hid (fun (V : Value) (g : Nat) (w : World) hc (hV : BadV V) hg => encode_bad2 s V g w hc hV hs hg)
  have hkb := print_bytes (P := Tryd.prog) 9 39 5 Tryd.underlying9 Tryd.underlying39 Tryd.underlying5 s (w.alloc (.cells #[.int .i64 n] 3))
  have hB0 := below_alloc (Below.refl w.heap.size w) (.cells #[.int .i64 n] 3)
  have hB1 := bytes_below hB0 hB0.size 5 s
  have HB := Lib.hid hB1; clear hB0 hB1
  have hB2 := bytes_below (Below.refl (w.alloc (.cells #[.int .i64 n] 3)).heap.size _) (Nat.le_refl _) 5 s
  have c2 := (hB2.cell (p := ⟨w.heap.size, 0, none⟩) (blk_lt (blk_new w (.cells #[.int .i64 n] 3)))).trans (blk_cell (blk_new w (.cells #[.int .i64 n] 3)) 0)
  replace c2 := c2.trans (show _ = some (.int .i64 n) from rfl)
  clear hB2
  obtain ⟨w2, hw2⟩ : ∃ w2, Lib.bytesWorld (w.alloc (.cells #[.int .i64 n] 3)) 5 s = w2 := ⟨_, rfl⟩
  obtain ⟨cap, hcap⟩ : ∃ cap, grownCap (w.alloc (.cells #[.int .i64 n] 3)) s.size 0 5 = cap := ⟨_, rfl⟩
  rw [hw2] at hkb c2 HB
  rw [hcap] at hkb
  clear hw2 hcap
  go_enter Tryd.func5, Tryd.ntmps5
  go_wp2

  obtain ⟨g0, hg0⟩ : ∃ g0, w.heap.size = g0 := ⟨_, rfl⟩
  have HG0 := Lib.hid hg0
  rw [hg0]
  obtain ⟨gs, hgs⟩ : ∃ gs, g0 + 1 = gs := ⟨_, rfl⟩
  rw [hgs]
  clear hg0 hgs hkb c2
  have HROW := Lib.hid (blk_new w2 (.cells #[.iface 3 (.int .i64 n), .iface 39 (.slice (some ⟨gs, 0, none⟩) s.size cap), .iface 41 (.agg #[.iface 41 (.agg #[.iface 9 (.string s)])]), .iface 41 (.agg #[.iface 3 (.int .i64 n)]), .iface 21 (.int .i32 3), .iface 42 (.pointer (some ⟨g0, 0, none⟩))] 20))
  replace HB := Lib.hid (below_alloc HB.out (.cells #[.iface 3 (.int .i64 n), .iface 39 (.slice (some ⟨gs, 0, none⟩) s.size cap), .iface 41 (.agg #[.iface 41 (.agg #[.iface 9 (.string s)])]), .iface 41 (.agg #[.iface 3 (.int .i64 n)]), .iface 21 (.int .i32 3), .iface 42 (.pointer (some ⟨g0, 0, none⟩))] 20))
  generalize w2.alloc (.cells #[.iface 3 (.int .i64 n), .iface 39 (.slice (some ⟨gs, 0, none⟩) s.size cap), .iface 41 (.agg #[.iface 41 (.agg #[.iface 9 (.string s)])]), .iface 41 (.agg #[.iface 3 (.int .i64 n)]), .iface 21 (.int .i32 3), .iface 42 (.pointer (some ⟨g0, 0, none⟩))] 20) = w3 at *
  generalize w2.heap.size = gB at *
  go_loopw [6] (fun u wr => ∃ i : Nat, u = .int .i64 i ∧ i ≤ 6 ∧ Hid (wr.heap[gB]? = some (.cells #[.iface 3 (.int .i64 n), .iface 39 (.slice (some ⟨gs, 0, none⟩) s.size cap), .iface 41 (.agg #[.iface 41 (.agg #[.iface 9 (.string s)])]), .iface 41 (.agg #[.iface 3 (.int .i64 n)]), .iface 21 (.int .i32 3), .iface 42 (.pointer (some ⟨g0, 0, none⟩))] 20 (0, 0))) ∧ Hid (Below w.heap.size w wr)) (fun u _ => 6 - (intOf u).toNat)
  case atStart => exact ⟨0, rfl, by decide, HROW, HB⟩
  case round =>
    clear HROW HB
    obtain ⟨i, rfl, hi, HROW, HB⟩ := hrel
    by_cases hlt : i < 6
    · rcases (show i = 0 ∨ i = 1 ∨ i = 2 ∨ i = 3 ∨ i = 4 ∨ i = 5 by omega) with rfl | rfl | rfl | rfl | rfl | rfl
      · have HV := Lib.hid (show BadV (.iface 3 (.int .i64 n)) from fun w => item_bad_int n w)
        have c0 : wr.cell? ⟨gB, 0, none⟩ = some (.iface 3 (.int .i64 n)) := (blk_cell HROW.out 0).trans rfl
        have HE := Lib.hid (E2.out _ _ _ (blk_new wr (.cells #[.iface 9 (.string s), .iface 3 (.int .i64 n)] 20)) HV.out (HG.out.below (below_alloc HB.out (.cells #[.iface 9 (.string s), .iface 3 (.int .i64 n)] 20))))
        have HB2 := Lib.hid (below_alloc HB.out (.cells #[.iface 9 (.string s), .iface 3 (.int .i64 n)] 20))
        have HR2 := Lib.hid (blk_below HROW.out (below_alloc (Below.refl _ wr) (.cells #[.iface 9 (.string s), .iface 3 (.int .i64 n)] 20)))
        go_wp2_with fail
        refine HE.out.mono ?_
        rintro e w6 ⟨rfl, hb⟩
        replace HB2 := Lib.hid (HB2.out.trans (hb.mono HB2.out.size))
        replace HR2 := Lib.hid (blk_below HR2.out hb)
        clear HE hb c0 HROW HB
        have c0 : w6.cell? ⟨gB, 0, none⟩ = some (.iface 3 (.int .i64 n)) := (blk_cell HR2.out 0).trans rfl
        go_wp2
        refine start_ (n := 16) (S := fun w' => w'.cell? ⟨gB, 0, none⟩ = some (.iface 3 (.int .i64 n)) ∧ Below w6.heap.size w6 w') (ds := []) #[false, false, false, false, false, false, false, false, false, false, false, false, false, false, false, false] (by kernel_rfl) rfl rfl ⟨(show w6.drew.cell? _ = _ from c0), (below_drew (Below.refl _ _))⟩ (fun hHeld => ?_)
        refine pure_ (i := 0) (N := some 47) (v := ?_) (a' := ?_) #[true, false, false, false, false, false, false, false, false, false, false, false, false, false, false, false] rfl rfl (by kernel_rfl) (fun _ _ _ h => h) (Or.inl ⟨by rfl, ?_⟩) ?_ ?_
        rotate_left
        · intro w'
          go_simp
          with_reducible rfl
        rotate_left
        · simp only [Act.put, List.setIfInBounds_toArray, List.set_cons_zero, List.set_cons_succ, i64_w, i32_w]
          rfl
        refine pure_ (i := 1) (N := some 48) (v := ?_) (a' := ?_) #[true, true, false, false, false, false, false, false, false, false, false, false, false, false, false, false] rfl rfl (by kernel_rfl) (fun _ _ _ h => h) (Or.inl ⟨by rfl, ?_⟩) ?_ ?_
        rotate_left
        · intro w'
          go_simp
          with_reducible rfl
        rotate_left
        · simp only [Act.put, List.setIfInBounds_toArray, List.set_cons_zero, List.set_cons_succ, i64_w, i32_w]
          rfl
        refine pure_ (i := 2) (N := some 49) (v := ?_) (a' := ?_) #[true, true, true, false, false, false, false, false, false, false, false, false, false, false, false, false] rfl rfl (by kernel_rfl) (fun _ _ _ h => h) (Or.inl ⟨by rfl, ?_⟩) ?_ ?_
        rotate_left
        · intro w'
          go_simp
          with_reducible rfl
        rotate_left
        · simp only [Act.put, List.setIfInBounds_toArray, List.set_cons_zero, List.set_cons_succ, i64_w, i32_w]
          rfl
        refine pure_ (i := 5) (N := some 52) (v := ?_) (a' := ?_) #[true, true, true, false, false, true, false, false, false, false, false, false, false, false, false, false] rfl rfl (by kernel_rfl) (fun _ _ _ h => h) (Or.inl ⟨by rfl, ?_⟩) ?_ ?_
        rotate_left
        · intro w'
          go_simp
          with_reducible rfl
        rotate_left
        · simp only [Act.put, List.setIfInBounds_toArray, List.set_cons_zero, List.set_cons_succ, i64_w, i32_w]
          rfl
        refine pure_ (i := 6) (N := some 53) (v := ?_) (a' := ?_) #[true, true, true, false, false, true, true, false, false, false, false, false, false, false, false, false] rfl rfl (by kernel_rfl) (fun _ _ _ h => h) (Or.inl ⟨by rfl, ?_⟩) ?_ ?_
        rotate_left
        · intro w'
          go_simp
          with_reducible rfl
        rotate_left
        · simp only [Act.put, List.setIfInBounds_toArray, List.set_cons_zero, List.set_cons_succ, i64_w, i32_w]
          rfl
        refine pure_ (i := 7) (N := some 54) (v := ?_) (a' := ?_) #[true, true, true, false, false, true, true, true, false, false, false, false, false, false, false, false] rfl rfl (by kernel_rfl) (fun _ _ _ h => h) (Or.inl ⟨by rfl, ?_⟩) ?_ ?_
        rotate_left
        · intro w'
          go_simp
          with_reducible rfl
        rotate_left
        · simp only [Act.put, List.setIfInBounds_toArray, List.set_cons_zero, List.set_cons_succ, i64_w, i32_w]
          rfl
        refine take_ (i := 3) (N := some 50) (v := ?_) (a' := ?_) #[true, true, true, true, false, true, true, true, false, false, false, false, false, false, false, false] rfl rfl (by kernel_rfl) (fun _ _ _ h => h) (Or.inl ⟨by rfl, ?_⟩) hHeld ?_ ?_
        rotate_left
        · rintro w' ⟨s0, s1⟩
          go_simp
          with_reducible rfl
        rotate_left
        · simp only [Act.put, List.setIfInBounds_toArray, List.set_cons_zero, List.set_cons_succ, i64_w, i32_w]
          rfl
        refine take_ (i := 8) (N := some 55) (v := ?_) (a' := ?_) #[true, true, true, true, false, true, true, true, true, false, false, false, false, false, false, false] rfl rfl (by kernel_rfl) (fun _ _ _ h => h) (Or.inl ⟨by rfl, ?_⟩) hHeld ?_ ?_
        rotate_left
        · rintro w' ⟨s0, s1⟩
          go_simp
          with_reducible rfl
        rotate_left
        · simp only [Act.put, List.setIfInBounds_toArray, List.set_cons_zero, List.set_cons_succ, i64_w, i32_w]
          rfl
        refine join_ (σ := Nat × Nat) 6 #[true, true, true, true, true, true, true, true, true, true, false, false, false, false, false, false] (fun q => [(51, .slice (some ⟨q.1, 0, none⟩) 1 1), (56, .slice (some ⟨q.2, 0, none⟩) 1 1)]) (fun q w' => w'.heap[q.1]? = some (.cells #[.iface 3 (.int .i64 n)] 20 (0, 0)) ∧ w'.heap[q.2]? = some (.cells #[.iface 3 (.int .i64 n)] 20 (0, 0)) ∧ (w'.cell? ⟨gB, 0, none⟩ = some (.iface 3 (.int .i64 n)) ∧ Below w6.heap.size w6 w')) ?_ ?_
        rotate_left
        · intro hCont
          refine two_ (i := 4) (j := 9) (Ni := some 51) (Nj := some 56) #[true, true, true, true, true, true, true, true, true, false, false, false, false, false, false, false] #[true, true, true, true, false, true, true, true, true, true, false, false, false, false, false, false] rfl rfl rfl rfl (by kernel_rfl) (by decide) (by decide) (fun K hK => ?_) (fun K hK => ?_)
          · skip
            refine value_ (w1 := ?_) (v := ?_) (by rfl) rfl ?_ ?_
            rotate_left 2
            · go_simp
              constructor
              · rfl
              · rfl
            have H4 := Lib.hid (row_new w6.drew (.cells #[.iface 3 (.int .i64 n)] 20) (n := w6.heap.size) (by simp))
            refine hK.out _ _ ⟨(((below_alloc (Below.refl _ _) _).cell (p := ⟨gB, 0, none⟩) (Nat.lt_of_lt_of_le (blk_lt HR2.out) hHeld.2.size)).trans hHeld.1), below_alloc hHeld.2 _⟩ (fun hHeld => ?_)
            clear hK K
            refine norm_ (a' := ?_) ?_ ?_
            rotate_left
            · show Act.put _ (some 51) _ = _
              simp only [Act.put, List.setIfInBounds_toArray, List.set_cons_zero, List.set_cons_succ, i64_w, i32_w]
              rfl
            refine one_ (i := 9) (N := some 56) #[true, true, true, true, true, true, true, true, true, true, false, false, false, false, false, false] rfl rfl (by kernel_rfl) (by decide) (fun K hK => ?_)
            refine value_ (w1 := ?_) (v := ?_) (by rfl) rfl ?_ ?_
            rotate_left 2
            · go_simp
              constructor
              · rfl
              · rfl
            have H9 := Lib.hid (row_new (w6.drew.alloc (.cells #[.iface 3 (.int .i64 n)] 20)) (.cells #[.iface 3 (.int .i64 n)] 20) (n := w6.heap.size + 1) (by simp))
            have H4 := Lib.hid (blk_alloc H4.out (.cells #[.iface 3 (.int .i64 n)] 20))
            refine hK.out _ _ ⟨(((below_alloc (Below.refl _ _) _).cell (p := ⟨gB, 0, none⟩) (Nat.lt_of_lt_of_le (blk_lt HR2.out) hHeld.2.size)).trans hHeld.1), below_alloc hHeld.2 _⟩ (fun hHeld => ?_)
            clear hK K
            refine norm_ (a' := ?_) ?_ ?_
            rotate_left
            · show Act.put _ (some 56) _ = _
              simp only [Act.put, List.setIfInBounds_toArray, List.set_cons_zero, List.set_cons_succ, i64_w, i32_w]
              rfl
            exact norm_ (by simp only [putAll, Act.put, List.setIfInBounds_toArray, List.set_cons_zero, List.set_cons_succ]) (hCont (w6.heap.size, w6.heap.size + 1) _ ⟨H4.out, H9.out, hHeld⟩)
          · skip
            refine value_ (w1 := ?_) (v := ?_) (by rfl) rfl ?_ ?_
            rotate_left 2
            · go_simp
              constructor
              · rfl
              · rfl
            have H9 := Lib.hid (row_new w6.drew (.cells #[.iface 3 (.int .i64 n)] 20) (n := w6.heap.size) (by simp))
            refine hK.out _ _ ⟨(((below_alloc (Below.refl _ _) _).cell (p := ⟨gB, 0, none⟩) (Nat.lt_of_lt_of_le (blk_lt HR2.out) hHeld.2.size)).trans hHeld.1), below_alloc hHeld.2 _⟩ (fun hHeld => ?_)
            clear hK K
            refine norm_ (a' := ?_) ?_ ?_
            rotate_left
            · show Act.put _ (some 56) _ = _
              simp only [Act.put, List.setIfInBounds_toArray, List.set_cons_zero, List.set_cons_succ, i64_w, i32_w]
              rfl
            refine one_ (i := 4) (N := some 51) #[true, true, true, true, true, true, true, true, true, true, false, false, false, false, false, false] rfl rfl (by kernel_rfl) (by decide) (fun K hK => ?_)
            refine value_ (w1 := ?_) (v := ?_) (by rfl) rfl ?_ ?_
            rotate_left 2
            · go_simp
              constructor
              · rfl
              · rfl
            have H4 := Lib.hid (row_new (w6.drew.alloc (.cells #[.iface 3 (.int .i64 n)] 20)) (.cells #[.iface 3 (.int .i64 n)] 20) (n := w6.heap.size + 1) (by simp))
            have H9 := Lib.hid (blk_alloc H9.out (.cells #[.iface 3 (.int .i64 n)] 20))
            refine hK.out _ _ ⟨(((below_alloc (Below.refl _ _) _).cell (p := ⟨gB, 0, none⟩) (Nat.lt_of_lt_of_le (blk_lt HR2.out) hHeld.2.size)).trans hHeld.1), below_alloc hHeld.2 _⟩ (fun hHeld => ?_)
            clear hK K
            refine norm_ (a' := ?_) ?_ ?_
            rotate_left
            · show Act.put _ (some 51) _ = _
              simp only [Act.put, List.setIfInBounds_toArray, List.set_cons_zero, List.set_cons_succ, i64_w, i32_w]
              rfl
            exact norm_ (by simp only [putAll, Act.put, List.setIfInBounds_toArray, List.set_cons_zero, List.set_cons_succ]) (hCont (w6.heap.size + 1, w6.heap.size) _ ⟨H4.out, H9.out, hHeld⟩)
        rintro ⟨g4, g9⟩ w7 ⟨h4, h9, hHeld⟩
        have H4 := Lib.hid h4
        have H9 := Lib.hid h9
        clear h4 h9
        refine norm_ (a' := ?_) ?_ ?_
        rotate_left
        · simp only [putAll, Act.put, List.setIfInBounds_toArray, List.set_cons_zero, List.set_cons_succ]
          rfl
        refine one_ (i := 10) (N := some 57) #[true, true, true, true, true, true, true, true, true, true, true, false, false, false, false, false] rfl rfl (by kernel_rfl) (by decide) (fun K hK => ?_)
        refine goes_ Tryd.func13 (by kernel_rfl) rfl #[.slice (some ⟨g4, 0, none⟩) 1 1, .slice (some ⟨g9, 0, none⟩) 1 1] (by rfl) rfl rfl (by (try simp only [List.map_toArray, List.map_cons, List.map_nil]); first | done | rfl) ?_
        with_reducible refine ((compare_bad _ _ _ _ H4.out H9.out HV.out)).mono ?_
        rintro e w8 ⟨rfl, hb8⟩
        refine ⟨_, rfl, ?_⟩
        refine hK.out _ _ ⟨((hb8.cell (p := ⟨gB, 0, none⟩) (cell_block_lt hHeld.1)).trans hHeld.1), hHeld.2.trans (hb8.mono hHeld.2.size)⟩ (fun hHeld => ?_)
        clear hK K
        refine norm_ (a' := ?_) ?_ ?_
        rotate_left
        · show Act.put _ (some 57) _ = _
          simp only [Act.put, List.setIfInBounds_toArray, List.set_cons_zero, List.set_cons_succ, i64_w, i32_w]
          rfl
        refine pure_ (i := 11) (N := some 46) (v := ?_) (a' := ?_) #[true, true, true, true, true, true, true, true, true, true, true, true, false, false, false, false] rfl rfl (by kernel_rfl) (fun _ _ _ h => h) (Or.inl ⟨by rfl, ?_⟩) ?_ ?_
        rotate_left
        · intro w'
          go_simp
          with_reducible rfl
        rotate_left
        · simp only [Act.put, List.setIfInBounds_toArray, List.set_cons_zero, List.set_cons_succ, i64_w, i32_w]
          rfl
        refine pure_ (i := 12) (N := some 58) (v := ?_) (a' := ?_) #[true, true, true, true, true, true, true, true, true, true, true, true, true, false, false, false] rfl rfl (by kernel_rfl) (fun _ _ _ h => h) (Or.inl ⟨by rfl, ?_⟩) ?_ ?_
        rotate_left
        · intro w'
          go_simp
          with_reducible rfl
        rotate_left
        · simp only [Act.put, List.setIfInBounds_toArray, List.set_cons_zero, List.set_cons_succ, i64_w, i32_w]
          rfl
        refine pure_ (i := 13) (N := some 59) (v := ?_) (a' := ?_) #[true, true, true, true, true, true, true, true, true, true, true, true, true, true, false, false] rfl rfl (by kernel_rfl) (fun _ _ _ h => h) (Or.inl ⟨by rfl, ?_⟩) ?_ ?_
        rotate_left
        · intro w'
          go_simp
          with_reducible rfl
        rotate_left
        · simp only [Act.put, List.setIfInBounds_toArray, List.set_cons_zero, List.set_cons_succ, i64_w, i32_w]
          rfl
        refine pure_ (i := 14) (N := some 9) (v := ?_) (a' := ?_) #[true, true, true, true, true, true, true, true, true, true, true, true, true, true, true, false] rfl rfl (by kernel_rfl) (fun _ _ _ h => h) (Or.inl ⟨by rfl, ?_⟩) ?_ ?_
        rotate_left
        · intro w'
          go_simp
          with_reducible rfl
        rotate_left
        · simp only [Act.put, List.setIfInBounds_toArray, List.set_cons_zero, List.set_cons_succ, i64_w, i32_w]
          rfl
        refine pure_ (i := 15) (N := some 10) (v := ?_) (a' := ?_) #[true, true, true, true, true, true, true, true, true, true, true, true, true, true, true, true] rfl rfl (by kernel_rfl) (fun _ _ _ h => h) (Or.inl ⟨by rfl, ?_⟩) ?_ ?_
        rotate_left
        · intro w'
          go_simp
          with_reducible rfl
        rotate_left
        · simp only [Act.put, List.setIfInBounds_toArray, List.set_cons_zero, List.set_cons_succ, i64_w, i32_w]
          rfl
        refine done_ (by kernel_rfl) ?_

        replace HB2 := Lib.hid (HB2.out.trans (hHeld.2.mono HB2.out.size))
        replace HR2 := Lib.hid (blk_below HR2.out hHeld.2)
        go_wp2
        go_roundw
        case rel => exact ⟨1, by go_num, by decide, HR2, HB2⟩
        case measure => first | (simp only [intOf]; decide) | (simp [intOf]) | decide
      · have HV := Lib.hid (show BadV (.iface 39 (.slice (some ⟨gs, 0, none⟩) s.size cap)) from fun w => item_bad_row ⟨gs, 0, none⟩ s.size cap w)
        have c0 : wr.cell? ⟨gB, 1, none⟩ = some (.iface 39 (.slice (some ⟨gs, 0, none⟩) s.size cap)) := (blk_cell HROW.out 1).trans rfl
        have HE := Lib.hid (E2.out _ _ _ (blk_new wr (.cells #[.iface 9 (.string s), .iface 39 (.slice (some ⟨gs, 0, none⟩) s.size cap)] 20)) HV.out (HG.out.below (below_alloc HB.out (.cells #[.iface 9 (.string s), .iface 39 (.slice (some ⟨gs, 0, none⟩) s.size cap)] 20))))
        have HB2 := Lib.hid (below_alloc HB.out (.cells #[.iface 9 (.string s), .iface 39 (.slice (some ⟨gs, 0, none⟩) s.size cap)] 20))
        have HR2 := Lib.hid (blk_below HROW.out (below_alloc (Below.refl _ wr) (.cells #[.iface 9 (.string s), .iface 39 (.slice (some ⟨gs, 0, none⟩) s.size cap)] 20)))
        go_wp2_with fail
        refine HE.out.mono ?_
        rintro e w6 ⟨rfl, hb⟩
        replace HB2 := Lib.hid (HB2.out.trans (hb.mono HB2.out.size))
        replace HR2 := Lib.hid (blk_below HR2.out hb)
        clear HE hb c0 HROW HB
        have c0 : w6.cell? ⟨gB, 1, none⟩ = some (.iface 39 (.slice (some ⟨gs, 0, none⟩) s.size cap)) := (blk_cell HR2.out 1).trans rfl
        go_wp2
        refine start_ (n := 16) (S := fun w' => w'.cell? ⟨gB, 1, none⟩ = some (.iface 39 (.slice (some ⟨gs, 0, none⟩) s.size cap)) ∧ Below w6.heap.size w6 w') (ds := []) #[false, false, false, false, false, false, false, false, false, false, false, false, false, false, false, false] (by kernel_rfl) rfl rfl ⟨(show w6.drew.cell? _ = _ from c0), (below_drew (Below.refl _ _))⟩ (fun hHeld => ?_)
        refine pure_ (i := 0) (N := some 47) (v := ?_) (a' := ?_) #[true, false, false, false, false, false, false, false, false, false, false, false, false, false, false, false] rfl rfl (by kernel_rfl) (fun _ _ _ h => h) (Or.inl ⟨by rfl, ?_⟩) ?_ ?_
        rotate_left
        · intro w'
          go_simp
          with_reducible rfl
        rotate_left
        · simp only [Act.put, List.setIfInBounds_toArray, List.set_cons_zero, List.set_cons_succ, i64_w, i32_w]
          rfl
        refine pure_ (i := 1) (N := some 48) (v := ?_) (a' := ?_) #[true, true, false, false, false, false, false, false, false, false, false, false, false, false, false, false] rfl rfl (by kernel_rfl) (fun _ _ _ h => h) (Or.inl ⟨by rfl, ?_⟩) ?_ ?_
        rotate_left
        · intro w'
          go_simp
          with_reducible rfl
        rotate_left
        · simp only [Act.put, List.setIfInBounds_toArray, List.set_cons_zero, List.set_cons_succ, i64_w, i32_w]
          rfl
        refine pure_ (i := 2) (N := some 49) (v := ?_) (a' := ?_) #[true, true, true, false, false, false, false, false, false, false, false, false, false, false, false, false] rfl rfl (by kernel_rfl) (fun _ _ _ h => h) (Or.inl ⟨by rfl, ?_⟩) ?_ ?_
        rotate_left
        · intro w'
          go_simp
          with_reducible rfl
        rotate_left
        · simp only [Act.put, List.setIfInBounds_toArray, List.set_cons_zero, List.set_cons_succ, i64_w, i32_w]
          rfl
        refine pure_ (i := 5) (N := some 52) (v := ?_) (a' := ?_) #[true, true, true, false, false, true, false, false, false, false, false, false, false, false, false, false] rfl rfl (by kernel_rfl) (fun _ _ _ h => h) (Or.inl ⟨by rfl, ?_⟩) ?_ ?_
        rotate_left
        · intro w'
          go_simp
          with_reducible rfl
        rotate_left
        · simp only [Act.put, List.setIfInBounds_toArray, List.set_cons_zero, List.set_cons_succ, i64_w, i32_w]
          rfl
        refine pure_ (i := 6) (N := some 53) (v := ?_) (a' := ?_) #[true, true, true, false, false, true, true, false, false, false, false, false, false, false, false, false] rfl rfl (by kernel_rfl) (fun _ _ _ h => h) (Or.inl ⟨by rfl, ?_⟩) ?_ ?_
        rotate_left
        · intro w'
          go_simp
          with_reducible rfl
        rotate_left
        · simp only [Act.put, List.setIfInBounds_toArray, List.set_cons_zero, List.set_cons_succ, i64_w, i32_w]
          rfl
        refine pure_ (i := 7) (N := some 54) (v := ?_) (a' := ?_) #[true, true, true, false, false, true, true, true, false, false, false, false, false, false, false, false] rfl rfl (by kernel_rfl) (fun _ _ _ h => h) (Or.inl ⟨by rfl, ?_⟩) ?_ ?_
        rotate_left
        · intro w'
          go_simp
          with_reducible rfl
        rotate_left
        · simp only [Act.put, List.setIfInBounds_toArray, List.set_cons_zero, List.set_cons_succ, i64_w, i32_w]
          rfl
        refine take_ (i := 3) (N := some 50) (v := ?_) (a' := ?_) #[true, true, true, true, false, true, true, true, false, false, false, false, false, false, false, false] rfl rfl (by kernel_rfl) (fun _ _ _ h => h) (Or.inl ⟨by rfl, ?_⟩) hHeld ?_ ?_
        rotate_left
        · rintro w' ⟨s0, s1⟩
          go_simp
          with_reducible rfl
        rotate_left
        · simp only [Act.put, List.setIfInBounds_toArray, List.set_cons_zero, List.set_cons_succ, i64_w, i32_w]
          rfl
        refine take_ (i := 8) (N := some 55) (v := ?_) (a' := ?_) #[true, true, true, true, false, true, true, true, true, false, false, false, false, false, false, false] rfl rfl (by kernel_rfl) (fun _ _ _ h => h) (Or.inl ⟨by rfl, ?_⟩) hHeld ?_ ?_
        rotate_left
        · rintro w' ⟨s0, s1⟩
          go_simp
          with_reducible rfl
        rotate_left
        · simp only [Act.put, List.setIfInBounds_toArray, List.set_cons_zero, List.set_cons_succ, i64_w, i32_w]
          rfl
        refine join_ (σ := Nat × Nat) 6 #[true, true, true, true, true, true, true, true, true, true, false, false, false, false, false, false] (fun q => [(51, .slice (some ⟨q.1, 0, none⟩) 1 1), (56, .slice (some ⟨q.2, 0, none⟩) 1 1)]) (fun q w' => w'.heap[q.1]? = some (.cells #[.iface 39 (.slice (some ⟨gs, 0, none⟩) s.size cap)] 20 (0, 0)) ∧ w'.heap[q.2]? = some (.cells #[.iface 39 (.slice (some ⟨gs, 0, none⟩) s.size cap)] 20 (0, 0)) ∧ (w'.cell? ⟨gB, 1, none⟩ = some (.iface 39 (.slice (some ⟨gs, 0, none⟩) s.size cap)) ∧ Below w6.heap.size w6 w')) ?_ ?_
        rotate_left
        · intro hCont
          refine two_ (i := 4) (j := 9) (Ni := some 51) (Nj := some 56) #[true, true, true, true, true, true, true, true, true, false, false, false, false, false, false, false] #[true, true, true, true, false, true, true, true, true, true, false, false, false, false, false, false] rfl rfl rfl rfl (by kernel_rfl) (by decide) (by decide) (fun K hK => ?_) (fun K hK => ?_)
          · skip
            refine value_ (w1 := ?_) (v := ?_) (by rfl) rfl ?_ ?_
            rotate_left 2
            · go_simp
              constructor
              · rfl
              · rfl
            have H4 := Lib.hid (row_new w6.drew (.cells #[.iface 39 (.slice (some ⟨gs, 0, none⟩) s.size cap)] 20) (n := w6.heap.size) (by simp))
            refine hK.out _ _ ⟨(((below_alloc (Below.refl _ _) _).cell (p := ⟨gB, 1, none⟩) (Nat.lt_of_lt_of_le (blk_lt HR2.out) hHeld.2.size)).trans hHeld.1), below_alloc hHeld.2 _⟩ (fun hHeld => ?_)
            clear hK K
            refine norm_ (a' := ?_) ?_ ?_
            rotate_left
            · show Act.put _ (some 51) _ = _
              simp only [Act.put, List.setIfInBounds_toArray, List.set_cons_zero, List.set_cons_succ, i64_w, i32_w]
              rfl
            refine one_ (i := 9) (N := some 56) #[true, true, true, true, true, true, true, true, true, true, false, false, false, false, false, false] rfl rfl (by kernel_rfl) (by decide) (fun K hK => ?_)
            refine value_ (w1 := ?_) (v := ?_) (by rfl) rfl ?_ ?_
            rotate_left 2
            · go_simp
              constructor
              · rfl
              · rfl
            have H9 := Lib.hid (row_new (w6.drew.alloc (.cells #[.iface 39 (.slice (some ⟨gs, 0, none⟩) s.size cap)] 20)) (.cells #[.iface 39 (.slice (some ⟨gs, 0, none⟩) s.size cap)] 20) (n := w6.heap.size + 1) (by simp))
            have H4 := Lib.hid (blk_alloc H4.out (.cells #[.iface 39 (.slice (some ⟨gs, 0, none⟩) s.size cap)] 20))
            refine hK.out _ _ ⟨(((below_alloc (Below.refl _ _) _).cell (p := ⟨gB, 1, none⟩) (Nat.lt_of_lt_of_le (blk_lt HR2.out) hHeld.2.size)).trans hHeld.1), below_alloc hHeld.2 _⟩ (fun hHeld => ?_)
            clear hK K
            refine norm_ (a' := ?_) ?_ ?_
            rotate_left
            · show Act.put _ (some 56) _ = _
              simp only [Act.put, List.setIfInBounds_toArray, List.set_cons_zero, List.set_cons_succ, i64_w, i32_w]
              rfl
            exact norm_ (by simp only [putAll, Act.put, List.setIfInBounds_toArray, List.set_cons_zero, List.set_cons_succ]) (hCont (w6.heap.size, w6.heap.size + 1) _ ⟨H4.out, H9.out, hHeld⟩)
          · skip
            refine value_ (w1 := ?_) (v := ?_) (by rfl) rfl ?_ ?_
            rotate_left 2
            · go_simp
              constructor
              · rfl
              · rfl
            have H9 := Lib.hid (row_new w6.drew (.cells #[.iface 39 (.slice (some ⟨gs, 0, none⟩) s.size cap)] 20) (n := w6.heap.size) (by simp))
            refine hK.out _ _ ⟨(((below_alloc (Below.refl _ _) _).cell (p := ⟨gB, 1, none⟩) (Nat.lt_of_lt_of_le (blk_lt HR2.out) hHeld.2.size)).trans hHeld.1), below_alloc hHeld.2 _⟩ (fun hHeld => ?_)
            clear hK K
            refine norm_ (a' := ?_) ?_ ?_
            rotate_left
            · show Act.put _ (some 56) _ = _
              simp only [Act.put, List.setIfInBounds_toArray, List.set_cons_zero, List.set_cons_succ, i64_w, i32_w]
              rfl
            refine one_ (i := 4) (N := some 51) #[true, true, true, true, true, true, true, true, true, true, false, false, false, false, false, false] rfl rfl (by kernel_rfl) (by decide) (fun K hK => ?_)
            refine value_ (w1 := ?_) (v := ?_) (by rfl) rfl ?_ ?_
            rotate_left 2
            · go_simp
              constructor
              · rfl
              · rfl
            have H4 := Lib.hid (row_new (w6.drew.alloc (.cells #[.iface 39 (.slice (some ⟨gs, 0, none⟩) s.size cap)] 20)) (.cells #[.iface 39 (.slice (some ⟨gs, 0, none⟩) s.size cap)] 20) (n := w6.heap.size + 1) (by simp))
            have H9 := Lib.hid (blk_alloc H9.out (.cells #[.iface 39 (.slice (some ⟨gs, 0, none⟩) s.size cap)] 20))
            refine hK.out _ _ ⟨(((below_alloc (Below.refl _ _) _).cell (p := ⟨gB, 1, none⟩) (Nat.lt_of_lt_of_le (blk_lt HR2.out) hHeld.2.size)).trans hHeld.1), below_alloc hHeld.2 _⟩ (fun hHeld => ?_)
            clear hK K
            refine norm_ (a' := ?_) ?_ ?_
            rotate_left
            · show Act.put _ (some 51) _ = _
              simp only [Act.put, List.setIfInBounds_toArray, List.set_cons_zero, List.set_cons_succ, i64_w, i32_w]
              rfl
            exact norm_ (by simp only [putAll, Act.put, List.setIfInBounds_toArray, List.set_cons_zero, List.set_cons_succ]) (hCont (w6.heap.size + 1, w6.heap.size) _ ⟨H4.out, H9.out, hHeld⟩)
        rintro ⟨g4, g9⟩ w7 ⟨h4, h9, hHeld⟩
        have H4 := Lib.hid h4
        have H9 := Lib.hid h9
        clear h4 h9
        refine norm_ (a' := ?_) ?_ ?_
        rotate_left
        · simp only [putAll, Act.put, List.setIfInBounds_toArray, List.set_cons_zero, List.set_cons_succ]
          rfl
        refine one_ (i := 10) (N := some 57) #[true, true, true, true, true, true, true, true, true, true, true, false, false, false, false, false] rfl rfl (by kernel_rfl) (by decide) (fun K hK => ?_)
        refine goes_ Tryd.func13 (by kernel_rfl) rfl #[.slice (some ⟨g4, 0, none⟩) 1 1, .slice (some ⟨g9, 0, none⟩) 1 1] (by rfl) rfl rfl (by (try simp only [List.map_toArray, List.map_cons, List.map_nil]); first | done | rfl) ?_
        with_reducible refine ((compare_bad _ _ _ _ H4.out H9.out HV.out)).mono ?_
        rintro e w8 ⟨rfl, hb8⟩
        refine ⟨_, rfl, ?_⟩
        refine hK.out _ _ ⟨((hb8.cell (p := ⟨gB, 1, none⟩) (cell_block_lt hHeld.1)).trans hHeld.1), hHeld.2.trans (hb8.mono hHeld.2.size)⟩ (fun hHeld => ?_)
        clear hK K
        refine norm_ (a' := ?_) ?_ ?_
        rotate_left
        · show Act.put _ (some 57) _ = _
          simp only [Act.put, List.setIfInBounds_toArray, List.set_cons_zero, List.set_cons_succ, i64_w, i32_w]
          rfl
        refine pure_ (i := 11) (N := some 46) (v := ?_) (a' := ?_) #[true, true, true, true, true, true, true, true, true, true, true, true, false, false, false, false] rfl rfl (by kernel_rfl) (fun _ _ _ h => h) (Or.inl ⟨by rfl, ?_⟩) ?_ ?_
        rotate_left
        · intro w'
          go_simp
          with_reducible rfl
        rotate_left
        · simp only [Act.put, List.setIfInBounds_toArray, List.set_cons_zero, List.set_cons_succ, i64_w, i32_w]
          rfl
        refine pure_ (i := 12) (N := some 58) (v := ?_) (a' := ?_) #[true, true, true, true, true, true, true, true, true, true, true, true, true, false, false, false] rfl rfl (by kernel_rfl) (fun _ _ _ h => h) (Or.inl ⟨by rfl, ?_⟩) ?_ ?_
        rotate_left
        · intro w'
          go_simp
          with_reducible rfl
        rotate_left
        · simp only [Act.put, List.setIfInBounds_toArray, List.set_cons_zero, List.set_cons_succ, i64_w, i32_w]
          rfl
        refine pure_ (i := 13) (N := some 59) (v := ?_) (a' := ?_) #[true, true, true, true, true, true, true, true, true, true, true, true, true, true, false, false] rfl rfl (by kernel_rfl) (fun _ _ _ h => h) (Or.inl ⟨by rfl, ?_⟩) ?_ ?_
        rotate_left
        · intro w'
          go_simp
          with_reducible rfl
        rotate_left
        · simp only [Act.put, List.setIfInBounds_toArray, List.set_cons_zero, List.set_cons_succ, i64_w, i32_w]
          rfl
        refine pure_ (i := 14) (N := some 9) (v := ?_) (a' := ?_) #[true, true, true, true, true, true, true, true, true, true, true, true, true, true, true, false] rfl rfl (by kernel_rfl) (fun _ _ _ h => h) (Or.inl ⟨by rfl, ?_⟩) ?_ ?_
        rotate_left
        · intro w'
          go_simp
          with_reducible rfl
        rotate_left
        · simp only [Act.put, List.setIfInBounds_toArray, List.set_cons_zero, List.set_cons_succ, i64_w, i32_w]
          rfl
        refine pure_ (i := 15) (N := some 10) (v := ?_) (a' := ?_) #[true, true, true, true, true, true, true, true, true, true, true, true, true, true, true, true] rfl rfl (by kernel_rfl) (fun _ _ _ h => h) (Or.inl ⟨by rfl, ?_⟩) ?_ ?_
        rotate_left
        · intro w'
          go_simp
          with_reducible rfl
        rotate_left
        · simp only [Act.put, List.setIfInBounds_toArray, List.set_cons_zero, List.set_cons_succ, i64_w, i32_w]
          rfl
        refine done_ (by kernel_rfl) ?_

        replace HB2 := Lib.hid (HB2.out.trans (hHeld.2.mono HB2.out.size))
        replace HR2 := Lib.hid (blk_below HR2.out hHeld.2)
        go_wp2
        go_roundw
        case rel => exact ⟨2, by go_num, by decide, HR2, HB2⟩
        case measure => first | (simp only [intOf]; decide) | (simp [intOf]) | decide
      · have HV := Lib.hid (show BadV (.iface 41 (.agg #[.iface 41 (.agg #[.iface 9 (.string s)])])) from fun w => item_bad_ddn s w)
        have c0 : wr.cell? ⟨gB, 2, none⟩ = some (.iface 41 (.agg #[.iface 41 (.agg #[.iface 9 (.string s)])])) := (blk_cell HROW.out 2).trans rfl
        have HE := Lib.hid (E2.out _ _ _ (blk_new wr (.cells #[.iface 9 (.string s), .iface 41 (.agg #[.iface 41 (.agg #[.iface 9 (.string s)])])] 20)) HV.out (HG.out.below (below_alloc HB.out (.cells #[.iface 9 (.string s), .iface 41 (.agg #[.iface 41 (.agg #[.iface 9 (.string s)])])] 20))))
        have HB2 := Lib.hid (below_alloc HB.out (.cells #[.iface 9 (.string s), .iface 41 (.agg #[.iface 41 (.agg #[.iface 9 (.string s)])])] 20))
        have HR2 := Lib.hid (blk_below HROW.out (below_alloc (Below.refl _ wr) (.cells #[.iface 9 (.string s), .iface 41 (.agg #[.iface 41 (.agg #[.iface 9 (.string s)])])] 20)))
        go_wp2_with fail
        refine HE.out.mono ?_
        rintro e w6 ⟨rfl, hb⟩
        replace HB2 := Lib.hid (HB2.out.trans (hb.mono HB2.out.size))
        replace HR2 := Lib.hid (blk_below HR2.out hb)
        clear HE hb c0 HROW HB
        have c0 : w6.cell? ⟨gB, 2, none⟩ = some (.iface 41 (.agg #[.iface 41 (.agg #[.iface 9 (.string s)])])) := (blk_cell HR2.out 2).trans rfl
        go_wp2
        refine start_ (n := 16) (S := fun w' => w'.cell? ⟨gB, 2, none⟩ = some (.iface 41 (.agg #[.iface 41 (.agg #[.iface 9 (.string s)])])) ∧ Below w6.heap.size w6 w') (ds := []) #[false, false, false, false, false, false, false, false, false, false, false, false, false, false, false, false] (by kernel_rfl) rfl rfl ⟨(show w6.drew.cell? _ = _ from c0), (below_drew (Below.refl _ _))⟩ (fun hHeld => ?_)
        refine pure_ (i := 0) (N := some 47) (v := ?_) (a' := ?_) #[true, false, false, false, false, false, false, false, false, false, false, false, false, false, false, false] rfl rfl (by kernel_rfl) (fun _ _ _ h => h) (Or.inl ⟨by rfl, ?_⟩) ?_ ?_
        rotate_left
        · intro w'
          go_simp
          with_reducible rfl
        rotate_left
        · simp only [Act.put, List.setIfInBounds_toArray, List.set_cons_zero, List.set_cons_succ, i64_w, i32_w]
          rfl
        refine pure_ (i := 1) (N := some 48) (v := ?_) (a' := ?_) #[true, true, false, false, false, false, false, false, false, false, false, false, false, false, false, false] rfl rfl (by kernel_rfl) (fun _ _ _ h => h) (Or.inl ⟨by rfl, ?_⟩) ?_ ?_
        rotate_left
        · intro w'
          go_simp
          with_reducible rfl
        rotate_left
        · simp only [Act.put, List.setIfInBounds_toArray, List.set_cons_zero, List.set_cons_succ, i64_w, i32_w]
          rfl
        refine pure_ (i := 2) (N := some 49) (v := ?_) (a' := ?_) #[true, true, true, false, false, false, false, false, false, false, false, false, false, false, false, false] rfl rfl (by kernel_rfl) (fun _ _ _ h => h) (Or.inl ⟨by rfl, ?_⟩) ?_ ?_
        rotate_left
        · intro w'
          go_simp
          with_reducible rfl
        rotate_left
        · simp only [Act.put, List.setIfInBounds_toArray, List.set_cons_zero, List.set_cons_succ, i64_w, i32_w]
          rfl
        refine pure_ (i := 5) (N := some 52) (v := ?_) (a' := ?_) #[true, true, true, false, false, true, false, false, false, false, false, false, false, false, false, false] rfl rfl (by kernel_rfl) (fun _ _ _ h => h) (Or.inl ⟨by rfl, ?_⟩) ?_ ?_
        rotate_left
        · intro w'
          go_simp
          with_reducible rfl
        rotate_left
        · simp only [Act.put, List.setIfInBounds_toArray, List.set_cons_zero, List.set_cons_succ, i64_w, i32_w]
          rfl
        refine pure_ (i := 6) (N := some 53) (v := ?_) (a' := ?_) #[true, true, true, false, false, true, true, false, false, false, false, false, false, false, false, false] rfl rfl (by kernel_rfl) (fun _ _ _ h => h) (Or.inl ⟨by rfl, ?_⟩) ?_ ?_
        rotate_left
        · intro w'
          go_simp
          with_reducible rfl
        rotate_left
        · simp only [Act.put, List.setIfInBounds_toArray, List.set_cons_zero, List.set_cons_succ, i64_w, i32_w]
          rfl
        refine pure_ (i := 7) (N := some 54) (v := ?_) (a' := ?_) #[true, true, true, false, false, true, true, true, false, false, false, false, false, false, false, false] rfl rfl (by kernel_rfl) (fun _ _ _ h => h) (Or.inl ⟨by rfl, ?_⟩) ?_ ?_
        rotate_left
        · intro w'
          go_simp
          with_reducible rfl
        rotate_left
        · simp only [Act.put, List.setIfInBounds_toArray, List.set_cons_zero, List.set_cons_succ, i64_w, i32_w]
          rfl
        refine take_ (i := 3) (N := some 50) (v := ?_) (a' := ?_) #[true, true, true, true, false, true, true, true, false, false, false, false, false, false, false, false] rfl rfl (by kernel_rfl) (fun _ _ _ h => h) (Or.inl ⟨by rfl, ?_⟩) hHeld ?_ ?_
        rotate_left
        · rintro w' ⟨s0, s1⟩
          go_simp
          with_reducible rfl
        rotate_left
        · simp only [Act.put, List.setIfInBounds_toArray, List.set_cons_zero, List.set_cons_succ, i64_w, i32_w]
          rfl
        refine take_ (i := 8) (N := some 55) (v := ?_) (a' := ?_) #[true, true, true, true, false, true, true, true, true, false, false, false, false, false, false, false] rfl rfl (by kernel_rfl) (fun _ _ _ h => h) (Or.inl ⟨by rfl, ?_⟩) hHeld ?_ ?_
        rotate_left
        · rintro w' ⟨s0, s1⟩
          go_simp
          with_reducible rfl
        rotate_left
        · simp only [Act.put, List.setIfInBounds_toArray, List.set_cons_zero, List.set_cons_succ, i64_w, i32_w]
          rfl
        refine join_ (σ := Nat × Nat) 6 #[true, true, true, true, true, true, true, true, true, true, false, false, false, false, false, false] (fun q => [(51, .slice (some ⟨q.1, 0, none⟩) 1 1), (56, .slice (some ⟨q.2, 0, none⟩) 1 1)]) (fun q w' => w'.heap[q.1]? = some (.cells #[.iface 41 (.agg #[.iface 41 (.agg #[.iface 9 (.string s)])])] 20 (0, 0)) ∧ w'.heap[q.2]? = some (.cells #[.iface 41 (.agg #[.iface 41 (.agg #[.iface 9 (.string s)])])] 20 (0, 0)) ∧ (w'.cell? ⟨gB, 2, none⟩ = some (.iface 41 (.agg #[.iface 41 (.agg #[.iface 9 (.string s)])])) ∧ Below w6.heap.size w6 w')) ?_ ?_
        rotate_left
        · intro hCont
          refine two_ (i := 4) (j := 9) (Ni := some 51) (Nj := some 56) #[true, true, true, true, true, true, true, true, true, false, false, false, false, false, false, false] #[true, true, true, true, false, true, true, true, true, true, false, false, false, false, false, false] rfl rfl rfl rfl (by kernel_rfl) (by decide) (by decide) (fun K hK => ?_) (fun K hK => ?_)
          · skip
            refine value_ (w1 := ?_) (v := ?_) (by rfl) rfl ?_ ?_
            rotate_left 2
            · go_simp
              constructor
              · rfl
              · rfl
            have H4 := Lib.hid (row_new w6.drew (.cells #[.iface 41 (.agg #[.iface 41 (.agg #[.iface 9 (.string s)])])] 20) (n := w6.heap.size) (by simp))
            refine hK.out _ _ ⟨(((below_alloc (Below.refl _ _) _).cell (p := ⟨gB, 2, none⟩) (Nat.lt_of_lt_of_le (blk_lt HR2.out) hHeld.2.size)).trans hHeld.1), below_alloc hHeld.2 _⟩ (fun hHeld => ?_)
            clear hK K
            refine norm_ (a' := ?_) ?_ ?_
            rotate_left
            · show Act.put _ (some 51) _ = _
              simp only [Act.put, List.setIfInBounds_toArray, List.set_cons_zero, List.set_cons_succ, i64_w, i32_w]
              rfl
            refine one_ (i := 9) (N := some 56) #[true, true, true, true, true, true, true, true, true, true, false, false, false, false, false, false] rfl rfl (by kernel_rfl) (by decide) (fun K hK => ?_)
            refine value_ (w1 := ?_) (v := ?_) (by rfl) rfl ?_ ?_
            rotate_left 2
            · go_simp
              constructor
              · rfl
              · rfl
            have H9 := Lib.hid (row_new (w6.drew.alloc (.cells #[.iface 41 (.agg #[.iface 41 (.agg #[.iface 9 (.string s)])])] 20)) (.cells #[.iface 41 (.agg #[.iface 41 (.agg #[.iface 9 (.string s)])])] 20) (n := w6.heap.size + 1) (by simp))
            have H4 := Lib.hid (blk_alloc H4.out (.cells #[.iface 41 (.agg #[.iface 41 (.agg #[.iface 9 (.string s)])])] 20))
            refine hK.out _ _ ⟨(((below_alloc (Below.refl _ _) _).cell (p := ⟨gB, 2, none⟩) (Nat.lt_of_lt_of_le (blk_lt HR2.out) hHeld.2.size)).trans hHeld.1), below_alloc hHeld.2 _⟩ (fun hHeld => ?_)
            clear hK K
            refine norm_ (a' := ?_) ?_ ?_
            rotate_left
            · show Act.put _ (some 56) _ = _
              simp only [Act.put, List.setIfInBounds_toArray, List.set_cons_zero, List.set_cons_succ, i64_w, i32_w]
              rfl
            exact norm_ (by simp only [putAll, Act.put, List.setIfInBounds_toArray, List.set_cons_zero, List.set_cons_succ]) (hCont (w6.heap.size, w6.heap.size + 1) _ ⟨H4.out, H9.out, hHeld⟩)
          · skip
            refine value_ (w1 := ?_) (v := ?_) (by rfl) rfl ?_ ?_
            rotate_left 2
            · go_simp
              constructor
              · rfl
              · rfl
            have H9 := Lib.hid (row_new w6.drew (.cells #[.iface 41 (.agg #[.iface 41 (.agg #[.iface 9 (.string s)])])] 20) (n := w6.heap.size) (by simp))
            refine hK.out _ _ ⟨(((below_alloc (Below.refl _ _) _).cell (p := ⟨gB, 2, none⟩) (Nat.lt_of_lt_of_le (blk_lt HR2.out) hHeld.2.size)).trans hHeld.1), below_alloc hHeld.2 _⟩ (fun hHeld => ?_)
            clear hK K
            refine norm_ (a' := ?_) ?_ ?_
            rotate_left
            · show Act.put _ (some 56) _ = _
              simp only [Act.put, List.setIfInBounds_toArray, List.set_cons_zero, List.set_cons_succ, i64_w, i32_w]
              rfl
            refine one_ (i := 4) (N := some 51) #[true, true, true, true, true, true, true, true, true, true, false, false, false, false, false, false] rfl rfl (by kernel_rfl) (by decide) (fun K hK => ?_)
            refine value_ (w1 := ?_) (v := ?_) (by rfl) rfl ?_ ?_
            rotate_left 2
            · go_simp
              constructor
              · rfl
              · rfl
            have H4 := Lib.hid (row_new (w6.drew.alloc (.cells #[.iface 41 (.agg #[.iface 41 (.agg #[.iface 9 (.string s)])])] 20)) (.cells #[.iface 41 (.agg #[.iface 41 (.agg #[.iface 9 (.string s)])])] 20) (n := w6.heap.size + 1) (by simp))
            have H9 := Lib.hid (blk_alloc H9.out (.cells #[.iface 41 (.agg #[.iface 41 (.agg #[.iface 9 (.string s)])])] 20))
            refine hK.out _ _ ⟨(((below_alloc (Below.refl _ _) _).cell (p := ⟨gB, 2, none⟩) (Nat.lt_of_lt_of_le (blk_lt HR2.out) hHeld.2.size)).trans hHeld.1), below_alloc hHeld.2 _⟩ (fun hHeld => ?_)
            clear hK K
            refine norm_ (a' := ?_) ?_ ?_
            rotate_left
            · show Act.put _ (some 51) _ = _
              simp only [Act.put, List.setIfInBounds_toArray, List.set_cons_zero, List.set_cons_succ, i64_w, i32_w]
              rfl
            exact norm_ (by simp only [putAll, Act.put, List.setIfInBounds_toArray, List.set_cons_zero, List.set_cons_succ]) (hCont (w6.heap.size + 1, w6.heap.size) _ ⟨H4.out, H9.out, hHeld⟩)
        rintro ⟨g4, g9⟩ w7 ⟨h4, h9, hHeld⟩
        have H4 := Lib.hid h4
        have H9 := Lib.hid h9
        clear h4 h9
        refine norm_ (a' := ?_) ?_ ?_
        rotate_left
        · simp only [putAll, Act.put, List.setIfInBounds_toArray, List.set_cons_zero, List.set_cons_succ]
          rfl
        refine one_ (i := 10) (N := some 57) #[true, true, true, true, true, true, true, true, true, true, true, false, false, false, false, false] rfl rfl (by kernel_rfl) (by decide) (fun K hK => ?_)
        refine goes_ Tryd.func13 (by kernel_rfl) rfl #[.slice (some ⟨g4, 0, none⟩) 1 1, .slice (some ⟨g9, 0, none⟩) 1 1] (by rfl) rfl rfl (by (try simp only [List.map_toArray, List.map_cons, List.map_nil]); first | done | rfl) ?_
        with_reducible refine ((compare_bad _ _ _ _ H4.out H9.out HV.out)).mono ?_
        rintro e w8 ⟨rfl, hb8⟩
        refine ⟨_, rfl, ?_⟩
        refine hK.out _ _ ⟨((hb8.cell (p := ⟨gB, 2, none⟩) (cell_block_lt hHeld.1)).trans hHeld.1), hHeld.2.trans (hb8.mono hHeld.2.size)⟩ (fun hHeld => ?_)
        clear hK K
        refine norm_ (a' := ?_) ?_ ?_
        rotate_left
        · show Act.put _ (some 57) _ = _
          simp only [Act.put, List.setIfInBounds_toArray, List.set_cons_zero, List.set_cons_succ, i64_w, i32_w]
          rfl
        refine pure_ (i := 11) (N := some 46) (v := ?_) (a' := ?_) #[true, true, true, true, true, true, true, true, true, true, true, true, false, false, false, false] rfl rfl (by kernel_rfl) (fun _ _ _ h => h) (Or.inl ⟨by rfl, ?_⟩) ?_ ?_
        rotate_left
        · intro w'
          go_simp
          with_reducible rfl
        rotate_left
        · simp only [Act.put, List.setIfInBounds_toArray, List.set_cons_zero, List.set_cons_succ, i64_w, i32_w]
          rfl
        refine pure_ (i := 12) (N := some 58) (v := ?_) (a' := ?_) #[true, true, true, true, true, true, true, true, true, true, true, true, true, false, false, false] rfl rfl (by kernel_rfl) (fun _ _ _ h => h) (Or.inl ⟨by rfl, ?_⟩) ?_ ?_
        rotate_left
        · intro w'
          go_simp
          with_reducible rfl
        rotate_left
        · simp only [Act.put, List.setIfInBounds_toArray, List.set_cons_zero, List.set_cons_succ, i64_w, i32_w]
          rfl
        refine pure_ (i := 13) (N := some 59) (v := ?_) (a' := ?_) #[true, true, true, true, true, true, true, true, true, true, true, true, true, true, false, false] rfl rfl (by kernel_rfl) (fun _ _ _ h => h) (Or.inl ⟨by rfl, ?_⟩) ?_ ?_
        rotate_left
        · intro w'
          go_simp
          with_reducible rfl
        rotate_left
        · simp only [Act.put, List.setIfInBounds_toArray, List.set_cons_zero, List.set_cons_succ, i64_w, i32_w]
          rfl
        refine pure_ (i := 14) (N := some 9) (v := ?_) (a' := ?_) #[true, true, true, true, true, true, true, true, true, true, true, true, true, true, true, false] rfl rfl (by kernel_rfl) (fun _ _ _ h => h) (Or.inl ⟨by rfl, ?_⟩) ?_ ?_
        rotate_left
        · intro w'
          go_simp
          with_reducible rfl
        rotate_left
        · simp only [Act.put, List.setIfInBounds_toArray, List.set_cons_zero, List.set_cons_succ, i64_w, i32_w]
          rfl
        refine pure_ (i := 15) (N := some 10) (v := ?_) (a' := ?_) #[true, true, true, true, true, true, true, true, true, true, true, true, true, true, true, true] rfl rfl (by kernel_rfl) (fun _ _ _ h => h) (Or.inl ⟨by rfl, ?_⟩) ?_ ?_
        rotate_left
        · intro w'
          go_simp
          with_reducible rfl
        rotate_left
        · simp only [Act.put, List.setIfInBounds_toArray, List.set_cons_zero, List.set_cons_succ, i64_w, i32_w]
          rfl
        refine done_ (by kernel_rfl) ?_

        replace HB2 := Lib.hid (HB2.out.trans (hHeld.2.mono HB2.out.size))
        replace HR2 := Lib.hid (blk_below HR2.out hHeld.2)
        go_wp2
        go_roundw
        case rel => exact ⟨3, by go_num, by decide, HR2, HB2⟩
        case measure => first | (simp only [intOf]; decide) | (simp [intOf]) | decide
      · have HV := Lib.hid (show BadV (.iface 41 (.agg #[.iface 3 (.int .i64 n)])) from fun w => item_bad_din n w)
        have c0 : wr.cell? ⟨gB, 3, none⟩ = some (.iface 41 (.agg #[.iface 3 (.int .i64 n)])) := (blk_cell HROW.out 3).trans rfl
        have HE := Lib.hid (E2.out _ _ _ (blk_new wr (.cells #[.iface 9 (.string s), .iface 41 (.agg #[.iface 3 (.int .i64 n)])] 20)) HV.out (HG.out.below (below_alloc HB.out (.cells #[.iface 9 (.string s), .iface 41 (.agg #[.iface 3 (.int .i64 n)])] 20))))
        have HB2 := Lib.hid (below_alloc HB.out (.cells #[.iface 9 (.string s), .iface 41 (.agg #[.iface 3 (.int .i64 n)])] 20))
        have HR2 := Lib.hid (blk_below HROW.out (below_alloc (Below.refl _ wr) (.cells #[.iface 9 (.string s), .iface 41 (.agg #[.iface 3 (.int .i64 n)])] 20)))
        go_wp2_with fail
        refine HE.out.mono ?_
        rintro e w6 ⟨rfl, hb⟩
        replace HB2 := Lib.hid (HB2.out.trans (hb.mono HB2.out.size))
        replace HR2 := Lib.hid (blk_below HR2.out hb)
        clear HE hb c0 HROW HB
        have c0 : w6.cell? ⟨gB, 3, none⟩ = some (.iface 41 (.agg #[.iface 3 (.int .i64 n)])) := (blk_cell HR2.out 3).trans rfl
        go_wp2
        refine start_ (n := 16) (S := fun w' => w'.cell? ⟨gB, 3, none⟩ = some (.iface 41 (.agg #[.iface 3 (.int .i64 n)])) ∧ Below w6.heap.size w6 w') (ds := []) #[false, false, false, false, false, false, false, false, false, false, false, false, false, false, false, false] (by kernel_rfl) rfl rfl ⟨(show w6.drew.cell? _ = _ from c0), (below_drew (Below.refl _ _))⟩ (fun hHeld => ?_)
        refine pure_ (i := 0) (N := some 47) (v := ?_) (a' := ?_) #[true, false, false, false, false, false, false, false, false, false, false, false, false, false, false, false] rfl rfl (by kernel_rfl) (fun _ _ _ h => h) (Or.inl ⟨by rfl, ?_⟩) ?_ ?_
        rotate_left
        · intro w'
          go_simp
          with_reducible rfl
        rotate_left
        · simp only [Act.put, List.setIfInBounds_toArray, List.set_cons_zero, List.set_cons_succ, i64_w, i32_w]
          rfl
        refine pure_ (i := 1) (N := some 48) (v := ?_) (a' := ?_) #[true, true, false, false, false, false, false, false, false, false, false, false, false, false, false, false] rfl rfl (by kernel_rfl) (fun _ _ _ h => h) (Or.inl ⟨by rfl, ?_⟩) ?_ ?_
        rotate_left
        · intro w'
          go_simp
          with_reducible rfl
        rotate_left
        · simp only [Act.put, List.setIfInBounds_toArray, List.set_cons_zero, List.set_cons_succ, i64_w, i32_w]
          rfl
        refine pure_ (i := 2) (N := some 49) (v := ?_) (a' := ?_) #[true, true, true, false, false, false, false, false, false, false, false, false, false, false, false, false] rfl rfl (by kernel_rfl) (fun _ _ _ h => h) (Or.inl ⟨by rfl, ?_⟩) ?_ ?_
        rotate_left
        · intro w'
          go_simp
          with_reducible rfl
        rotate_left
        · simp only [Act.put, List.setIfInBounds_toArray, List.set_cons_zero, List.set_cons_succ, i64_w, i32_w]
          rfl
        refine pure_ (i := 5) (N := some 52) (v := ?_) (a' := ?_) #[true, true, true, false, false, true, false, false, false, false, false, false, false, false, false, false] rfl rfl (by kernel_rfl) (fun _ _ _ h => h) (Or.inl ⟨by rfl, ?_⟩) ?_ ?_
        rotate_left
        · intro w'
          go_simp
          with_reducible rfl
        rotate_left
        · simp only [Act.put, List.setIfInBounds_toArray, List.set_cons_zero, List.set_cons_succ, i64_w, i32_w]
          rfl
        refine pure_ (i := 6) (N := some 53) (v := ?_) (a' := ?_) #[true, true, true, false, false, true, true, false, false, false, false, false, false, false, false, false] rfl rfl (by kernel_rfl) (fun _ _ _ h => h) (Or.inl ⟨by rfl, ?_⟩) ?_ ?_
        rotate_left
        · intro w'
          go_simp
          with_reducible rfl
        rotate_left
        · simp only [Act.put, List.setIfInBounds_toArray, List.set_cons_zero, List.set_cons_succ, i64_w, i32_w]
          rfl
        refine pure_ (i := 7) (N := some 54) (v := ?_) (a' := ?_) #[true, true, true, false, false, true, true, true, false, false, false, false, false, false, false, false] rfl rfl (by kernel_rfl) (fun _ _ _ h => h) (Or.inl ⟨by rfl, ?_⟩) ?_ ?_
        rotate_left
        · intro w'
          go_simp
          with_reducible rfl
        rotate_left
        · simp only [Act.put, List.setIfInBounds_toArray, List.set_cons_zero, List.set_cons_succ, i64_w, i32_w]
          rfl
        refine take_ (i := 3) (N := some 50) (v := ?_) (a' := ?_) #[true, true, true, true, false, true, true, true, false, false, false, false, false, false, false, false] rfl rfl (by kernel_rfl) (fun _ _ _ h => h) (Or.inl ⟨by rfl, ?_⟩) hHeld ?_ ?_
        rotate_left
        · rintro w' ⟨s0, s1⟩
          go_simp
          with_reducible rfl
        rotate_left
        · simp only [Act.put, List.setIfInBounds_toArray, List.set_cons_zero, List.set_cons_succ, i64_w, i32_w]
          rfl
        refine take_ (i := 8) (N := some 55) (v := ?_) (a' := ?_) #[true, true, true, true, false, true, true, true, true, false, false, false, false, false, false, false] rfl rfl (by kernel_rfl) (fun _ _ _ h => h) (Or.inl ⟨by rfl, ?_⟩) hHeld ?_ ?_
        rotate_left
        · rintro w' ⟨s0, s1⟩
          go_simp
          with_reducible rfl
        rotate_left
        · simp only [Act.put, List.setIfInBounds_toArray, List.set_cons_zero, List.set_cons_succ, i64_w, i32_w]
          rfl
        refine join_ (σ := Nat × Nat) 6 #[true, true, true, true, true, true, true, true, true, true, false, false, false, false, false, false] (fun q => [(51, .slice (some ⟨q.1, 0, none⟩) 1 1), (56, .slice (some ⟨q.2, 0, none⟩) 1 1)]) (fun q w' => w'.heap[q.1]? = some (.cells #[.iface 41 (.agg #[.iface 3 (.int .i64 n)])] 20 (0, 0)) ∧ w'.heap[q.2]? = some (.cells #[.iface 41 (.agg #[.iface 3 (.int .i64 n)])] 20 (0, 0)) ∧ (w'.cell? ⟨gB, 3, none⟩ = some (.iface 41 (.agg #[.iface 3 (.int .i64 n)])) ∧ Below w6.heap.size w6 w')) ?_ ?_
        rotate_left
        · intro hCont
          refine two_ (i := 4) (j := 9) (Ni := some 51) (Nj := some 56) #[true, true, true, true, true, true, true, true, true, false, false, false, false, false, false, false] #[true, true, true, true, false, true, true, true, true, true, false, false, false, false, false, false] rfl rfl rfl rfl (by kernel_rfl) (by decide) (by decide) (fun K hK => ?_) (fun K hK => ?_)
          · skip
            refine value_ (w1 := ?_) (v := ?_) (by rfl) rfl ?_ ?_
            rotate_left 2
            · go_simp
              constructor
              · rfl
              · rfl
            have H4 := Lib.hid (row_new w6.drew (.cells #[.iface 41 (.agg #[.iface 3 (.int .i64 n)])] 20) (n := w6.heap.size) (by simp))
            refine hK.out _ _ ⟨(((below_alloc (Below.refl _ _) _).cell (p := ⟨gB, 3, none⟩) (Nat.lt_of_lt_of_le (blk_lt HR2.out) hHeld.2.size)).trans hHeld.1), below_alloc hHeld.2 _⟩ (fun hHeld => ?_)
            clear hK K
            refine norm_ (a' := ?_) ?_ ?_
            rotate_left
            · show Act.put _ (some 51) _ = _
              simp only [Act.put, List.setIfInBounds_toArray, List.set_cons_zero, List.set_cons_succ, i64_w, i32_w]
              rfl
            refine one_ (i := 9) (N := some 56) #[true, true, true, true, true, true, true, true, true, true, false, false, false, false, false, false] rfl rfl (by kernel_rfl) (by decide) (fun K hK => ?_)
            refine value_ (w1 := ?_) (v := ?_) (by rfl) rfl ?_ ?_
            rotate_left 2
            · go_simp
              constructor
              · rfl
              · rfl
            have H9 := Lib.hid (row_new (w6.drew.alloc (.cells #[.iface 41 (.agg #[.iface 3 (.int .i64 n)])] 20)) (.cells #[.iface 41 (.agg #[.iface 3 (.int .i64 n)])] 20) (n := w6.heap.size + 1) (by simp))
            have H4 := Lib.hid (blk_alloc H4.out (.cells #[.iface 41 (.agg #[.iface 3 (.int .i64 n)])] 20))
            refine hK.out _ _ ⟨(((below_alloc (Below.refl _ _) _).cell (p := ⟨gB, 3, none⟩) (Nat.lt_of_lt_of_le (blk_lt HR2.out) hHeld.2.size)).trans hHeld.1), below_alloc hHeld.2 _⟩ (fun hHeld => ?_)
            clear hK K
            refine norm_ (a' := ?_) ?_ ?_
            rotate_left
            · show Act.put _ (some 56) _ = _
              simp only [Act.put, List.setIfInBounds_toArray, List.set_cons_zero, List.set_cons_succ, i64_w, i32_w]
              rfl
            exact norm_ (by simp only [putAll, Act.put, List.setIfInBounds_toArray, List.set_cons_zero, List.set_cons_succ]) (hCont (w6.heap.size, w6.heap.size + 1) _ ⟨H4.out, H9.out, hHeld⟩)
          · skip
            refine value_ (w1 := ?_) (v := ?_) (by rfl) rfl ?_ ?_
            rotate_left 2
            · go_simp
              constructor
              · rfl
              · rfl
            have H9 := Lib.hid (row_new w6.drew (.cells #[.iface 41 (.agg #[.iface 3 (.int .i64 n)])] 20) (n := w6.heap.size) (by simp))
            refine hK.out _ _ ⟨(((below_alloc (Below.refl _ _) _).cell (p := ⟨gB, 3, none⟩) (Nat.lt_of_lt_of_le (blk_lt HR2.out) hHeld.2.size)).trans hHeld.1), below_alloc hHeld.2 _⟩ (fun hHeld => ?_)
            clear hK K
            refine norm_ (a' := ?_) ?_ ?_
            rotate_left
            · show Act.put _ (some 56) _ = _
              simp only [Act.put, List.setIfInBounds_toArray, List.set_cons_zero, List.set_cons_succ, i64_w, i32_w]
              rfl
            refine one_ (i := 4) (N := some 51) #[true, true, true, true, true, true, true, true, true, true, false, false, false, false, false, false] rfl rfl (by kernel_rfl) (by decide) (fun K hK => ?_)
            refine value_ (w1 := ?_) (v := ?_) (by rfl) rfl ?_ ?_
            rotate_left 2
            · go_simp
              constructor
              · rfl
              · rfl
            have H4 := Lib.hid (row_new (w6.drew.alloc (.cells #[.iface 41 (.agg #[.iface 3 (.int .i64 n)])] 20)) (.cells #[.iface 41 (.agg #[.iface 3 (.int .i64 n)])] 20) (n := w6.heap.size + 1) (by simp))
            have H9 := Lib.hid (blk_alloc H9.out (.cells #[.iface 41 (.agg #[.iface 3 (.int .i64 n)])] 20))
            refine hK.out _ _ ⟨(((below_alloc (Below.refl _ _) _).cell (p := ⟨gB, 3, none⟩) (Nat.lt_of_lt_of_le (blk_lt HR2.out) hHeld.2.size)).trans hHeld.1), below_alloc hHeld.2 _⟩ (fun hHeld => ?_)
            clear hK K
            refine norm_ (a' := ?_) ?_ ?_
            rotate_left
            · show Act.put _ (some 51) _ = _
              simp only [Act.put, List.setIfInBounds_toArray, List.set_cons_zero, List.set_cons_succ, i64_w, i32_w]
              rfl
            exact norm_ (by simp only [putAll, Act.put, List.setIfInBounds_toArray, List.set_cons_zero, List.set_cons_succ]) (hCont (w6.heap.size + 1, w6.heap.size) _ ⟨H4.out, H9.out, hHeld⟩)
        rintro ⟨g4, g9⟩ w7 ⟨h4, h9, hHeld⟩
        have H4 := Lib.hid h4
        have H9 := Lib.hid h9
        clear h4 h9
        refine norm_ (a' := ?_) ?_ ?_
        rotate_left
        · simp only [putAll, Act.put, List.setIfInBounds_toArray, List.set_cons_zero, List.set_cons_succ]
          rfl
        refine one_ (i := 10) (N := some 57) #[true, true, true, true, true, true, true, true, true, true, true, false, false, false, false, false] rfl rfl (by kernel_rfl) (by decide) (fun K hK => ?_)
        refine goes_ Tryd.func13 (by kernel_rfl) rfl #[.slice (some ⟨g4, 0, none⟩) 1 1, .slice (some ⟨g9, 0, none⟩) 1 1] (by rfl) rfl rfl (by (try simp only [List.map_toArray, List.map_cons, List.map_nil]); first | done | rfl) ?_
        with_reducible refine ((compare_bad _ _ _ _ H4.out H9.out HV.out)).mono ?_
        rintro e w8 ⟨rfl, hb8⟩
        refine ⟨_, rfl, ?_⟩
        refine hK.out _ _ ⟨((hb8.cell (p := ⟨gB, 3, none⟩) (cell_block_lt hHeld.1)).trans hHeld.1), hHeld.2.trans (hb8.mono hHeld.2.size)⟩ (fun hHeld => ?_)
        clear hK K
        refine norm_ (a' := ?_) ?_ ?_
        rotate_left
        · show Act.put _ (some 57) _ = _
          simp only [Act.put, List.setIfInBounds_toArray, List.set_cons_zero, List.set_cons_succ, i64_w, i32_w]
          rfl
        refine pure_ (i := 11) (N := some 46) (v := ?_) (a' := ?_) #[true, true, true, true, true, true, true, true, true, true, true, true, false, false, false, false] rfl rfl (by kernel_rfl) (fun _ _ _ h => h) (Or.inl ⟨by rfl, ?_⟩) ?_ ?_
        rotate_left
        · intro w'
          go_simp
          with_reducible rfl
        rotate_left
        · simp only [Act.put, List.setIfInBounds_toArray, List.set_cons_zero, List.set_cons_succ, i64_w, i32_w]
          rfl
        refine pure_ (i := 12) (N := some 58) (v := ?_) (a' := ?_) #[true, true, true, true, true, true, true, true, true, true, true, true, true, false, false, false] rfl rfl (by kernel_rfl) (fun _ _ _ h => h) (Or.inl ⟨by rfl, ?_⟩) ?_ ?_
        rotate_left
        · intro w'
          go_simp
          with_reducible rfl
        rotate_left
        · simp only [Act.put, List.setIfInBounds_toArray, List.set_cons_zero, List.set_cons_succ, i64_w, i32_w]
          rfl
        refine pure_ (i := 13) (N := some 59) (v := ?_) (a' := ?_) #[true, true, true, true, true, true, true, true, true, true, true, true, true, true, false, false] rfl rfl (by kernel_rfl) (fun _ _ _ h => h) (Or.inl ⟨by rfl, ?_⟩) ?_ ?_
        rotate_left
        · intro w'
          go_simp
          with_reducible rfl
        rotate_left
        · simp only [Act.put, List.setIfInBounds_toArray, List.set_cons_zero, List.set_cons_succ, i64_w, i32_w]
          rfl
        refine pure_ (i := 14) (N := some 9) (v := ?_) (a' := ?_) #[true, true, true, true, true, true, true, true, true, true, true, true, true, true, true, false] rfl rfl (by kernel_rfl) (fun _ _ _ h => h) (Or.inl ⟨by rfl, ?_⟩) ?_ ?_
        rotate_left
        · intro w'
          go_simp
          with_reducible rfl
        rotate_left
        · simp only [Act.put, List.setIfInBounds_toArray, List.set_cons_zero, List.set_cons_succ, i64_w, i32_w]
          rfl
        refine pure_ (i := 15) (N := some 10) (v := ?_) (a' := ?_) #[true, true, true, true, true, true, true, true, true, true, true, true, true, true, true, true] rfl rfl (by kernel_rfl) (fun _ _ _ h => h) (Or.inl ⟨by rfl, ?_⟩) ?_ ?_
        rotate_left
        · intro w'
          go_simp
          with_reducible rfl
        rotate_left
        · simp only [Act.put, List.setIfInBounds_toArray, List.set_cons_zero, List.set_cons_succ, i64_w, i32_w]
          rfl
        refine done_ (by kernel_rfl) ?_

        replace HB2 := Lib.hid (HB2.out.trans (hHeld.2.mono HB2.out.size))
        replace HR2 := Lib.hid (blk_below HR2.out hHeld.2)
        go_wp2
        go_roundw
        case rel => exact ⟨4, by go_num, by decide, HR2, HB2⟩
        case measure => first | (simp only [intOf]; decide) | (simp [intOf]) | decide
      · have HV := Lib.hid (show BadV (.iface 21 (.int .i32 3)) from fun w => item_bad_i32 w)
        have c0 : wr.cell? ⟨gB, 4, none⟩ = some (.iface 21 (.int .i32 3)) := (blk_cell HROW.out 4).trans rfl
        have HE := Lib.hid (E2.out _ _ _ (blk_new wr (.cells #[.iface 9 (.string s), .iface 21 (.int .i32 3)] 20)) HV.out (HG.out.below (below_alloc HB.out (.cells #[.iface 9 (.string s), .iface 21 (.int .i32 3)] 20))))
        have HB2 := Lib.hid (below_alloc HB.out (.cells #[.iface 9 (.string s), .iface 21 (.int .i32 3)] 20))
        have HR2 := Lib.hid (blk_below HROW.out (below_alloc (Below.refl _ wr) (.cells #[.iface 9 (.string s), .iface 21 (.int .i32 3)] 20)))
        go_wp2_with fail
        refine HE.out.mono ?_
        rintro e w6 ⟨rfl, hb⟩
        replace HB2 := Lib.hid (HB2.out.trans (hb.mono HB2.out.size))
        replace HR2 := Lib.hid (blk_below HR2.out hb)
        clear HE hb c0 HROW HB
        have c0 : w6.cell? ⟨gB, 4, none⟩ = some (.iface 21 (.int .i32 3)) := (blk_cell HR2.out 4).trans rfl
        go_wp2
        refine start_ (n := 16) (S := fun w' => w'.cell? ⟨gB, 4, none⟩ = some (.iface 21 (.int .i32 3)) ∧ Below w6.heap.size w6 w') (ds := []) #[false, false, false, false, false, false, false, false, false, false, false, false, false, false, false, false] (by kernel_rfl) rfl rfl ⟨(show w6.drew.cell? _ = _ from c0), (below_drew (Below.refl _ _))⟩ (fun hHeld => ?_)
        refine pure_ (i := 0) (N := some 47) (v := ?_) (a' := ?_) #[true, false, false, false, false, false, false, false, false, false, false, false, false, false, false, false] rfl rfl (by kernel_rfl) (fun _ _ _ h => h) (Or.inl ⟨by rfl, ?_⟩) ?_ ?_
        rotate_left
        · intro w'
          go_simp
          with_reducible rfl
        rotate_left
        · simp only [Act.put, List.setIfInBounds_toArray, List.set_cons_zero, List.set_cons_succ, i64_w, i32_w]
          rfl
        refine pure_ (i := 1) (N := some 48) (v := ?_) (a' := ?_) #[true, true, false, false, false, false, false, false, false, false, false, false, false, false, false, false] rfl rfl (by kernel_rfl) (fun _ _ _ h => h) (Or.inl ⟨by rfl, ?_⟩) ?_ ?_
        rotate_left
        · intro w'
          go_simp
          with_reducible rfl
        rotate_left
        · simp only [Act.put, List.setIfInBounds_toArray, List.set_cons_zero, List.set_cons_succ, i64_w, i32_w]
          rfl
        refine pure_ (i := 2) (N := some 49) (v := ?_) (a' := ?_) #[true, true, true, false, false, false, false, false, false, false, false, false, false, false, false, false] rfl rfl (by kernel_rfl) (fun _ _ _ h => h) (Or.inl ⟨by rfl, ?_⟩) ?_ ?_
        rotate_left
        · intro w'
          go_simp
          with_reducible rfl
        rotate_left
        · simp only [Act.put, List.setIfInBounds_toArray, List.set_cons_zero, List.set_cons_succ, i64_w, i32_w]
          rfl
        refine pure_ (i := 5) (N := some 52) (v := ?_) (a' := ?_) #[true, true, true, false, false, true, false, false, false, false, false, false, false, false, false, false] rfl rfl (by kernel_rfl) (fun _ _ _ h => h) (Or.inl ⟨by rfl, ?_⟩) ?_ ?_
        rotate_left
        · intro w'
          go_simp
          with_reducible rfl
        rotate_left
        · simp only [Act.put, List.setIfInBounds_toArray, List.set_cons_zero, List.set_cons_succ, i64_w, i32_w]
          rfl
        refine pure_ (i := 6) (N := some 53) (v := ?_) (a' := ?_) #[true, true, true, false, false, true, true, false, false, false, false, false, false, false, false, false] rfl rfl (by kernel_rfl) (fun _ _ _ h => h) (Or.inl ⟨by rfl, ?_⟩) ?_ ?_
        rotate_left
        · intro w'
          go_simp
          with_reducible rfl
        rotate_left
        · simp only [Act.put, List.setIfInBounds_toArray, List.set_cons_zero, List.set_cons_succ, i64_w, i32_w]
          rfl
        refine pure_ (i := 7) (N := some 54) (v := ?_) (a' := ?_) #[true, true, true, false, false, true, true, true, false, false, false, false, false, false, false, false] rfl rfl (by kernel_rfl) (fun _ _ _ h => h) (Or.inl ⟨by rfl, ?_⟩) ?_ ?_
        rotate_left
        · intro w'
          go_simp
          with_reducible rfl
        rotate_left
        · simp only [Act.put, List.setIfInBounds_toArray, List.set_cons_zero, List.set_cons_succ, i64_w, i32_w]
          rfl
        refine take_ (i := 3) (N := some 50) (v := ?_) (a' := ?_) #[true, true, true, true, false, true, true, true, false, false, false, false, false, false, false, false] rfl rfl (by kernel_rfl) (fun _ _ _ h => h) (Or.inl ⟨by rfl, ?_⟩) hHeld ?_ ?_
        rotate_left
        · rintro w' ⟨s0, s1⟩
          go_simp
          with_reducible rfl
        rotate_left
        · simp only [Act.put, List.setIfInBounds_toArray, List.set_cons_zero, List.set_cons_succ, i64_w, i32_w]
          rfl
        refine take_ (i := 8) (N := some 55) (v := ?_) (a' := ?_) #[true, true, true, true, false, true, true, true, true, false, false, false, false, false, false, false] rfl rfl (by kernel_rfl) (fun _ _ _ h => h) (Or.inl ⟨by rfl, ?_⟩) hHeld ?_ ?_
        rotate_left
        · rintro w' ⟨s0, s1⟩
          go_simp
          with_reducible rfl
        rotate_left
        · simp only [Act.put, List.setIfInBounds_toArray, List.set_cons_zero, List.set_cons_succ, i64_w, i32_w]
          rfl
        refine join_ (σ := Nat × Nat) 6 #[true, true, true, true, true, true, true, true, true, true, false, false, false, false, false, false] (fun q => [(51, .slice (some ⟨q.1, 0, none⟩) 1 1), (56, .slice (some ⟨q.2, 0, none⟩) 1 1)]) (fun q w' => w'.heap[q.1]? = some (.cells #[.iface 21 (.int .i32 3)] 20 (0, 0)) ∧ w'.heap[q.2]? = some (.cells #[.iface 21 (.int .i32 3)] 20 (0, 0)) ∧ (w'.cell? ⟨gB, 4, none⟩ = some (.iface 21 (.int .i32 3)) ∧ Below w6.heap.size w6 w')) ?_ ?_
        rotate_left
        · intro hCont
          refine two_ (i := 4) (j := 9) (Ni := some 51) (Nj := some 56) #[true, true, true, true, true, true, true, true, true, false, false, false, false, false, false, false] #[true, true, true, true, false, true, true, true, true, true, false, false, false, false, false, false] rfl rfl rfl rfl (by kernel_rfl) (by decide) (by decide) (fun K hK => ?_) (fun K hK => ?_)
          · skip
            refine value_ (w1 := ?_) (v := ?_) (by rfl) rfl ?_ ?_
            rotate_left 2
            · go_simp
              constructor
              · rfl
              · rfl
            have H4 := Lib.hid (row_new w6.drew (.cells #[.iface 21 (.int .i32 3)] 20) (n := w6.heap.size) (by simp))
            refine hK.out _ _ ⟨(((below_alloc (Below.refl _ _) _).cell (p := ⟨gB, 4, none⟩) (Nat.lt_of_lt_of_le (blk_lt HR2.out) hHeld.2.size)).trans hHeld.1), below_alloc hHeld.2 _⟩ (fun hHeld => ?_)
            clear hK K
            refine norm_ (a' := ?_) ?_ ?_
            rotate_left
            · show Act.put _ (some 51) _ = _
              simp only [Act.put, List.setIfInBounds_toArray, List.set_cons_zero, List.set_cons_succ, i64_w, i32_w]
              rfl
            refine one_ (i := 9) (N := some 56) #[true, true, true, true, true, true, true, true, true, true, false, false, false, false, false, false] rfl rfl (by kernel_rfl) (by decide) (fun K hK => ?_)
            refine value_ (w1 := ?_) (v := ?_) (by rfl) rfl ?_ ?_
            rotate_left 2
            · go_simp
              constructor
              · rfl
              · rfl
            have H9 := Lib.hid (row_new (w6.drew.alloc (.cells #[.iface 21 (.int .i32 3)] 20)) (.cells #[.iface 21 (.int .i32 3)] 20) (n := w6.heap.size + 1) (by simp))
            have H4 := Lib.hid (blk_alloc H4.out (.cells #[.iface 21 (.int .i32 3)] 20))
            refine hK.out _ _ ⟨(((below_alloc (Below.refl _ _) _).cell (p := ⟨gB, 4, none⟩) (Nat.lt_of_lt_of_le (blk_lt HR2.out) hHeld.2.size)).trans hHeld.1), below_alloc hHeld.2 _⟩ (fun hHeld => ?_)
            clear hK K
            refine norm_ (a' := ?_) ?_ ?_
            rotate_left
            · show Act.put _ (some 56) _ = _
              simp only [Act.put, List.setIfInBounds_toArray, List.set_cons_zero, List.set_cons_succ, i64_w, i32_w]
              rfl
            exact norm_ (by simp only [putAll, Act.put, List.setIfInBounds_toArray, List.set_cons_zero, List.set_cons_succ]) (hCont (w6.heap.size, w6.heap.size + 1) _ ⟨H4.out, H9.out, hHeld⟩)
          · skip
            refine value_ (w1 := ?_) (v := ?_) (by rfl) rfl ?_ ?_
            rotate_left 2
            · go_simp
              constructor
              · rfl
              · rfl
            have H9 := Lib.hid (row_new w6.drew (.cells #[.iface 21 (.int .i32 3)] 20) (n := w6.heap.size) (by simp))
            refine hK.out _ _ ⟨(((below_alloc (Below.refl _ _) _).cell (p := ⟨gB, 4, none⟩) (Nat.lt_of_lt_of_le (blk_lt HR2.out) hHeld.2.size)).trans hHeld.1), below_alloc hHeld.2 _⟩ (fun hHeld => ?_)
            clear hK K
            refine norm_ (a' := ?_) ?_ ?_
            rotate_left
            · show Act.put _ (some 56) _ = _
              simp only [Act.put, List.setIfInBounds_toArray, List.set_cons_zero, List.set_cons_succ, i64_w, i32_w]
              rfl
            refine one_ (i := 4) (N := some 51) #[true, true, true, true, true, true, true, true, true, true, false, false, false, false, false, false] rfl rfl (by kernel_rfl) (by decide) (fun K hK => ?_)
            refine value_ (w1 := ?_) (v := ?_) (by rfl) rfl ?_ ?_
            rotate_left 2
            · go_simp
              constructor
              · rfl
              · rfl
            have H4 := Lib.hid (row_new (w6.drew.alloc (.cells #[.iface 21 (.int .i32 3)] 20)) (.cells #[.iface 21 (.int .i32 3)] 20) (n := w6.heap.size + 1) (by simp))
            have H9 := Lib.hid (blk_alloc H9.out (.cells #[.iface 21 (.int .i32 3)] 20))
            refine hK.out _ _ ⟨(((below_alloc (Below.refl _ _) _).cell (p := ⟨gB, 4, none⟩) (Nat.lt_of_lt_of_le (blk_lt HR2.out) hHeld.2.size)).trans hHeld.1), below_alloc hHeld.2 _⟩ (fun hHeld => ?_)
            clear hK K
            refine norm_ (a' := ?_) ?_ ?_
            rotate_left
            · show Act.put _ (some 51) _ = _
              simp only [Act.put, List.setIfInBounds_toArray, List.set_cons_zero, List.set_cons_succ, i64_w, i32_w]
              rfl
            exact norm_ (by simp only [putAll, Act.put, List.setIfInBounds_toArray, List.set_cons_zero, List.set_cons_succ]) (hCont (w6.heap.size + 1, w6.heap.size) _ ⟨H4.out, H9.out, hHeld⟩)
        rintro ⟨g4, g9⟩ w7 ⟨h4, h9, hHeld⟩
        have H4 := Lib.hid h4
        have H9 := Lib.hid h9
        clear h4 h9
        refine norm_ (a' := ?_) ?_ ?_
        rotate_left
        · simp only [putAll, Act.put, List.setIfInBounds_toArray, List.set_cons_zero, List.set_cons_succ]
          rfl
        refine one_ (i := 10) (N := some 57) #[true, true, true, true, true, true, true, true, true, true, true, false, false, false, false, false] rfl rfl (by kernel_rfl) (by decide) (fun K hK => ?_)
        refine goes_ Tryd.func13 (by kernel_rfl) rfl #[.slice (some ⟨g4, 0, none⟩) 1 1, .slice (some ⟨g9, 0, none⟩) 1 1] (by rfl) rfl rfl (by (try simp only [List.map_toArray, List.map_cons, List.map_nil]); first | done | rfl) ?_
        with_reducible refine ((compare_bad _ _ _ _ H4.out H9.out HV.out)).mono ?_
        rintro e w8 ⟨rfl, hb8⟩
        refine ⟨_, rfl, ?_⟩
        refine hK.out _ _ ⟨((hb8.cell (p := ⟨gB, 4, none⟩) (cell_block_lt hHeld.1)).trans hHeld.1), hHeld.2.trans (hb8.mono hHeld.2.size)⟩ (fun hHeld => ?_)
        clear hK K
        refine norm_ (a' := ?_) ?_ ?_
        rotate_left
        · show Act.put _ (some 57) _ = _
          simp only [Act.put, List.setIfInBounds_toArray, List.set_cons_zero, List.set_cons_succ, i64_w, i32_w]
          rfl
        refine pure_ (i := 11) (N := some 46) (v := ?_) (a' := ?_) #[true, true, true, true, true, true, true, true, true, true, true, true, false, false, false, false] rfl rfl (by kernel_rfl) (fun _ _ _ h => h) (Or.inl ⟨by rfl, ?_⟩) ?_ ?_
        rotate_left
        · intro w'
          go_simp
          with_reducible rfl
        rotate_left
        · simp only [Act.put, List.setIfInBounds_toArray, List.set_cons_zero, List.set_cons_succ, i64_w, i32_w]
          rfl
        refine pure_ (i := 12) (N := some 58) (v := ?_) (a' := ?_) #[true, true, true, true, true, true, true, true, true, true, true, true, true, false, false, false] rfl rfl (by kernel_rfl) (fun _ _ _ h => h) (Or.inl ⟨by rfl, ?_⟩) ?_ ?_
        rotate_left
        · intro w'
          go_simp
          with_reducible rfl
        rotate_left
        · simp only [Act.put, List.setIfInBounds_toArray, List.set_cons_zero, List.set_cons_succ, i64_w, i32_w]
          rfl
        refine pure_ (i := 13) (N := some 59) (v := ?_) (a' := ?_) #[true, true, true, true, true, true, true, true, true, true, true, true, true, true, false, false] rfl rfl (by kernel_rfl) (fun _ _ _ h => h) (Or.inl ⟨by rfl, ?_⟩) ?_ ?_
        rotate_left
        · intro w'
          go_simp
          with_reducible rfl
        rotate_left
        · simp only [Act.put, List.setIfInBounds_toArray, List.set_cons_zero, List.set_cons_succ, i64_w, i32_w]
          rfl
        refine pure_ (i := 14) (N := some 9) (v := ?_) (a' := ?_) #[true, true, true, true, true, true, true, true, true, true, true, true, true, true, true, false] rfl rfl (by kernel_rfl) (fun _ _ _ h => h) (Or.inl ⟨by rfl, ?_⟩) ?_ ?_
        rotate_left
        · intro w'
          go_simp
          with_reducible rfl
        rotate_left
        · simp only [Act.put, List.setIfInBounds_toArray, List.set_cons_zero, List.set_cons_succ, i64_w, i32_w]
          rfl
        refine pure_ (i := 15) (N := some 10) (v := ?_) (a' := ?_) #[true, true, true, true, true, true, true, true, true, true, true, true, true, true, true, true] rfl rfl (by kernel_rfl) (fun _ _ _ h => h) (Or.inl ⟨by rfl, ?_⟩) ?_ ?_
        rotate_left
        · intro w'
          go_simp
          with_reducible rfl
        rotate_left
        · simp only [Act.put, List.setIfInBounds_toArray, List.set_cons_zero, List.set_cons_succ, i64_w, i32_w]
          rfl
        refine done_ (by kernel_rfl) ?_

        replace HB2 := Lib.hid (HB2.out.trans (hHeld.2.mono HB2.out.size))
        replace HR2 := Lib.hid (blk_below HR2.out hHeld.2)
        go_wp2
        go_roundw
        case rel => exact ⟨5, by go_num, by decide, HR2, HB2⟩
        case measure => first | (simp only [intOf]; decide) | (simp [intOf]) | decide
      · have HV := Lib.hid (show BadV (.iface 42 (.pointer (some ⟨g0, 0, none⟩))) from fun w => item_bad_ptr ⟨g0, 0, none⟩ w)
        have c0 : wr.cell? ⟨gB, 5, none⟩ = some (.iface 42 (.pointer (some ⟨g0, 0, none⟩))) := (blk_cell HROW.out 5).trans rfl
        have HE := Lib.hid (E2.out _ _ _ (blk_new wr (.cells #[.iface 9 (.string s), .iface 42 (.pointer (some ⟨g0, 0, none⟩))] 20)) HV.out (HG.out.below (below_alloc HB.out (.cells #[.iface 9 (.string s), .iface 42 (.pointer (some ⟨g0, 0, none⟩))] 20))))
        have HB2 := Lib.hid (below_alloc HB.out (.cells #[.iface 9 (.string s), .iface 42 (.pointer (some ⟨g0, 0, none⟩))] 20))
        have HR2 := Lib.hid (blk_below HROW.out (below_alloc (Below.refl _ wr) (.cells #[.iface 9 (.string s), .iface 42 (.pointer (some ⟨g0, 0, none⟩))] 20)))
        go_wp2_with fail
        refine HE.out.mono ?_
        rintro e w6 ⟨rfl, hb⟩
        replace HB2 := Lib.hid (HB2.out.trans (hb.mono HB2.out.size))
        replace HR2 := Lib.hid (blk_below HR2.out hb)
        clear HE hb c0 HROW HB
        have c0 : w6.cell? ⟨gB, 5, none⟩ = some (.iface 42 (.pointer (some ⟨g0, 0, none⟩))) := (blk_cell HR2.out 5).trans rfl
        go_wp2
        refine start_ (n := 16) (S := fun w' => w'.cell? ⟨gB, 5, none⟩ = some (.iface 42 (.pointer (some ⟨g0, 0, none⟩))) ∧ Below w6.heap.size w6 w') (ds := []) #[false, false, false, false, false, false, false, false, false, false, false, false, false, false, false, false] (by kernel_rfl) rfl rfl ⟨(show w6.drew.cell? _ = _ from c0), (below_drew (Below.refl _ _))⟩ (fun hHeld => ?_)
        refine pure_ (i := 0) (N := some 47) (v := ?_) (a' := ?_) #[true, false, false, false, false, false, false, false, false, false, false, false, false, false, false, false] rfl rfl (by kernel_rfl) (fun _ _ _ h => h) (Or.inl ⟨by rfl, ?_⟩) ?_ ?_
        rotate_left
        · intro w'
          go_simp
          with_reducible rfl
        rotate_left
        · simp only [Act.put, List.setIfInBounds_toArray, List.set_cons_zero, List.set_cons_succ, i64_w, i32_w]
          rfl
        refine pure_ (i := 1) (N := some 48) (v := ?_) (a' := ?_) #[true, true, false, false, false, false, false, false, false, false, false, false, false, false, false, false] rfl rfl (by kernel_rfl) (fun _ _ _ h => h) (Or.inl ⟨by rfl, ?_⟩) ?_ ?_
        rotate_left
        · intro w'
          go_simp
          with_reducible rfl
        rotate_left
        · simp only [Act.put, List.setIfInBounds_toArray, List.set_cons_zero, List.set_cons_succ, i64_w, i32_w]
          rfl
        refine pure_ (i := 2) (N := some 49) (v := ?_) (a' := ?_) #[true, true, true, false, false, false, false, false, false, false, false, false, false, false, false, false] rfl rfl (by kernel_rfl) (fun _ _ _ h => h) (Or.inl ⟨by rfl, ?_⟩) ?_ ?_
        rotate_left
        · intro w'
          go_simp
          with_reducible rfl
        rotate_left
        · simp only [Act.put, List.setIfInBounds_toArray, List.set_cons_zero, List.set_cons_succ, i64_w, i32_w]
          rfl
        refine pure_ (i := 5) (N := some 52) (v := ?_) (a' := ?_) #[true, true, true, false, false, true, false, false, false, false, false, false, false, false, false, false] rfl rfl (by kernel_rfl) (fun _ _ _ h => h) (Or.inl ⟨by rfl, ?_⟩) ?_ ?_
        rotate_left
        · intro w'
          go_simp
          with_reducible rfl
        rotate_left
        · simp only [Act.put, List.setIfInBounds_toArray, List.set_cons_zero, List.set_cons_succ, i64_w, i32_w]
          rfl
        refine pure_ (i := 6) (N := some 53) (v := ?_) (a' := ?_) #[true, true, true, false, false, true, true, false, false, false, false, false, false, false, false, false] rfl rfl (by kernel_rfl) (fun _ _ _ h => h) (Or.inl ⟨by rfl, ?_⟩) ?_ ?_
        rotate_left
        · intro w'
          go_simp
          with_reducible rfl
        rotate_left
        · simp only [Act.put, List.setIfInBounds_toArray, List.set_cons_zero, List.set_cons_succ, i64_w, i32_w]
          rfl
        refine pure_ (i := 7) (N := some 54) (v := ?_) (a' := ?_) #[true, true, true, false, false, true, true, true, false, false, false, false, false, false, false, false] rfl rfl (by kernel_rfl) (fun _ _ _ h => h) (Or.inl ⟨by rfl, ?_⟩) ?_ ?_
        rotate_left
        · intro w'
          go_simp
          with_reducible rfl
        rotate_left
        · simp only [Act.put, List.setIfInBounds_toArray, List.set_cons_zero, List.set_cons_succ, i64_w, i32_w]
          rfl
        refine take_ (i := 3) (N := some 50) (v := ?_) (a' := ?_) #[true, true, true, true, false, true, true, true, false, false, false, false, false, false, false, false] rfl rfl (by kernel_rfl) (fun _ _ _ h => h) (Or.inl ⟨by rfl, ?_⟩) hHeld ?_ ?_
        rotate_left
        · rintro w' ⟨s0, s1⟩
          go_simp
          with_reducible rfl
        rotate_left
        · simp only [Act.put, List.setIfInBounds_toArray, List.set_cons_zero, List.set_cons_succ, i64_w, i32_w]
          rfl
        refine take_ (i := 8) (N := some 55) (v := ?_) (a' := ?_) #[true, true, true, true, false, true, true, true, true, false, false, false, false, false, false, false] rfl rfl (by kernel_rfl) (fun _ _ _ h => h) (Or.inl ⟨by rfl, ?_⟩) hHeld ?_ ?_
        rotate_left
        · rintro w' ⟨s0, s1⟩
          go_simp
          with_reducible rfl
        rotate_left
        · simp only [Act.put, List.setIfInBounds_toArray, List.set_cons_zero, List.set_cons_succ, i64_w, i32_w]
          rfl
        refine join_ (σ := Nat × Nat) 6 #[true, true, true, true, true, true, true, true, true, true, false, false, false, false, false, false] (fun q => [(51, .slice (some ⟨q.1, 0, none⟩) 1 1), (56, .slice (some ⟨q.2, 0, none⟩) 1 1)]) (fun q w' => w'.heap[q.1]? = some (.cells #[.iface 42 (.pointer (some ⟨g0, 0, none⟩))] 20 (0, 0)) ∧ w'.heap[q.2]? = some (.cells #[.iface 42 (.pointer (some ⟨g0, 0, none⟩))] 20 (0, 0)) ∧ (w'.cell? ⟨gB, 5, none⟩ = some (.iface 42 (.pointer (some ⟨g0, 0, none⟩))) ∧ Below w6.heap.size w6 w')) ?_ ?_
        rotate_left
        · intro hCont
          refine two_ (i := 4) (j := 9) (Ni := some 51) (Nj := some 56) #[true, true, true, true, true, true, true, true, true, false, false, false, false, false, false, false] #[true, true, true, true, false, true, true, true, true, true, false, false, false, false, false, false] rfl rfl rfl rfl (by kernel_rfl) (by decide) (by decide) (fun K hK => ?_) (fun K hK => ?_)
          · skip
            refine value_ (w1 := ?_) (v := ?_) (by rfl) rfl ?_ ?_
            rotate_left 2
            · go_simp
              constructor
              · rfl
              · rfl
            have H4 := Lib.hid (row_new w6.drew (.cells #[.iface 42 (.pointer (some ⟨g0, 0, none⟩))] 20) (n := w6.heap.size) (by simp))
            refine hK.out _ _ ⟨(((below_alloc (Below.refl _ _) _).cell (p := ⟨gB, 5, none⟩) (Nat.lt_of_lt_of_le (blk_lt HR2.out) hHeld.2.size)).trans hHeld.1), below_alloc hHeld.2 _⟩ (fun hHeld => ?_)
            clear hK K
            refine norm_ (a' := ?_) ?_ ?_
            rotate_left
            · show Act.put _ (some 51) _ = _
              simp only [Act.put, List.setIfInBounds_toArray, List.set_cons_zero, List.set_cons_succ, i64_w, i32_w]
              rfl
            refine one_ (i := 9) (N := some 56) #[true, true, true, true, true, true, true, true, true, true, false, false, false, false, false, false] rfl rfl (by kernel_rfl) (by decide) (fun K hK => ?_)
            refine value_ (w1 := ?_) (v := ?_) (by rfl) rfl ?_ ?_
            rotate_left 2
            · go_simp
              constructor
              · rfl
              · rfl
            have H9 := Lib.hid (row_new (w6.drew.alloc (.cells #[.iface 42 (.pointer (some ⟨g0, 0, none⟩))] 20)) (.cells #[.iface 42 (.pointer (some ⟨g0, 0, none⟩))] 20) (n := w6.heap.size + 1) (by simp))
            have H4 := Lib.hid (blk_alloc H4.out (.cells #[.iface 42 (.pointer (some ⟨g0, 0, none⟩))] 20))
            refine hK.out _ _ ⟨(((below_alloc (Below.refl _ _) _).cell (p := ⟨gB, 5, none⟩) (Nat.lt_of_lt_of_le (blk_lt HR2.out) hHeld.2.size)).trans hHeld.1), below_alloc hHeld.2 _⟩ (fun hHeld => ?_)
            clear hK K
            refine norm_ (a' := ?_) ?_ ?_
            rotate_left
            · show Act.put _ (some 56) _ = _
              simp only [Act.put, List.setIfInBounds_toArray, List.set_cons_zero, List.set_cons_succ, i64_w, i32_w]
              rfl
            exact norm_ (by simp only [putAll, Act.put, List.setIfInBounds_toArray, List.set_cons_zero, List.set_cons_succ]) (hCont (w6.heap.size, w6.heap.size + 1) _ ⟨H4.out, H9.out, hHeld⟩)
          · skip
            refine value_ (w1 := ?_) (v := ?_) (by rfl) rfl ?_ ?_
            rotate_left 2
            · go_simp
              constructor
              · rfl
              · rfl
            have H9 := Lib.hid (row_new w6.drew (.cells #[.iface 42 (.pointer (some ⟨g0, 0, none⟩))] 20) (n := w6.heap.size) (by simp))
            refine hK.out _ _ ⟨(((below_alloc (Below.refl _ _) _).cell (p := ⟨gB, 5, none⟩) (Nat.lt_of_lt_of_le (blk_lt HR2.out) hHeld.2.size)).trans hHeld.1), below_alloc hHeld.2 _⟩ (fun hHeld => ?_)
            clear hK K
            refine norm_ (a' := ?_) ?_ ?_
            rotate_left
            · show Act.put _ (some 56) _ = _
              simp only [Act.put, List.setIfInBounds_toArray, List.set_cons_zero, List.set_cons_succ, i64_w, i32_w]
              rfl
            refine one_ (i := 4) (N := some 51) #[true, true, true, true, true, true, true, true, true, true, false, false, false, false, false, false] rfl rfl (by kernel_rfl) (by decide) (fun K hK => ?_)
            refine value_ (w1 := ?_) (v := ?_) (by rfl) rfl ?_ ?_
            rotate_left 2
            · go_simp
              constructor
              · rfl
              · rfl
            have H4 := Lib.hid (row_new (w6.drew.alloc (.cells #[.iface 42 (.pointer (some ⟨g0, 0, none⟩))] 20)) (.cells #[.iface 42 (.pointer (some ⟨g0, 0, none⟩))] 20) (n := w6.heap.size + 1) (by simp))
            have H9 := Lib.hid (blk_alloc H9.out (.cells #[.iface 42 (.pointer (some ⟨g0, 0, none⟩))] 20))
            refine hK.out _ _ ⟨(((below_alloc (Below.refl _ _) _).cell (p := ⟨gB, 5, none⟩) (Nat.lt_of_lt_of_le (blk_lt HR2.out) hHeld.2.size)).trans hHeld.1), below_alloc hHeld.2 _⟩ (fun hHeld => ?_)
            clear hK K
            refine norm_ (a' := ?_) ?_ ?_
            rotate_left
            · show Act.put _ (some 51) _ = _
              simp only [Act.put, List.setIfInBounds_toArray, List.set_cons_zero, List.set_cons_succ, i64_w, i32_w]
              rfl
            exact norm_ (by simp only [putAll, Act.put, List.setIfInBounds_toArray, List.set_cons_zero, List.set_cons_succ]) (hCont (w6.heap.size + 1, w6.heap.size) _ ⟨H4.out, H9.out, hHeld⟩)
        rintro ⟨g4, g9⟩ w7 ⟨h4, h9, hHeld⟩
        have H4 := Lib.hid h4
        have H9 := Lib.hid h9
        clear h4 h9
        refine norm_ (a' := ?_) ?_ ?_
        rotate_left
        · simp only [putAll, Act.put, List.setIfInBounds_toArray, List.set_cons_zero, List.set_cons_succ]
          rfl
        refine one_ (i := 10) (N := some 57) #[true, true, true, true, true, true, true, true, true, true, true, false, false, false, false, false] rfl rfl (by kernel_rfl) (by decide) (fun K hK => ?_)
        refine goes_ Tryd.func13 (by kernel_rfl) rfl #[.slice (some ⟨g4, 0, none⟩) 1 1, .slice (some ⟨g9, 0, none⟩) 1 1] (by rfl) rfl rfl (by (try simp only [List.map_toArray, List.map_cons, List.map_nil]); first | done | rfl) ?_
        with_reducible refine ((compare_bad _ _ _ _ H4.out H9.out HV.out)).mono ?_
        rintro e w8 ⟨rfl, hb8⟩
        refine ⟨_, rfl, ?_⟩
        refine hK.out _ _ ⟨((hb8.cell (p := ⟨gB, 5, none⟩) (cell_block_lt hHeld.1)).trans hHeld.1), hHeld.2.trans (hb8.mono hHeld.2.size)⟩ (fun hHeld => ?_)
        clear hK K
        refine norm_ (a' := ?_) ?_ ?_
        rotate_left
        · show Act.put _ (some 57) _ = _
          simp only [Act.put, List.setIfInBounds_toArray, List.set_cons_zero, List.set_cons_succ, i64_w, i32_w]
          rfl
        refine pure_ (i := 11) (N := some 46) (v := ?_) (a' := ?_) #[true, true, true, true, true, true, true, true, true, true, true, true, false, false, false, false] rfl rfl (by kernel_rfl) (fun _ _ _ h => h) (Or.inl ⟨by rfl, ?_⟩) ?_ ?_
        rotate_left
        · intro w'
          go_simp
          with_reducible rfl
        rotate_left
        · simp only [Act.put, List.setIfInBounds_toArray, List.set_cons_zero, List.set_cons_succ, i64_w, i32_w]
          rfl
        refine pure_ (i := 12) (N := some 58) (v := ?_) (a' := ?_) #[true, true, true, true, true, true, true, true, true, true, true, true, true, false, false, false] rfl rfl (by kernel_rfl) (fun _ _ _ h => h) (Or.inl ⟨by rfl, ?_⟩) ?_ ?_
        rotate_left
        · intro w'
          go_simp
          with_reducible rfl
        rotate_left
        · simp only [Act.put, List.setIfInBounds_toArray, List.set_cons_zero, List.set_cons_succ, i64_w, i32_w]
          rfl
        refine pure_ (i := 13) (N := some 59) (v := ?_) (a' := ?_) #[true, true, true, true, true, true, true, true, true, true, true, true, true, true, false, false] rfl rfl (by kernel_rfl) (fun _ _ _ h => h) (Or.inl ⟨by rfl, ?_⟩) ?_ ?_
        rotate_left
        · intro w'
          go_simp
          with_reducible rfl
        rotate_left
        · simp only [Act.put, List.setIfInBounds_toArray, List.set_cons_zero, List.set_cons_succ, i64_w, i32_w]
          rfl
        refine pure_ (i := 14) (N := some 9) (v := ?_) (a' := ?_) #[true, true, true, true, true, true, true, true, true, true, true, true, true, true, true, false] rfl rfl (by kernel_rfl) (fun _ _ _ h => h) (Or.inl ⟨by rfl, ?_⟩) ?_ ?_
        rotate_left
        · intro w'
          go_simp
          with_reducible rfl
        rotate_left
        · simp only [Act.put, List.setIfInBounds_toArray, List.set_cons_zero, List.set_cons_succ, i64_w, i32_w]
          rfl
        refine pure_ (i := 15) (N := some 10) (v := ?_) (a' := ?_) #[true, true, true, true, true, true, true, true, true, true, true, true, true, true, true, true] rfl rfl (by kernel_rfl) (fun _ _ _ h => h) (Or.inl ⟨by rfl, ?_⟩) ?_ ?_
        rotate_left
        · intro w'
          go_simp
          with_reducible rfl
        rotate_left
        · simp only [Act.put, List.setIfInBounds_toArray, List.set_cons_zero, List.set_cons_succ, i64_w, i32_w]
          rfl
        refine done_ (by kernel_rfl) ?_

        replace HB2 := Lib.hid (HB2.out.trans (hHeld.2.mono HB2.out.size))
        replace HR2 := Lib.hid (blk_below HR2.out hHeld.2)
        go_wp2
        go_roundw
        case rel => exact ⟨6, by go_num, by decide, HR2, HB2⟩
        case measure => first | (simp only [intOf]; decide) | (simp [intOf]) | decide
    · obtain rfl : i = 6 := by omega
      go_wp2_with fail
      refine (AW.out _ (HG.out.below HB.out)).mono ?_
      rintro e w9 ⟨rfl, hb⟩
      replace HB := Lib.hid (HB.out.trans (hb.mono HB.out.size))
      go_wp2
      go_ret
      exact ⟨rfl, HB.out⟩
theorem items_row (n : Int) (s : ByteArray) (w : World) (hg : Glob w) (_h : (Lit.int .i64 n).wf = true) (hs : s.size ≤ 1048576) :
    Calls Tryd.prog 5 #[.int .i64 n, .string s] w fun e w' => e = .returned (.bool true) ∧ Below w.heap.size w w' := keys_items_walk n s w (by omega) hg
end Go.Proofs.YtbbjnnbabikefaaDoor.My
