/- The law MvccPlays, walked. -/
import Derived.Test.YtcnehponkgofiaaMvTwo
namespace Go.Proofs.Ytcnehponkgofiaa.My
set_option linter.unusedSimpArgs false
set_option linter.unusedVariables false
open Go.RowKit Go.Proofs.YtcnehponkgofiaaW.PrintWords Go.Proofs.YtcnehponkgofiaaW.PrintLast Go.Proofs.Ytcnehponkgofiaa.Pm

abbrev AskT := ByteArray × Nat × ByteArray × ByteArray × Int
def askC (p : AskT) : List Value := [.string p.1, .int .u64 (p.2.1 : Int), .string p.2.2.1, .string p.2.2.2.1, .int .i64 p.2.2.2.2]
theorem askC_len (p : AskT) : (askC p).length = 5 := rfl
set_option maxRecDepth 100000 in
set_option maxHeartbeats 16000000 in
theorem mvcc_plays (A : Option Addr) (len cap : Nat) (l : List ItT) (B : Option Addr) (qn qc : Nat) (qs : List AskT) (w : World) (hA : RowF w 4 itC A len l) (hlen : len ≤ 140737488351232) (hal : ∀ p ∈ l, p.2.1 < 18446744073709551616 ∧ p.1.size ≤ 140737488351232 ∧ p.2.2.2.size ≤ 140737488351232)
    (hQ : RowF w 5 askC B qn qs) (hqn : qn ≤ 140737488351232) (hql : ∀ p ∈ qs, p.1.size ≤ 140737488351232 ∧ p.2.2.1.size ≤ 140737488351232 ∧ p.2.2.2.1.size ≤ 140737488351232) :
    Calls Try.prog 4 #[.slice A len cap, .slice B qn qc] w fun e w' => e = .returned (.bool true) ∧ Below w.heap.size w w' := by
  have HA := Lib.hid hA; clear hA
  have HAL := Lib.hid hal; clear hal
  have HQ := Lib.hid hQ; clear hQ
  have HQL := Lib.hid hql; clear hql
  have HB := Lib.hid (Below.refl w.heap.size w)
  go_enter Try.func4, Try.ntmps4
  go_wp2_with fail
  refine (awake11 _).mono ?_
  rintro e w1 ⟨rfl, hb⟩
  replace HB := Lib.hid (HB.out.trans (hb.mono HB.out.size)); clear hb
  go_wp2_with fail
  refine (few11_any A len cap 60 l _ (HA.out.below HB.out) hlen (by decide)).mono ?_
  rintro e w2 ⟨b, rfl, hb60, rfl⟩
  cases b with
  | false =>
    go_wp2_with fail
    refine (awake11 _).mono ?_
    rintro e w9 ⟨rfl, hb⟩
    replace HB := Lib.hid (HB.out.trans (hb.mono HB.out.size)); clear hb
    go_wp2
    go_ret
    exact ⟨rfl, HB.out⟩
  | true =>
    have h60 := hb60 rfl
    clear hb60
    by_cases h10 : 10 < qn
    · have x1 : decide (10 < (qn : Int)) = true := by simp; omega
      have x1n := decide_eq_true h10
      go_wp2_with fail
      refine (awake11 _).mono ?_
      rintro e w9 ⟨rfl, hb⟩
      replace HB := Lib.hid (HB.out.trans (hb.mono HB.out.size)); clear hb
      go_wp2
      go_ret
      exact ⟨rfl, HB.out⟩
    have x1 : decide (10 < (qn : Int)) = false := by simp; omega
    have x1n := decide_eq_false h10
    have HSZ := Lib.hid HB.out.size
    go_wp2_with fail
    refine (new_any w2 w2.heap.size (Nat.le_refl _)).mono ?_
    rintro e w4 ⟨rfl, hms, hb⟩
    clear x1 x1n
    have HM := Lib.hid hms; clear hms
    replace HB := Lib.hid (HB.out.trans (hb.mono HB.out.size))
    obtain ⟨gs, hgs⟩ : ∃ g, w2.heap.size = g := ⟨_, rfl⟩
    rw [hgs] at HM ⊢
    have HWS := Lib.hid (show w.heap.size ≤ gs from by rw [← hgs]; exact HSZ.out)
    have HG1 := Lib.hid (show w.heap.size ≤ gs ∧ gs < w4.heap.size from ⟨HWS.out, blk_lt HM.out.blk⟩)
    clear hb hgs
    go_wp2
    have H6 := Lib.hid (blk_new w4 (.cells #[.slice none 0 0] 44))
    replace HM := Lib.hid (HM.out.alloc (.cells #[.slice none 0 0] 44))
    replace HB := Lib.hid (below_alloc HB.out (.cells #[.slice none 0 0] 44))
    have HG6 := Lib.hid (show gs < w4.heap.size from HG1.out.2)
    obtain ⟨g6, hg6⟩ : ∃ g, w4.heap.size = g := ⟨_, rfl⟩
    rw [hg6] at H6 HG6 ⊢
    clear HG1 hg6
    have HWG := Lib.hid (show w.heap.size ≤ gs from HWS.out)
    generalize w4.alloc (.cells #[.slice none 0 0] 44) = w3 at *
    have HB0 := HB
    go_loopw [7] (fun u wr => ∃ (i : Nat) (v : Value) (es : List EntP) (A' : Option Addr) (c' : Nat) (L : List ItT), u = .int .i64 i ∧ i ≤ len ∧ MSt wr gs gs v es ∧ es.length ≤ i ∧ wr.heap[g6]? = some (.cells #[.slice A' L.length c'] 44 (0, 0)) ∧ OwnF wr gs 27 4 itC (.slice A' L.length c') L ∧ L.length ≤ i ∧ Rel L es ∧ Below gs w3 wr) (fun u _ => len - (intOf u).toNat)
    case atStart => exact ⟨0, _, _, none, 0, [], rfl, Nat.zero_le _, HM.out, Nat.le_refl _, H6.out, OwnF.nil _ _ _ _ _, Nat.le_refl _, rel_nil, Below.refl _ _⟩
    case round =>
      clear HM H6 HB
      obtain ⟨i, v, es, A', c', L, rfl, hi, hms, hes, h6, ho, hL, hrel, hb4⟩ := hrel
      have HM := Lib.hid hms; clear hms
      have H6 := Lib.hid h6; clear h6
      have HO := Lib.hid ho; clear ho
      have HR := Lib.hid hrel; clear hrel
      have HB4 := Lib.hid hb4; clear hb4
      have HB := Lib.hid (HB0.out.trans (HB4.out.mono HWG.out))
      by_cases hlt : i < len
      · obtain ⟨bb, off, hj, rfl, hbW, hc⟩ := HA.out.get i hlt
        replace hc := range_below hc HB.out hbW
        have hpl := HAL.out _ (List.getElem_mem hj)
        obtain ⟨⟨k, x0, x1, x2⟩, hx⟩ : ∃ x, l[i] = x := ⟨_, rfl⟩
        rw [hx] at hc hpl
        simp only at hpl
        have c0 : wr.cell? ⟨bb, off + i * 4, none⟩ = some (.string k) := hc 0 _ rfl
        have c1 : wr.cell? ⟨bb, off + i * 4 + 1, none⟩ = some (.int .u64 (x0 : Int)) := hc 1 _ rfl
        have c2 : wr.cell? ⟨bb, off + i * 4 + 1 + 1, none⟩ = some (.bool x1) := hc 2 _ rfl
        have c3 : wr.cell? ⟨bb, off + i * 4 + 1 + 2, none⟩ = some (.string x2) := hc 3 _ rfl
        have g0 : wr.cell? ⟨g6, 0, none⟩ = some (.slice A' L.length c') := (blk_cell H6.out 0).trans rfl
        have hl6 := blk_lt H6.out
        have hbl : bb < wr.heap.size := Nat.lt_of_lt_of_le hbW HB.out.size
        have hgl : gs ≤ wr.heap.size := Nat.le_of_lt (Nat.lt_trans HG6.out hl6)
        have HIQ := Lib.hid (fun W hm => install_any gs gs v es k (x0, x1, x2) W hm (by omega) hpl.1 hpl.2.1 hpl.2.2)
        have HIR := Lib.hid (fun W hO hb => rinst_own A' gs c' L k x0 x1 x2 W hO hb (by omega) hpl.2.1 hpl.2.2)
        have HST := Lib.hid (fun (es' : List EntP) (hr' : es'.Pairwise fun a b => keyLess a.key b.key) ho h1 h2 => HR.out.step (key := k) (x := (x0, x1, x2)) HM.out.ris hr' ho h1 h2)
        have HIL := Lib.hid (Nat.le_trans (rInst_len L k (x0, x1, x2)) (Nat.succ_le_succ hL))
        have her := HR.out.err k (x0, x1, x2)
        rw [her] at HIR
        clear her
        generalize rInst L k (x0, x1, x2) = L7 at *
        generalize errS es k (x0, x1, x2) = e7 at *
        obtain ⟨n, hn⟩ : ∃ n, L.length = n := ⟨_, rfl⟩
        rw [hn] at H6 HO HIR g0
        obtain ⟨n7, hn7⟩ : ∃ n, L7.length = n := ⟨_, rfl⟩
        rw [hn7] at HIR HIL
        have HN7 := Lib.hid hn7
        have HLT := Lib.hid hlt
        have HES := Lib.hid hes
        have HBG := Lib.hid (show bb < gs from Nat.lt_of_lt_of_le hbW HWG.out)
        clear hc hbW hx hj hpl hn hn7 hL hes h60
        have hw := next_wrap hlt hlen
        go_wp2
        refine start_ (n := 18) (S := fun w' => Below wr.heap.size wr w' ∧ w'.cell? ⟨bb, off + i * 4, none⟩ = some (.string k) ∧ w'.cell? ⟨bb, off + i * 4 + 1, none⟩ = some (.int .u64 (x0 : Int)) ∧ w'.cell? ⟨bb, off + i * 4 + 1 + 1, none⟩ = some (.bool x1) ∧ w'.cell? ⟨bb, off + i * 4 + 1 + 2, none⟩ = some (.string x2) ∧ w'.cell? ⟨g6, 0, none⟩ = some (.slice A' n c')) (ds := [16]) #[false, false, false, false, false, false, false, false, false, false, false, false, false, false, false, false, false, false] (by kernel_rfl) rfl rfl ⟨(below_drew (Below.refl _ _)), c0, c1, c2, c3, g0⟩ (fun hHeld => ?_)
        refine pure_ (i := 1) (N := some 43) (v := ?_) (a' := ?_) #[false, true, false, false, false, false, false, false, false, false, false, false, false, false, false, false, false, false] rfl rfl (by kernel_rfl) (fun _ _ _ h => h) (Or.inl ⟨by rfl, ?_⟩) ?_ ?_
        rotate_left
        · intro w'
          go_simp
          with_reducible rfl
        rotate_left
        · simp only [Act.put, List.setIfInBounds_toArray, List.set_cons_zero, List.set_cons_succ, i64_w, i32_w]
          rfl
        refine pure_ (i := 2) (N := some 44) (v := ?_) (a' := ?_) #[false, true, true, false, false, false, false, false, false, false, false, false, false, false, false, false, false, false] rfl rfl (by kernel_rfl) (fun _ _ _ h => h) (Or.inl ⟨by rfl, ?_⟩) ?_ ?_
        rotate_left
        · intro w'
          go_simp
          with_reducible rfl
        rotate_left
        · simp only [Act.put, List.setIfInBounds_toArray, List.set_cons_zero, List.set_cons_succ, i64_w, i32_w]
          rfl
        refine pure_ (i := 3) (N := some 45) (v := ?_) (a' := ?_) #[false, true, true, true, false, false, false, false, false, false, false, false, false, false, false, false, false, false] rfl rfl (by kernel_rfl) (fun _ _ _ h => h) (Or.inl ⟨by rfl, ?_⟩) ?_ ?_
        rotate_left
        · intro w'
          go_simp
          with_reducible rfl
        rotate_left
        · simp only [Act.put, List.setIfInBounds_toArray, List.set_cons_zero, List.set_cons_succ, i64_w, i32_w]
          rfl
        refine pure_ (i := 4) (N := some 46) (v := ?_) (a' := ?_) #[false, true, true, true, true, false, false, false, false, false, false, false, false, false, false, false, false, false] rfl rfl (by kernel_rfl) (fun _ _ _ h => h) (Or.inl ⟨by rfl, ?_⟩) ?_ ?_
        rotate_left
        · intro w'
          go_simp
          with_reducible rfl
        rotate_left
        · simp only [Act.put, List.setIfInBounds_toArray, List.set_cons_zero, List.set_cons_succ, i64_w, i32_w]
          rfl
        refine pure_ (i := 6) (N := some 48) (v := ?_) (a' := ?_) #[false, true, true, true, true, false, true, false, false, false, false, false, false, false, false, false, false, false] rfl rfl (by kernel_rfl) (fun _ _ _ h => h) (Or.inl ⟨by rfl, ?_⟩) ?_ ?_
        rotate_left
        · intro w'
          go_simp
          with_reducible rfl
        rotate_left
        · simp only [Act.put, List.setIfInBounds_toArray, List.set_cons_zero, List.set_cons_succ, i64_w, i32_w]
          rfl
        refine pure_ (i := 7) (N := some 49) (v := ?_) (a' := ?_) #[false, true, true, true, true, false, true, true, false, false, false, false, false, false, false, false, false, false] rfl rfl (by kernel_rfl) (fun _ _ _ h => h) (Or.inl ⟨by rfl, ?_⟩) ?_ ?_
        rotate_left
        · intro w'
          go_simp
          with_reducible rfl
        rotate_left
        · simp only [Act.put, List.setIfInBounds_toArray, List.set_cons_zero, List.set_cons_succ, i64_w, i32_w]
          rfl
        refine pure_ (i := 8) (N := some 50) (v := ?_) (a' := ?_) #[false, true, true, true, true, false, true, true, true, false, false, false, false, false, false, false, false, false] rfl rfl (by kernel_rfl) (fun _ _ _ h => h) (Or.inl ⟨by rfl, ?_⟩) ?_ ?_
        rotate_left
        · intro w'
          go_simp
          with_reducible rfl
        rotate_left
        · simp only [Act.put, List.setIfInBounds_toArray, List.set_cons_zero, List.set_cons_succ, i64_w, i32_w]
          rfl
        refine pure_ (i := 9) (N := some 51) (v := ?_) (a' := ?_) #[false, true, true, true, true, false, true, true, true, true, false, false, false, false, false, false, false, false] rfl rfl (by kernel_rfl) (fun _ _ _ h => h) (Or.inl ⟨by rfl, ?_⟩) ?_ ?_
        rotate_left
        · intro w'
          go_simp
          with_reducible rfl
        rotate_left
        · simp only [Act.put, List.setIfInBounds_toArray, List.set_cons_zero, List.set_cons_succ, i64_w, i32_w]
          rfl
        refine take_ (i := 0) (N := some 42) (v := ?_) (a' := ?_) #[true, true, true, true, true, false, true, true, true, true, false, false, false, false, false, false, false, false] rfl rfl (by kernel_rfl) (fun _ _ _ h => h) (Or.inl ⟨by rfl, ?_⟩) hHeld ?_ ?_
        rotate_left
        · rintro w' ⟨s0, s1, s2, s3, s4, s5⟩
          go_simp
          with_reducible rfl
        rotate_left
        · simp only [Act.put, List.setIfInBounds_toArray, List.set_cons_zero, List.set_cons_succ, i64_w, i32_w]
          rfl
        refine take_ (i := 5) (N := some 47) (v := ?_) (a' := ?_) #[true, true, true, true, true, true, true, true, true, true, false, false, false, false, false, false, false, false] rfl rfl (by kernel_rfl) (fun _ _ _ h => h) (Or.inl ⟨by rfl, ?_⟩) hHeld ?_ ?_
        rotate_left
        · rintro w' ⟨s0, s1, s2, s3, s4, s5⟩
          go_simp
          with_reducible rfl
        rotate_left
        · simp only [Act.put, List.setIfInBounds_toArray, List.set_cons_zero, List.set_cons_succ, i64_w, i32_w]
          rfl
        refine take_ (i := 10) (N := some 52) (v := ?_) (a' := ?_) #[true, true, true, true, true, true, true, true, true, true, true, false, false, false, false, false, false, false] rfl rfl (by kernel_rfl) (fun _ _ _ h => h) (Or.inl ⟨by rfl, ?_⟩) hHeld ?_ ?_
        rotate_left
        · rintro w' ⟨s0, s1, s2, s3, s4, s5⟩
          go_simp
          with_reducible rfl
        rotate_left
        · simp only [Act.put, List.setIfInBounds_toArray, List.set_cons_zero, List.set_cons_succ, i64_w, i32_w]
          rfl
        refine join_ (σ := Nat × Option Addr × Nat) 2 #[true, true, true, true, true, true, true, true, true, true, true, true, true, true, true, true, false, false] (fun s => [(53, .tuple #[.agg #[.slice s.2.1 n7 s.2.2], .int .i64 (e7 : Int)]), (41, .tuple #[.agg #[.slice s.2.1 n7 s.2.2], .int .i64 (e7 : Int)]), (54, .agg #[.slice s.2.1 n7 s.2.2]), (55, .int .i64 (e7 : Int)), (8, .pointer (some ⟨s.1, 0, none⟩))]) (fun s w' => (Below wr.heap.size wr w' ∧ w'.cell? ⟨bb, off + i * 4, none⟩ = some (.string k) ∧ w'.cell? ⟨bb, off + i * 4 + 1, none⟩ = some (.int .u64 (x0 : Int)) ∧ w'.cell? ⟨bb, off + i * 4 + 1 + 1, none⟩ = some (.bool x1) ∧ w'.cell? ⟨bb, off + i * 4 + 1 + 2, none⟩ = some (.string x2) ∧ w'.cell? ⟨g6, 0, none⟩ = some (.slice A' n c')) ∧ w'.heap[s.1]? = some (.cells #[.slice none 0 0] 44 (0, 0)) ∧ wr.heap.size ≤ s.1 ∧ OwnF w' gs 27 4 itC (.slice s.2.1 n7 s.2.2) L7) ?_ ?_
        rotate_left
        · intro hCont
          refine two_ (i := 11) (j := 15) (Ni := some 53) (Nj := some 8) #[true, true, true, true, true, true, true, true, true, true, true, true, false, false, false, false, false, false] #[true, true, true, true, true, true, true, true, true, true, true, false, false, false, false, true, false, false] rfl rfl rfl rfl (by kernel_rfl) (by decide) (by decide) (fun K hK => ?_) (fun K hK => ?_)
          · skip
            refine goes_ Try.func14 (by kernel_rfl) rfl #[.agg #[.slice A' n c'], .string k, .agg #[.int .u64 (x0 : Int), .bool x1, .string x2]] (by rfl) rfl rfl (by (try simp only [List.map_toArray, List.map_cons, List.map_nil]); first | done | rfl) ?_
            with_reducible refine ((HIR.out _ (HO.out.below hHeld.1) (Nat.le_trans hgl hHeld.1.size))).mono ?_
            rintro e w8 ⟨A7, c7, rfl, ho7, hb8⟩
            refine ⟨_, rfl, ?_⟩
            have HN := Lib.hid (hHeld.1.trans (hb8.mono hHeld.1.size))
            have HO7 := Lib.hid ho7; clear ho7
            refine hK.out _ _ ⟨HN.out, (HN.out.cell (p := ⟨bb, off + i * 4, none⟩) hbl).trans c0, (HN.out.cell (p := ⟨bb, off + i * 4 + 1, none⟩) hbl).trans c1, (HN.out.cell (p := ⟨bb, off + i * 4 + 1 + 1, none⟩) hbl).trans c2, (HN.out.cell (p := ⟨bb, off + i * 4 + 1 + 2, none⟩) hbl).trans c3, (HN.out.cell (p := ⟨g6, 0, none⟩) hl6).trans g0⟩ (fun hHeld => ?_)
            clear hK K
            refine norm_ (a' := ?_) ?_ ?_
            rotate_left
            · show Act.put _ (some 53) _ = _
              simp only [Act.put, List.setIfInBounds_toArray, List.set_cons_zero, List.set_cons_succ, i64_w, i32_w]
              rfl
            refine pure_ (i := 12) (N := some 41) (v := ?_) (a' := ?_) #[true, true, true, true, true, true, true, true, true, true, true, true, true, false, false, false, false, false] rfl rfl (by kernel_rfl) (fun _ _ _ h => h) (Or.inl ⟨by rfl, ?_⟩) ?_ ?_
            rotate_left
            · intro w'
              go_simp
              with_reducible rfl
            rotate_left
            · simp only [Act.put, List.setIfInBounds_toArray, List.set_cons_zero, List.set_cons_succ, i64_w, i32_w]
              rfl
            refine pure_ (i := 13) (N := some 54) (v := ?_) (a' := ?_) #[true, true, true, true, true, true, true, true, true, true, true, true, true, true, false, false, false, false] rfl rfl (by kernel_rfl) (fun _ _ _ h => h) (Or.inl ⟨by rfl, ?_⟩) ?_ ?_
            rotate_left
            · intro w'
              go_simp
              with_reducible rfl
            rotate_left
            · simp only [Act.put, List.setIfInBounds_toArray, List.set_cons_zero, List.set_cons_succ, i64_w, i32_w]
              rfl
            refine pure_ (i := 14) (N := some 55) (v := ?_) (a' := ?_) #[true, true, true, true, true, true, true, true, true, true, true, true, true, true, true, false, false, false] rfl rfl (by kernel_rfl) (fun _ _ _ h => h) (Or.inl ⟨by rfl, ?_⟩) ?_ ?_
            rotate_left
            · intro w'
              go_simp
              with_reducible rfl
            rotate_left
            · simp only [Act.put, List.setIfInBounds_toArray, List.set_cons_zero, List.set_cons_succ, i64_w, i32_w]
              rfl
            refine one_ (i := 15) (N := some 8) #[true, true, true, true, true, true, true, true, true, true, true, true, true, true, true, true, false, false] rfl rfl (by kernel_rfl) (by decide) (fun K hK => ?_)
            refine value_ (w1 := ?_) (v := ?_) (by rfl) rfl ?_ ?_
            rotate_left 2
            · go_simp
              constructor
              · rfl
              · rfl
            have H70 := Lib.hid (blk_new w8 (.cells #[.slice none 0 0] 44))
            have HN := Lib.hid (hHeld.1.alloc hHeld.1.size (.cells #[.slice none 0 0] 44))
            have HZ := Lib.hid (show wr.heap.size ≤ w8.heap.size from hHeld.1.size)
            replace HO7 := Lib.hid (HO7.out.below (below_alloc (Below.refl _ _) (.cells #[.slice none 0 0] 44)))
            refine hK.out _ _ ⟨HN.out, (HN.out.cell (p := ⟨bb, off + i * 4, none⟩) hbl).trans c0, (HN.out.cell (p := ⟨bb, off + i * 4 + 1, none⟩) hbl).trans c1, (HN.out.cell (p := ⟨bb, off + i * 4 + 1 + 1, none⟩) hbl).trans c2, (HN.out.cell (p := ⟨bb, off + i * 4 + 1 + 2, none⟩) hbl).trans c3, (HN.out.cell (p := ⟨g6, 0, none⟩) hl6).trans g0⟩ (fun hHeld => ?_)
            clear hK K
            refine norm_ (a' := ?_) ?_ ?_
            rotate_left
            · show Act.put _ (some 8) _ = _
              simp only [Act.put, List.setIfInBounds_toArray, List.set_cons_zero, List.set_cons_succ, i64_w, i32_w]
              rfl
            exact norm_ (by simp only [putAll, Act.put, List.setIfInBounds_toArray, List.set_cons_zero, List.set_cons_succ]) (hCont (w8.heap.size, A7, c7) _ ⟨hHeld, H70.out, HZ.out, HO7.out⟩)
          · skip
            refine value_ (w1 := ?_) (v := ?_) (by rfl) rfl ?_ ?_
            rotate_left 2
            · go_simp
              constructor
              · rfl
              · rfl
            have H70 := Lib.hid (blk_new wr.drew (.cells #[.slice none 0 0] 44))
            have HN := Lib.hid (hHeld.1.alloc hHeld.1.size (.cells #[.slice none 0 0] 44))
            have HZ := Lib.hid (show wr.heap.size ≤ wr.drew.heap.size from hHeld.1.size)
            refine hK.out _ _ ⟨HN.out, (HN.out.cell (p := ⟨bb, off + i * 4, none⟩) hbl).trans c0, (HN.out.cell (p := ⟨bb, off + i * 4 + 1, none⟩) hbl).trans c1, (HN.out.cell (p := ⟨bb, off + i * 4 + 1 + 1, none⟩) hbl).trans c2, (HN.out.cell (p := ⟨bb, off + i * 4 + 1 + 2, none⟩) hbl).trans c3, (HN.out.cell (p := ⟨g6, 0, none⟩) hl6).trans g0⟩ (fun hHeld => ?_)
            clear hK K
            refine norm_ (a' := ?_) ?_ ?_
            rotate_left
            · show Act.put _ (some 8) _ = _
              simp only [Act.put, List.setIfInBounds_toArray, List.set_cons_zero, List.set_cons_succ, i64_w, i32_w]
              rfl
            refine one_ (i := 11) (N := some 53) #[true, true, true, true, true, true, true, true, true, true, true, true, false, false, false, true, false, false] rfl rfl (by kernel_rfl) (by decide) (fun K hK => ?_)
            refine goes_ Try.func14 (by kernel_rfl) rfl #[.agg #[.slice A' n c'], .string k, .agg #[.int .u64 (x0 : Int), .bool x1, .string x2]] (by rfl) rfl rfl (by (try simp only [List.map_toArray, List.map_cons, List.map_nil]); first | done | rfl) ?_
            with_reducible refine ((HIR.out _ (HO.out.below hHeld.1) (Nat.le_trans hgl hHeld.1.size))).mono ?_
            rintro e w8 ⟨A7, c7, rfl, ho7, hb8⟩
            refine ⟨_, rfl, ?_⟩
            have HN := Lib.hid (hHeld.1.trans (hb8.mono hHeld.1.size))
            have HO7 := Lib.hid ho7; clear ho7
            replace H70 := Lib.hid (blk_below H70.out hb8)
            refine hK.out _ _ ⟨HN.out, (HN.out.cell (p := ⟨bb, off + i * 4, none⟩) hbl).trans c0, (HN.out.cell (p := ⟨bb, off + i * 4 + 1, none⟩) hbl).trans c1, (HN.out.cell (p := ⟨bb, off + i * 4 + 1 + 1, none⟩) hbl).trans c2, (HN.out.cell (p := ⟨bb, off + i * 4 + 1 + 2, none⟩) hbl).trans c3, (HN.out.cell (p := ⟨g6, 0, none⟩) hl6).trans g0⟩ (fun hHeld => ?_)
            clear hK K
            refine norm_ (a' := ?_) ?_ ?_
            rotate_left
            · show Act.put _ (some 53) _ = _
              simp only [Act.put, List.setIfInBounds_toArray, List.set_cons_zero, List.set_cons_succ, i64_w, i32_w]
              rfl
            refine pure_ (i := 12) (N := some 41) (v := ?_) (a' := ?_) #[true, true, true, true, true, true, true, true, true, true, true, true, true, false, false, true, false, false] rfl rfl (by kernel_rfl) (fun _ _ _ h => h) (Or.inl ⟨by rfl, ?_⟩) ?_ ?_
            rotate_left
            · intro w'
              go_simp
              with_reducible rfl
            rotate_left
            · simp only [Act.put, List.setIfInBounds_toArray, List.set_cons_zero, List.set_cons_succ, i64_w, i32_w]
              rfl
            refine pure_ (i := 13) (N := some 54) (v := ?_) (a' := ?_) #[true, true, true, true, true, true, true, true, true, true, true, true, true, true, false, true, false, false] rfl rfl (by kernel_rfl) (fun _ _ _ h => h) (Or.inl ⟨by rfl, ?_⟩) ?_ ?_
            rotate_left
            · intro w'
              go_simp
              with_reducible rfl
            rotate_left
            · simp only [Act.put, List.setIfInBounds_toArray, List.set_cons_zero, List.set_cons_succ, i64_w, i32_w]
              rfl
            refine pure_ (i := 14) (N := some 55) (v := ?_) (a' := ?_) #[true, true, true, true, true, true, true, true, true, true, true, true, true, true, true, true, false, false] rfl rfl (by kernel_rfl) (fun _ _ _ h => h) (Or.inl ⟨by rfl, ?_⟩) ?_ ?_
            rotate_left
            · intro w'
              go_simp
              with_reducible rfl
            rotate_left
            · simp only [Act.put, List.setIfInBounds_toArray, List.set_cons_zero, List.set_cons_succ, i64_w, i32_w]
              rfl
            exact norm_ (by simp only [putAll, Act.put, List.setIfInBounds_toArray, List.set_cons_zero, List.set_cons_succ]) (hCont (wr.heap.size, A7, c7) _ ⟨hHeld, H70.out, HZ.out, HO7.out⟩)
        rintro ⟨g7, A7, c7⟩ w9 ⟨hHeld, h70, hz, ho7⟩
        have H70 := Lib.hid h70; clear h70
        have HZ := Lib.hid hz; clear hz
        have HO7 := Lib.hid ho7; clear ho7
        refine norm_ (a' := ?_) ?_ ?_
        rotate_left
        · simp only [putAll, Act.put, List.setIfInBounds_toArray, List.set_cons_zero, List.set_cons_succ]
          rfl
        refine last_ (i := 16) (N := none) #[true, true, true, true, true, true, true, true, true, true, true, true, true, true, true, true, true, false] rfl rfl (by kernel_rfl) (by decide) (fun K hK => ?_)
        refine skip_ (w1 := w9.setRow g7 #[.slice A7 n7 c7]) (by rfl) rfl (by refine run_strow 44 (.tmp 8) (.tmp 54) ?_ g7 #[.slice A7 n7 c7] ?_ ?_ 44 _ H70.out (by kernel_rfl) rfl (by simp [Value.oneCell']) <;> rfl) ?_
        refine hK.out _ _ ?_
        clear hK K
        refine pure_ (i := 17) (N := some 9) (v := ?_) (a' := ?_) #[true, true, true, true, true, true, true, true, true, true, true, true, true, true, true, true, true, true] rfl rfl (by kernel_rfl) (fun _ _ _ h => h) (Or.inl ⟨by rfl, ?_⟩) ?_ ?_
        rotate_left
        · intro w'
          go_simp
          with_reducible rfl
        rotate_left
        · simp only [Act.put, List.setIfInBounds_toArray, List.set_cons_zero, List.set_cons_succ, i64_w, i32_w]
          rfl
        refine done_ (by kernel_rfl) ?_

        have HV := Lib.hid (show (w9.setRow g7 #[.slice A7 n7 c7]).heap[g7]? = some (.cells #[.slice A7 n7 c7] 44 (0, 0)) from setRow_heap _ _ _ _ _ _ H70.out)
        have HN := Lib.hid (show Below wr.heap.size wr (w9.setRow g7 #[.slice A7 n7 c7]) from hHeld.1.trans ((keeps_setRow (Keeps.refl (Only g7) w9) (.inl rfl) _).to_below hHeld.1.size (fun i hi => by cases hi; exact HZ.out)))
        replace HO7 := Lib.hid (show OwnF (w9.setRow g7 #[.slice A7 n7 c7]) gs 27 4 itC (.slice A7 n7 c7) L7 from HO7.out.keep fun x hx hlt => setRow_other w9 g7 x _ (fun e => HO7.out.ne_type H70.out (by decide) (by rw [hx]; exact congrArg some e)))
        clear hHeld H70 HIR g0
        generalize w9.setRow g7 #[.slice A7 n7 c7] = w2 at *
        replace HM := Lib.hid (HM.out.below HN.out)
        replace H6 := Lib.hid (blk_below H6.out HN.out)
        have g7c : w2.cell? ⟨g7, 0, none⟩ = some (.slice A7 n7 c7) := (blk_cell HV.out 0).trans rfl
        have hg7 := blk_lt HV.out
        have hg6 := blk_lt H6.out
        have g6c : w2.cell? ⟨g6, 0, none⟩ = some (.slice A' n c') := (blk_cell H6.out 0).trans rfl
        have f6 := blk_frozen H6.out 0
        go_wp2
        have HK5 := Lib.hid (show Below gs wr (w2.setCell ⟨g6, 0, none⟩ (.slice A7 n7 c7)) from (HN.out.mono hgl).trans (((Keeps.refl (Only g6) w2).own 0 _).to_below (Nat.le_trans hgl HN.out.size) (fun i hi => by cases hi; exact Nat.le_of_lt HG6.out)))
        replace HM := Lib.hid (HM.out.other H6.out (by decide) (by decide) (by decide) ((Keeps.refl (Only g6) w2).own 0 (.slice A7 n7 c7)))
        replace HO7 := Lib.hid (show OwnF (w2.setCell ⟨g6, 0, none⟩ (.slice A7 n7 c7)) gs 27 4 itC (.slice A7 n7 c7) L7 from HO7.out.keep fun x hx hlt => ((Keeps.refl (Only g6) w2).own 0 (.slice A7 n7 c7)).block x hlt (fun e => by
          have e : x = g6 := e
          subst e
          exact HO7.out.ne_type H6.out (by decide) hx))
        replace H6 := Lib.hid (show (w2.setCell ⟨g6, 0, none⟩ (.slice A7 n7 c7)).heap[g6]? = some (.cells #[.slice A7 n7 c7] 44 (0, 0)) from blk_set H6.out 0 _)
        clear HV g7c hg7 hg6 g6c f6 HN HZ hl6
        generalize w2.setCell ⟨g6, 0, none⟩ (.slice A7 n7 c7) = w5 at *
        replace c0 := (HK5.out.cell (p := ⟨bb, off + i * 4, none⟩) HBG.out).trans c0
        replace c1 := (HK5.out.cell (p := ⟨bb, off + i * 4 + 1, none⟩) HBG.out).trans c1
        replace c2 := (HK5.out.cell (p := ⟨bb, off + i * 4 + 1 + 1, none⟩) HBG.out).trans c2
        replace c3 := (HK5.out.cell (p := ⟨bb, off + i * 4 + 1 + 2, none⟩) HBG.out).trans c3
        replace HB4 := Lib.hid (HB4.out.trans HK5.out)
        have HG5 := Lib.hid (Nat.le_trans hgl HK5.out.size)
        clear hgl hbl HK5 HO
        refine start_ (n := 14) (S := fun w' => w'.cell? ⟨bb, off + i * 4, none⟩ = some (.string k) ∧ w'.cell? ⟨bb, off + i * 4 + 1, none⟩ = some (.int .u64 (x0 : Int)) ∧ w'.cell? ⟨bb, off + i * 4 + 1 + 1, none⟩ = some (.bool x1) ∧ w'.cell? ⟨bb, off + i * 4 + 1 + 2, none⟩ = some (.string x2)) (ds := [11]) #[false, false, false, false, false, false, false, false, false, false, false, false, false, false] (by kernel_rfl) rfl rfl ⟨c0, c1, c2, c3⟩ (fun hHeld => ?_)
        refine pure_ (i := 0) (N := some 57) (v := ?_) (a' := ?_) #[true, false, false, false, false, false, false, false, false, false, false, false, false, false] rfl rfl (by kernel_rfl) (fun _ _ _ h => h) (Or.inl ⟨by rfl, ?_⟩) ?_ ?_
        rotate_left
        · intro w'
          go_simp
          with_reducible rfl
        rotate_left
        · simp only [Act.put, List.setIfInBounds_toArray, List.set_cons_zero, List.set_cons_succ, i64_w, i32_w]
          rfl
        refine pure_ (i := 1) (N := some 58) (v := ?_) (a' := ?_) #[true, true, false, false, false, false, false, false, false, false, false, false, false, false] rfl rfl (by kernel_rfl) (fun _ _ _ h => h) (Or.inl ⟨by rfl, ?_⟩) ?_ ?_
        rotate_left
        · intro w'
          go_simp
          with_reducible rfl
        rotate_left
        · simp only [Act.put, List.setIfInBounds_toArray, List.set_cons_zero, List.set_cons_succ, i64_w, i32_w]
          rfl
        refine pure_ (i := 2) (N := some 59) (v := ?_) (a' := ?_) #[true, true, true, false, false, false, false, false, false, false, false, false, false, false] rfl rfl (by kernel_rfl) (fun _ _ _ h => h) (Or.inl ⟨by rfl, ?_⟩) ?_ ?_
        rotate_left
        · intro w'
          go_simp
          with_reducible rfl
        rotate_left
        · simp only [Act.put, List.setIfInBounds_toArray, List.set_cons_zero, List.set_cons_succ, i64_w, i32_w]
          rfl
        refine pure_ (i := 3) (N := some 60) (v := ?_) (a' := ?_) #[true, true, true, true, false, false, false, false, false, false, false, false, false, false] rfl rfl (by kernel_rfl) (fun _ _ _ h => h) (Or.inl ⟨by rfl, ?_⟩) ?_ ?_
        rotate_left
        · intro w'
          go_simp
          with_reducible rfl
        rotate_left
        · simp only [Act.put, List.setIfInBounds_toArray, List.set_cons_zero, List.set_cons_succ, i64_w, i32_w]
          rfl
        refine pure_ (i := 4) (N := some 61) (v := ?_) (a' := ?_) #[true, true, true, true, true, false, false, false, false, false, false, false, false, false] rfl rfl (by kernel_rfl) (fun _ _ _ h => h) (Or.inl ⟨by rfl, ?_⟩) ?_ ?_
        rotate_left
        · intro w'
          go_simp
          with_reducible rfl
        rotate_left
        · simp only [Act.put, List.setIfInBounds_toArray, List.set_cons_zero, List.set_cons_succ, i64_w, i32_w]
          rfl
        refine pure_ (i := 6) (N := some 63) (v := ?_) (a' := ?_) #[true, true, true, true, true, false, true, false, false, false, false, false, false, false] rfl rfl (by kernel_rfl) (fun _ _ _ h => h) (Or.inl ⟨by rfl, ?_⟩) ?_ ?_
        rotate_left
        · intro w'
          go_simp
          with_reducible rfl
        rotate_left
        · simp only [Act.put, List.setIfInBounds_toArray, List.set_cons_zero, List.set_cons_succ, i64_w, i32_w]
          rfl
        refine pure_ (i := 7) (N := some 64) (v := ?_) (a' := ?_) #[true, true, true, true, true, false, true, true, false, false, false, false, false, false] rfl rfl (by kernel_rfl) (fun _ _ _ h => h) (Or.inl ⟨by rfl, ?_⟩) ?_ ?_
        rotate_left
        · intro w'
          go_simp
          with_reducible rfl
        rotate_left
        · simp only [Act.put, List.setIfInBounds_toArray, List.set_cons_zero, List.set_cons_succ, i64_w, i32_w]
          rfl
        refine pure_ (i := 8) (N := some 65) (v := ?_) (a' := ?_) #[true, true, true, true, true, false, true, true, true, false, false, false, false, false] rfl rfl (by kernel_rfl) (fun _ _ _ h => h) (Or.inl ⟨by rfl, ?_⟩) ?_ ?_
        rotate_left
        · intro w'
          go_simp
          with_reducible rfl
        rotate_left
        · simp only [Act.put, List.setIfInBounds_toArray, List.set_cons_zero, List.set_cons_succ, i64_w, i32_w]
          rfl
        refine pure_ (i := 9) (N := some 66) (v := ?_) (a' := ?_) #[true, true, true, true, true, false, true, true, true, true, false, false, false, false] rfl rfl (by kernel_rfl) (fun _ _ _ h => h) (Or.inl ⟨by rfl, ?_⟩) ?_ ?_
        rotate_left
        · intro w'
          go_simp
          with_reducible rfl
        rotate_left
        · simp only [Act.put, List.setIfInBounds_toArray, List.set_cons_zero, List.set_cons_succ, i64_w, i32_w]
          rfl
        refine pure_ (i := 12) (N := some 69) (v := ?_) (a' := ?_) #[true, true, true, true, true, false, true, true, true, true, false, false, true, false] rfl rfl (by kernel_rfl) (fun _ _ _ h => h) (Or.inl ⟨by rfl, ?_⟩) ?_ ?_
        rotate_left
        · intro w'
          go_simp
          with_reducible rfl
        rotate_left
        · simp only [Act.put, List.setIfInBounds_toArray, List.set_cons_zero, List.set_cons_succ, i64_w, i32_w]
          rfl
        refine take_ (i := 5) (N := some 62) (v := ?_) (a' := ?_) #[true, true, true, true, true, true, true, true, true, true, false, false, true, false] rfl rfl (by kernel_rfl) (fun _ _ _ h => h) (Or.inl ⟨by rfl, ?_⟩) hHeld ?_ ?_
        rotate_left
        · rintro w' ⟨s0, s1, s2, s3⟩
          go_simp
          with_reducible rfl
        rotate_left
        · simp only [Act.put, List.setIfInBounds_toArray, List.set_cons_zero, List.set_cons_succ, i64_w, i32_w]
          rfl
        refine take_ (i := 10) (N := some 67) (v := ?_) (a' := ?_) #[true, true, true, true, true, true, true, true, true, true, true, false, true, false] rfl rfl (by kernel_rfl) (fun _ _ _ h => h) (Or.inl ⟨by rfl, ?_⟩) hHeld ?_ ?_
        rotate_left
        · rintro w' ⟨s0, s1, s2, s3⟩
          go_simp
          with_reducible rfl
        rotate_left
        · simp only [Act.put, List.setIfInBounds_toArray, List.set_cons_zero, List.set_cons_succ, i64_w, i32_w]
          rfl
        refine last_ (i := 11) (N := some 68) #[true, true, true, true, true, true, true, true, true, true, true, true, true, false] rfl rfl (by kernel_rfl) (by decide) (fun K hK => ?_)
        refine goes_ Try.func10 (by kernel_rfl) rfl #[.pointer (some ⟨gs, 0, none⟩), .string k, .agg #[.int .u64 (x0 : Int), .bool x1, .string x2]] (by rfl) rfl rfl (by (try simp only [List.map_toArray, List.map_cons, List.map_nil]); first | done | rfl) ?_
        with_reducible refine ((HIQ.out _ HM.out.drew)).mono ?_
        rintro e w6 ⟨rfl, hk6, v6, es6, hm6, hl6, he1, he2⟩
        refine ⟨_, rfl, ?_⟩
        refine hK.out _ _ ?_
        clear hK K
        refine norm_ (a' := ?_) ?_ ?_
        rotate_left
        · show Act.put _ (some 68) _ = _
          simp only [Act.put, List.setIfInBounds_toArray, List.set_cons_zero, List.set_cons_succ, i64_w, i32_w]
          rfl
        refine pure_ (i := 13) (N := some 70) (v := ?_) (a' := ?_) #[true, true, true, true, true, true, true, true, true, true, true, true, true, true] rfl rfl (by kernel_rfl) (fun _ _ _ h => h) (Or.inl ⟨by rfl, ?_⟩) ?_ ?_
        rotate_left
        · intro w'
          go_simp
          with_reducible rfl
        rotate_left
        · simp only [Act.put, List.setIfInBounds_toArray, List.set_cons_zero, List.set_cons_succ, i64_w, i32_w]
          rfl
        refine done_ (by kernel_rfl) ?_

        have HM6 := Lib.hid hm6; clear hm6
        have H66 := Lib.hid (st_blk HM.out.drew hk6 (blk_drew H6.out) (by decide) (by decide))
        have HO6 := Lib.hid (st_own HM.out.drew hk6 (HO7.out.below (below_drew (Below.refl _ _))) (by decide) (by decide))
        have HB6 := Lib.hid ((below_drew HB4.out).trans (hk6.to_below (show gs ≤ w5.drew.heap.size from HG5.out) (fun j hj => by
          rcases hj with rfl | hj
          · exact Nat.le_refl _
          · exact (HM.out.own.block_ge j hj).1)))
        have HL6 := Lib.hid hl6
        have HR6 := Lib.hid (HST.out es6 HM6.out.ris (fun e he => (HM6.out.ok e he).right) he1 he2)
        clear hk6 hHeld hl6 he1 he2 hlen
        go_wp2
        go_roundw
        case rel =>
          have e := HN7.out
          subst e
          exact ⟨i + 1, v6, es6, A7, c7, L7, by go_num, HLT.out, HM6.out, Nat.le_trans HL6.out (Nat.succ_le_succ HES.out), H66.out, HO6.out, HIL.out, HR6.out, HB6.out⟩
        case measure => first | exact up_w HLT.out hw | exact up_n HLT.out
      · obtain rfl : i = len := by omega
        have HRL := Lib.hid (show L.length ≤ 1000 by omega)
        clear hi hes hL h60 hlt
        obtain ⟨n, hn⟩ : ∃ n, L.length = n := ⟨_, rfl⟩
        rw [hn] at H6 HO HRL
        have HN := Lib.hid hn; clear hn
        have HES := Lib.hid (show es.length ≤ 1000 from HM.out.len)
        have HGW := Lib.hid (show w.heap.size ≤ wr.heap.size from HB.out.size)
        have g0 : wr.cell? ⟨g6, 0, none⟩ = some (.slice A' n c') := (blk_cell H6.out 0).trans rfl
        have HLG := Lib.hid (blk_lt H6.out)
        clear HB4 HB0 hlen
        go_wp2
        generalize wr = W at *
        go_loopw [10] (fun u wr => ∃ (i : Nat), u = .int .i64 i ∧ i ≤ qn ∧ Below W.heap.size W wr) (fun u _ => qn - (intOf u).toNat)
        case atStart => exact ⟨0, rfl, Nat.zero_le _, Below.refl _ _⟩
        case round =>
          obtain ⟨i, rfl, hi, hbw⟩ := hrel
          have HW := Lib.hid hbw; clear hbw
          by_cases hlt : i < qn
          · obtain ⟨bb, off, hj, rfl, hbW, hc⟩ := HQ.out.get i hlt
            replace hc := range_below hc HB.out hbW
            have hpl := HQL.out _ (List.getElem_mem hj)
            obtain ⟨⟨k, t, lo, hk, most⟩, hx⟩ : ∃ x, qs[i] = x := ⟨_, rfl⟩
            rw [hx] at hc hpl
            simp only at hpl
            have HPL := Lib.hid hpl
            have HBL := Lib.hid (show bb < W.heap.size from Nat.lt_of_lt_of_le hbW HGW.out)
            have HA0 := Lib.hid (show W.cell? ⟨bb, off + i * 5, none⟩ = some (.string k) from hc 0 _ rfl)
            have HA1 := Lib.hid (show W.cell? ⟨bb, off + i * 5 + 1, none⟩ = some (.int .u64 (t : Int)) from hc 1 _ rfl)
            have HA2 := Lib.hid (show W.cell? ⟨bb, off + i * 5 + 2, none⟩ = some (.string lo) from hc 2 _ rfl)
            have HA3 := Lib.hid (show W.cell? ⟨bb, off + i * 5 + 3, none⟩ = some (.string hk) from hc 3 _ rfl)
            have HA4 := Lib.hid (show W.cell? ⟨bb, off + i * 5 + 4, none⟩ = some (.int .i64 most) from hc 4 _ rfl)
            clear hc hbW hx hj hpl
            have hw := next_wrap hlt hqn
            have HG0 := Lib.hid g0
            have a0 : wr.cell? ⟨bb, off + i * 5, none⟩ = some (.string k) := (HW.out.cell (p := ⟨bb, off + i * 5, none⟩) HBL.out).trans HA0.out
            have a1 : wr.cell? ⟨bb, off + i * 5 + 1, none⟩ = some (.int .u64 (t : Int)) := (HW.out.cell (p := ⟨bb, off + i * 5 + 1, none⟩) HBL.out).trans HA1.out
            have a2 : wr.cell? ⟨bb, off + i * 5 + 2, none⟩ = some (.string lo) := (HW.out.cell (p := ⟨bb, off + i * 5 + 2, none⟩) HBL.out).trans HA2.out
            have a3 : wr.cell? ⟨bb, off + i * 5 + 3, none⟩ = some (.string hk) := (HW.out.cell (p := ⟨bb, off + i * 5 + 3, none⟩) HBL.out).trans HA3.out
            have a4 : wr.cell? ⟨bb, off + i * 5 + 4, none⟩ = some (.int .i64 most) := (HW.out.cell (p := ⟨bb, off + i * 5 + 4, none⟩) HBL.out).trans HA4.out
            have s6 : wr.cell? ⟨g6, 0, none⟩ = some (.slice A' n c') := (HW.out.cell (p := ⟨g6, 0, none⟩) HLG.out).trans HG0.out
            have hbl := Nat.lt_of_lt_of_le HBL.out HW.out.size
            have hl6 := Nat.lt_of_lt_of_le HLG.out HW.out.size
            by_cases z1 : 300 < k.size
            · have y1 : decide (300 < (k.size : Int)) = true := by simp; omega
              have y1n := decide_eq_true z1
              go_wp2
              go_ret
              exact ⟨rfl, HB.out.trans (HW.out.mono HGW.out)⟩
            have y1 : decide (300 < (k.size : Int)) = false := by simp; omega
            have y1n := decide_eq_false z1
            by_cases z2 : 300 < lo.size
            · have y1 : decide (300 < (lo.size : Int)) = true := by simp; omega
              have y1n := decide_eq_true z2
              go_wp2
              go_ret
              exact ⟨rfl, HB.out.trans (HW.out.mono HGW.out)⟩
            have y2 : decide (300 < (lo.size : Int)) = false := by simp; omega
            have y2n := decide_eq_false z2
            by_cases z3 : 300 < hk.size
            · have y1 : decide (300 < (hk.size : Int)) = true := by simp; omega
              have y1n := decide_eq_true z3
              go_wp2
              go_ret
              exact ⟨rfl, HB.out.trans (HW.out.mono HGW.out)⟩
            have y3 : decide (300 < (hk.size : Int)) = false := by simp; omega
            have y3n := decide_eq_false z3
            go_wp2
            clear y1 y1n y2 y2n y3 y3n
            have HAT := Lib.hid (fun Wx (hm : MSt Wx gs gs v es) => mat_any gs gs t v es k Wx hm)
            have HRT := Lib.hid (fun Wx (hA : RowF Wx 4 itC A' n L) => rat_any A' n c' t L k Wx hA HRL.out)
            have HRZ := Lib.hid (fun Wx (hA : RowF Wx 4 itC A' n L) => rlast_any A' n c' L k Wx hA HRL.out)
            have HRM := Lib.hid (fun Wx (hm : MSt Wx gs gs v es) => room_any gs gs v es k Wx hm)
            have HLA := Lib.hid (fun Wx (hm : MSt Wx gs gs v es) => last_any gs gs v es k Wx hm)
            have HSC := Lib.hid (fun Wx (hm : MSt Wx gs gs v es) => scan_any gs gs t most v es lo hk Wx hm HPL.out.2.1 HPL.out.2.2)
            have HRS := Lib.hid (fun Wx (hA : RowF Wx 4 itC A' n L) => rscan_any A' n c' t most L lo hk Wx hA HRL.out HPL.out.2.1 HPL.out.2.2)
            have e1 := HR.out.at_ k t
            have e2 := HR.out.last k
            have e3 := HR.out.scan HM.out.ris lo hk t most
            simp only [e1] at HRT
            simp only [e2] at HRZ
            simp only [e3] at HRS
            clear e1 e2 e3
            obtain ⟨⟨⟨y, gn, sv⟩, ok⟩, hat⟩ : ∃ r, atF (chS es k) t = r := ⟨_, rfl⟩
            simp only [hat] at HRT HAT
            obtain ⟨R, hR⟩ : ∃ R, scanL hk t most (fromS (es.map pr) lo) [] = R := ⟨_, rfl⟩
            simp only [hR] at HSC HRS
            have HRn := Lib.hid (show R.length ≤ 140737488351232 by
              rw [← hR]
              refine Nat.le_trans (scan_len _ _) ?_
              have h1 : (fromS (es.map pr) lo).length ≤ (es.map pr).length := List.length_filter_le _ _
              rw [List.length_map] at h1
              have := HES.out
              simp only [List.length_nil]
              omega)
            obtain ⟨lt, hlt2⟩ : ∃ r, lastS (chS es k) = r := ⟨_, rfl⟩
            obtain ⟨ln, hln⟩ : ∃ r, (chS es k).length = r := ⟨_, rfl⟩
            simp only [hlt2, hln] at HRZ HRM HLA
            obtain ⟨bq, hbq⟩ : ∃ r, decide (ln < 200) = r := ⟨_, rfl⟩
            simp only [hbq] at HRM
            have r1 : decide ((ln : Int) < 200) = bq := by rw [← hbq]; simp; omega
            have r2 : (bq != bq) = false := by simp
            have HLT := Lib.hid hlt
            have HWR := Lib.hid (HO.out.row itC_len)
            clear hat hR hlt2 hln z1 z2 z3
            refine start_ (n := 18) (S := fun w' => Below wr.heap.size wr w' ∧ w'.cell? ⟨bb, off + i * 5, none⟩ = some (.string k) ∧ w'.cell? ⟨bb, off + i * 5 + 1, none⟩ = some (.int .u64 (t : Int)) ∧ w'.cell? ⟨bb, off + i * 5 + 2, none⟩ = some (.string lo) ∧ w'.cell? ⟨bb, off + i * 5 + 3, none⟩ = some (.string hk) ∧ w'.cell? ⟨bb, off + i * 5 + 4, none⟩ = some (.int .i64 most) ∧ w'.cell? ⟨g6, 0, none⟩ = some (.slice A' n c')) (ds := [16]) #[false, false, false, false, false, false, false, false, false, false, false, false, false, false, false, false, false, false] (by kernel_rfl) rfl rfl ⟨(below_drew (Below.refl _ _)), a0, a1, a2, a3, a4, s6⟩ (fun hHeld => ?_)
            refine pure_ (i := 0) (N := some 103) (v := ?_) (a' := ?_) #[true, false, false, false, false, false, false, false, false, false, false, false, false, false, false, false, false, false] rfl rfl (by kernel_rfl) (fun _ _ _ h => h) (Or.inl ⟨by rfl, ?_⟩) ?_ ?_
            rotate_left
            · intro w'
              go_simp
              with_reducible rfl
            rotate_left
            · simp only [Act.put, List.setIfInBounds_toArray, List.set_cons_zero, List.set_cons_succ, i64_w, i32_w]
              rfl
            refine pure_ (i := 1) (N := some 104) (v := ?_) (a' := ?_) #[true, true, false, false, false, false, false, false, false, false, false, false, false, false, false, false, false, false] rfl rfl (by kernel_rfl) (fun _ _ _ h => h) (Or.inl ⟨by rfl, ?_⟩) ?_ ?_
            rotate_left
            · intro w'
              go_simp
              with_reducible rfl
            rotate_left
            · simp only [Act.put, List.setIfInBounds_toArray, List.set_cons_zero, List.set_cons_succ, i64_w, i32_w]
              rfl
            refine pure_ (i := 2) (N := some 105) (v := ?_) (a' := ?_) #[true, true, true, false, false, false, false, false, false, false, false, false, false, false, false, false, false, false] rfl rfl (by kernel_rfl) (fun _ _ _ h => h) (Or.inl ⟨by rfl, ?_⟩) ?_ ?_
            rotate_left
            · intro w'
              go_simp
              with_reducible rfl
            rotate_left
            · simp only [Act.put, List.setIfInBounds_toArray, List.set_cons_zero, List.set_cons_succ, i64_w, i32_w]
              rfl
            refine pure_ (i := 3) (N := some 106) (v := ?_) (a' := ?_) #[true, true, true, true, false, false, false, false, false, false, false, false, false, false, false, false, false, false] rfl rfl (by kernel_rfl) (fun _ _ _ h => h) (Or.inl ⟨by rfl, ?_⟩) ?_ ?_
            rotate_left
            · intro w'
              go_simp
              with_reducible rfl
            rotate_left
            · simp only [Act.put, List.setIfInBounds_toArray, List.set_cons_zero, List.set_cons_succ, i64_w, i32_w]
              rfl
            refine pure_ (i := 4) (N := some 107) (v := ?_) (a' := ?_) #[true, true, true, true, true, false, false, false, false, false, false, false, false, false, false, false, false, false] rfl rfl (by kernel_rfl) (fun _ _ _ h => h) (Or.inl ⟨by rfl, ?_⟩) ?_ ?_
            rotate_left
            · intro w'
              go_simp
              with_reducible rfl
            rotate_left
            · simp only [Act.put, List.setIfInBounds_toArray, List.set_cons_zero, List.set_cons_succ, i64_w, i32_w]
              rfl
            refine pure_ (i := 6) (N := some 109) (v := ?_) (a' := ?_) #[true, true, true, true, true, false, true, false, false, false, false, false, false, false, false, false, false, false] rfl rfl (by kernel_rfl) (fun _ _ _ h => h) (Or.inl ⟨by rfl, ?_⟩) ?_ ?_
            rotate_left
            · intro w'
              go_simp
              with_reducible rfl
            rotate_left
            · simp only [Act.put, List.setIfInBounds_toArray, List.set_cons_zero, List.set_cons_succ, i64_w, i32_w]
              rfl
            refine pure_ (i := 7) (N := some 110) (v := ?_) (a' := ?_) #[true, true, true, true, true, false, true, true, false, false, false, false, false, false, false, false, false, false] rfl rfl (by kernel_rfl) (fun _ _ _ h => h) (Or.inl ⟨by rfl, ?_⟩) ?_ ?_
            rotate_left
            · intro w'
              go_simp
              with_reducible rfl
            rotate_left
            · simp only [Act.put, List.setIfInBounds_toArray, List.set_cons_zero, List.set_cons_succ, i64_w, i32_w]
              rfl
            refine pure_ (i := 8) (N := some 111) (v := ?_) (a' := ?_) #[true, true, true, true, true, false, true, true, true, false, false, false, false, false, false, false, false, false] rfl rfl (by kernel_rfl) (fun _ _ _ h => h) (Or.inl ⟨by rfl, ?_⟩) ?_ ?_
            rotate_left
            · intro w'
              go_simp
              with_reducible rfl
            rotate_left
            · simp only [Act.put, List.setIfInBounds_toArray, List.set_cons_zero, List.set_cons_succ, i64_w, i32_w]
              rfl
            refine pure_ (i := 9) (N := some 112) (v := ?_) (a' := ?_) #[true, true, true, true, true, false, true, true, true, true, false, false, false, false, false, false, false, false] rfl rfl (by kernel_rfl) (fun _ _ _ h => h) (Or.inl ⟨by rfl, ?_⟩) ?_ ?_
            rotate_left
            · intro w'
              go_simp
              with_reducible rfl
            rotate_left
            · simp only [Act.put, List.setIfInBounds_toArray, List.set_cons_zero, List.set_cons_succ, i64_w, i32_w]
              rfl
            refine take_ (i := 5) (N := some 108) (v := ?_) (a' := ?_) #[true, true, true, true, true, true, true, true, true, true, false, false, false, false, false, false, false, false] rfl rfl (by kernel_rfl) (fun _ _ _ h => h) (Or.inl ⟨by rfl, ?_⟩) hHeld ?_ ?_
            rotate_left
            · rintro w' ⟨s0, s1, s2, s3, s4, s5, s6⟩
              go_simp
              with_reducible rfl
            rotate_left
            · simp only [Act.put, List.setIfInBounds_toArray, List.set_cons_zero, List.set_cons_succ, i64_w, i32_w]
              rfl
            refine take_ (i := 10) (N := some 113) (v := ?_) (a' := ?_) #[true, true, true, true, true, true, true, true, true, true, true, false, false, false, false, false, false, false] rfl rfl (by kernel_rfl) (fun _ _ _ h => h) (Or.inl ⟨by rfl, ?_⟩) hHeld ?_ ?_
            rotate_left
            · rintro w' ⟨s0, s1, s2, s3, s4, s5, s6⟩
              go_simp
              with_reducible rfl
            rotate_left
            · simp only [Act.put, List.setIfInBounds_toArray, List.set_cons_zero, List.set_cons_succ, i64_w, i32_w]
              rfl
            refine join_ (σ := Nat) 2 #[true, true, true, true, true, true, true, true, true, true, true, true, true, true, true, true, false, false] (fun s => [(114, .tuple #[.agg #[.int .u64 (y : Int), .bool gn, .string sv], .bool ok]), (102, .tuple #[.agg #[.int .u64 (y : Int), .bool gn, .string sv], .bool ok]), (115, .agg #[.int .u64 (y : Int), .bool gn, .string sv]), (116, .bool ok), (11, .pointer (some ⟨s, 0, none⟩))]) (fun s w' => (Below wr.heap.size wr w' ∧ w'.cell? ⟨bb, off + i * 5, none⟩ = some (.string k) ∧ w'.cell? ⟨bb, off + i * 5 + 1, none⟩ = some (.int .u64 (t : Int)) ∧ w'.cell? ⟨bb, off + i * 5 + 2, none⟩ = some (.string lo) ∧ w'.cell? ⟨bb, off + i * 5 + 3, none⟩ = some (.string hk) ∧ w'.cell? ⟨bb, off + i * 5 + 4, none⟩ = some (.int .i64 most) ∧ w'.cell? ⟨g6, 0, none⟩ = some (.slice A' n c')) ∧ w'.heap[s]? = some (.cells #[.int .u64 0, .bool false, .string ⟨#[]⟩] 25 (0, 0)) ∧ wr.heap.size ≤ s) ?_ ?_
            rotate_left
            · intro hCont
              refine two_ (i := 11) (j := 15) (Ni := some 114) (Nj := some 11) #[true, true, true, true, true, true, true, true, true, true, true, true, false, false, false, false, false, false] #[true, true, true, true, true, true, true, true, true, true, true, false, false, false, false, true, false, false] rfl rfl rfl rfl (by kernel_rfl) (by decide) (by decide) (fun K hK => ?_) (fun K hK => ?_)
              · skip
                refine goes_ Try.func11 (by kernel_rfl) rfl #[.pointer (some ⟨gs, 0, none⟩), .string k, .int .u64 (t : Int)] (by rfl) rfl rfl (by (try simp only [List.map_toArray, List.map_cons, List.map_nil]); first | done | rfl) ?_
                with_reducible refine ((HAT.out _ (HM.out.below (HW.out.trans (hHeld.1.mono HW.out.size))))).mono ?_
                rintro e w8 ⟨rfl, hb8⟩
                refine ⟨_, rfl, ?_⟩
                have HN := Lib.hid (hHeld.1.trans (hb8.mono hHeld.1.size))
                refine hK.out _ _ ⟨HN.out, (HN.out.cell (p := ⟨bb, off + i * 5, none⟩) hbl).trans a0, (HN.out.cell (p := ⟨bb, off + i * 5 + 1, none⟩) hbl).trans a1, (HN.out.cell (p := ⟨bb, off + i * 5 + 2, none⟩) hbl).trans a2, (HN.out.cell (p := ⟨bb, off + i * 5 + 3, none⟩) hbl).trans a3, (HN.out.cell (p := ⟨bb, off + i * 5 + 4, none⟩) hbl).trans a4, (HN.out.cell (p := ⟨g6, 0, none⟩) hl6).trans s6⟩ (fun hHeld => ?_)
                clear hK K
                refine norm_ (a' := ?_) ?_ ?_
                rotate_left
                · show Act.put _ (some 114) _ = _
                  simp only [Act.put, List.setIfInBounds_toArray, List.set_cons_zero, List.set_cons_succ, i64_w, i32_w]
                  rfl
                refine pure_ (i := 12) (N := some 102) (v := ?_) (a' := ?_) #[true, true, true, true, true, true, true, true, true, true, true, true, true, false, false, false, false, false] rfl rfl (by kernel_rfl) (fun _ _ _ h => h) (Or.inl ⟨by rfl, ?_⟩) ?_ ?_
                rotate_left
                · intro w'
                  go_simp
                  with_reducible rfl
                rotate_left
                · simp only [Act.put, List.setIfInBounds_toArray, List.set_cons_zero, List.set_cons_succ, i64_w, i32_w]
                  rfl
                refine pure_ (i := 13) (N := some 115) (v := ?_) (a' := ?_) #[true, true, true, true, true, true, true, true, true, true, true, true, true, true, false, false, false, false] rfl rfl (by kernel_rfl) (fun _ _ _ h => h) (Or.inl ⟨by rfl, ?_⟩) ?_ ?_
                rotate_left
                · intro w'
                  go_simp
                  with_reducible rfl
                rotate_left
                · simp only [Act.put, List.setIfInBounds_toArray, List.set_cons_zero, List.set_cons_succ, i64_w, i32_w]
                  rfl
                refine pure_ (i := 14) (N := some 116) (v := ?_) (a' := ?_) #[true, true, true, true, true, true, true, true, true, true, true, true, true, true, true, false, false, false] rfl rfl (by kernel_rfl) (fun _ _ _ h => h) (Or.inl ⟨by rfl, ?_⟩) ?_ ?_
                rotate_left
                · intro w'
                  go_simp
                  with_reducible rfl
                rotate_left
                · simp only [Act.put, List.setIfInBounds_toArray, List.set_cons_zero, List.set_cons_succ, i64_w, i32_w]
                  rfl
                refine one_ (i := 15) (N := some 11) #[true, true, true, true, true, true, true, true, true, true, true, true, true, true, true, true, false, false] rfl rfl (by kernel_rfl) (by decide) (fun K hK => ?_)
                refine value_ (w1 := ?_) (v := ?_) (by rfl) rfl ?_ ?_
                rotate_left 2
                · go_simp
                  constructor
                  · rfl
                  · rfl
                have H70 := Lib.hid (blk_new w8 (.cells #[.int .u64 0, .bool false, .string ⟨#[]⟩] 25))
                have HN := Lib.hid (hHeld.1.alloc hHeld.1.size (.cells #[.int .u64 0, .bool false, .string ⟨#[]⟩] 25))
                have HZ := Lib.hid (show wr.heap.size ≤ w8.heap.size from hHeld.1.size)
                refine hK.out _ _ ⟨HN.out, (HN.out.cell (p := ⟨bb, off + i * 5, none⟩) hbl).trans a0, (HN.out.cell (p := ⟨bb, off + i * 5 + 1, none⟩) hbl).trans a1, (HN.out.cell (p := ⟨bb, off + i * 5 + 2, none⟩) hbl).trans a2, (HN.out.cell (p := ⟨bb, off + i * 5 + 3, none⟩) hbl).trans a3, (HN.out.cell (p := ⟨bb, off + i * 5 + 4, none⟩) hbl).trans a4, (HN.out.cell (p := ⟨g6, 0, none⟩) hl6).trans s6⟩ (fun hHeld => ?_)
                clear hK K
                refine norm_ (a' := ?_) ?_ ?_
                rotate_left
                · show Act.put _ (some 11) _ = _
                  simp only [Act.put, List.setIfInBounds_toArray, List.set_cons_zero, List.set_cons_succ, i64_w, i32_w]
                  rfl
                exact norm_ (by simp only [putAll, Act.put, List.setIfInBounds_toArray, List.set_cons_zero, List.set_cons_succ]) (hCont w8.heap.size _ ⟨hHeld, H70.out, HZ.out⟩)
              · skip
                refine value_ (w1 := ?_) (v := ?_) (by rfl) rfl ?_ ?_
                rotate_left 2
                · go_simp
                  constructor
                  · rfl
                  · rfl
                have H70 := Lib.hid (blk_new wr.drew (.cells #[.int .u64 0, .bool false, .string ⟨#[]⟩] 25))
                have HN := Lib.hid (hHeld.1.alloc hHeld.1.size (.cells #[.int .u64 0, .bool false, .string ⟨#[]⟩] 25))
                have HZ := Lib.hid (show wr.heap.size ≤ wr.drew.heap.size from hHeld.1.size)
                refine hK.out _ _ ⟨HN.out, (HN.out.cell (p := ⟨bb, off + i * 5, none⟩) hbl).trans a0, (HN.out.cell (p := ⟨bb, off + i * 5 + 1, none⟩) hbl).trans a1, (HN.out.cell (p := ⟨bb, off + i * 5 + 2, none⟩) hbl).trans a2, (HN.out.cell (p := ⟨bb, off + i * 5 + 3, none⟩) hbl).trans a3, (HN.out.cell (p := ⟨bb, off + i * 5 + 4, none⟩) hbl).trans a4, (HN.out.cell (p := ⟨g6, 0, none⟩) hl6).trans s6⟩ (fun hHeld => ?_)
                clear hK K
                refine norm_ (a' := ?_) ?_ ?_
                rotate_left
                · show Act.put _ (some 11) _ = _
                  simp only [Act.put, List.setIfInBounds_toArray, List.set_cons_zero, List.set_cons_succ, i64_w, i32_w]
                  rfl
                refine one_ (i := 11) (N := some 114) #[true, true, true, true, true, true, true, true, true, true, true, true, false, false, false, true, false, false] rfl rfl (by kernel_rfl) (by decide) (fun K hK => ?_)
                refine goes_ Try.func11 (by kernel_rfl) rfl #[.pointer (some ⟨gs, 0, none⟩), .string k, .int .u64 (t : Int)] (by rfl) rfl rfl (by (try simp only [List.map_toArray, List.map_cons, List.map_nil]); first | done | rfl) ?_
                with_reducible refine ((HAT.out _ (HM.out.below (HW.out.trans (hHeld.1.mono HW.out.size))))).mono ?_
                rintro e w8 ⟨rfl, hb8⟩
                refine ⟨_, rfl, ?_⟩
                have HN := Lib.hid (hHeld.1.trans (hb8.mono hHeld.1.size))
                replace H70 := Lib.hid (blk_below H70.out hb8)
                refine hK.out _ _ ⟨HN.out, (HN.out.cell (p := ⟨bb, off + i * 5, none⟩) hbl).trans a0, (HN.out.cell (p := ⟨bb, off + i * 5 + 1, none⟩) hbl).trans a1, (HN.out.cell (p := ⟨bb, off + i * 5 + 2, none⟩) hbl).trans a2, (HN.out.cell (p := ⟨bb, off + i * 5 + 3, none⟩) hbl).trans a3, (HN.out.cell (p := ⟨bb, off + i * 5 + 4, none⟩) hbl).trans a4, (HN.out.cell (p := ⟨g6, 0, none⟩) hl6).trans s6⟩ (fun hHeld => ?_)
                clear hK K
                refine norm_ (a' := ?_) ?_ ?_
                rotate_left
                · show Act.put _ (some 114) _ = _
                  simp only [Act.put, List.setIfInBounds_toArray, List.set_cons_zero, List.set_cons_succ, i64_w, i32_w]
                  rfl
                refine pure_ (i := 12) (N := some 102) (v := ?_) (a' := ?_) #[true, true, true, true, true, true, true, true, true, true, true, true, true, false, false, true, false, false] rfl rfl (by kernel_rfl) (fun _ _ _ h => h) (Or.inl ⟨by rfl, ?_⟩) ?_ ?_
                rotate_left
                · intro w'
                  go_simp
                  with_reducible rfl
                rotate_left
                · simp only [Act.put, List.setIfInBounds_toArray, List.set_cons_zero, List.set_cons_succ, i64_w, i32_w]
                  rfl
                refine pure_ (i := 13) (N := some 115) (v := ?_) (a' := ?_) #[true, true, true, true, true, true, true, true, true, true, true, true, true, true, false, true, false, false] rfl rfl (by kernel_rfl) (fun _ _ _ h => h) (Or.inl ⟨by rfl, ?_⟩) ?_ ?_
                rotate_left
                · intro w'
                  go_simp
                  with_reducible rfl
                rotate_left
                · simp only [Act.put, List.setIfInBounds_toArray, List.set_cons_zero, List.set_cons_succ, i64_w, i32_w]
                  rfl
                refine pure_ (i := 14) (N := some 116) (v := ?_) (a' := ?_) #[true, true, true, true, true, true, true, true, true, true, true, true, true, true, true, true, false, false] rfl rfl (by kernel_rfl) (fun _ _ _ h => h) (Or.inl ⟨by rfl, ?_⟩) ?_ ?_
                rotate_left
                · intro w'
                  go_simp
                  with_reducible rfl
                rotate_left
                · simp only [Act.put, List.setIfInBounds_toArray, List.set_cons_zero, List.set_cons_succ, i64_w, i32_w]
                  rfl
                exact norm_ (by simp only [putAll, Act.put, List.setIfInBounds_toArray, List.set_cons_zero, List.set_cons_succ]) (hCont wr.heap.size _ ⟨hHeld, H70.out, HZ.out⟩)
            rintro g11 w9 ⟨hHeld, h70, hz⟩
            have H70 := Lib.hid h70; clear h70
            have HZ := Lib.hid hz; clear hz
            refine norm_ (a' := ?_) ?_ ?_
            rotate_left
            · simp only [putAll, Act.put, List.setIfInBounds_toArray, List.set_cons_zero, List.set_cons_succ]
              rfl
            refine last_ (i := 16) (N := none) #[true, true, true, true, true, true, true, true, true, true, true, true, true, true, true, true, true, false] rfl rfl (by kernel_rfl) (by decide) (fun K hK => ?_)
            refine skip_ (w1 := w9.setRow g11 #[.int .u64 (y : Int), .bool gn, .string sv]) (by rfl) rfl (by refine run_strow 25 (.tmp 11) (.tmp 115) ?_ g11 #[.int .u64 (y : Int), .bool gn, .string sv] ?_ ?_ 25 _ H70.out (by kernel_rfl) rfl (by simp [Value.oneCell']) <;> rfl) ?_
            refine hK.out _ _ ?_
            clear hK K
            refine pure_ (i := 17) (N := some 12) (v := ?_) (a' := ?_) #[true, true, true, true, true, true, true, true, true, true, true, true, true, true, true, true, true, true] rfl rfl (by kernel_rfl) (fun _ _ _ h => h) (Or.inl ⟨by rfl, ?_⟩) ?_ ?_
            rotate_left
            · intro w'
              go_simp
              with_reducible rfl
            rotate_left
            · simp only [Act.put, List.setIfInBounds_toArray, List.set_cons_zero, List.set_cons_succ, i64_w, i32_w]
              rfl
            refine done_ (by kernel_rfl) ?_

            have HN := Lib.hid (show Below wr.heap.size wr (w9.setRow g11 #[.int .u64 (y : Int), .bool gn, .string sv]) from hHeld.1.trans ((keeps_setRow (Keeps.refl (Only g11) w9) (.inl rfl) _).to_below hHeld.1.size (fun i hi => by cases hi; exact HZ.out)))
            have Hg11 := Lib.hid (show (w9.setRow g11 #[.int .u64 (y : Int), .bool gn, .string sv]).heap[g11]? = some (.cells #[.int .u64 (y : Int), .bool gn, .string sv] 25 (0, 0)) from setRow_heap _ _ _ _ _ _ H70.out)
            clear hHeld H70 HZ
            generalize w9.setRow g11 #[.int .u64 (y : Int), .bool gn, .string sv] = w2 at *
            replace HW := Lib.hid (HW.out.trans (HN.out.mono HW.out.size))
            clear HN a0 a1 a2 a3 a4 s6 hbl hl6
            have a0 : w2.cell? ⟨bb, off + i * 5, none⟩ = some (.string k) := (HW.out.cell (p := ⟨bb, off + i * 5, none⟩) HBL.out).trans HA0.out
            have a1 : w2.cell? ⟨bb, off + i * 5 + 1, none⟩ = some (.int .u64 (t : Int)) := (HW.out.cell (p := ⟨bb, off + i * 5 + 1, none⟩) HBL.out).trans HA1.out
            have a2 : w2.cell? ⟨bb, off + i * 5 + 2, none⟩ = some (.string lo) := (HW.out.cell (p := ⟨bb, off + i * 5 + 2, none⟩) HBL.out).trans HA2.out
            have a3 : w2.cell? ⟨bb, off + i * 5 + 3, none⟩ = some (.string hk) := (HW.out.cell (p := ⟨bb, off + i * 5 + 3, none⟩) HBL.out).trans HA3.out
            have a4 : w2.cell? ⟨bb, off + i * 5 + 4, none⟩ = some (.int .i64 most) := (HW.out.cell (p := ⟨bb, off + i * 5 + 4, none⟩) HBL.out).trans HA4.out
            have s6 : w2.cell? ⟨g6, 0, none⟩ = some (.slice A' n c') := (HW.out.cell (p := ⟨g6, 0, none⟩) HLG.out).trans HG0.out
            have hbl := Nat.lt_of_lt_of_le HBL.out HW.out.size
            have hl6 := Nat.lt_of_lt_of_le HLG.out HW.out.size
            as_aux_lemma =>
              go_wp2
              refine start_ (n := 18) (S := fun w' => Below w2.heap.size w2 w' ∧ w'.cell? ⟨bb, off + i * 5, none⟩ = some (.string k) ∧ w'.cell? ⟨bb, off + i * 5 + 1, none⟩ = some (.int .u64 (t : Int)) ∧ w'.cell? ⟨bb, off + i * 5 + 2, none⟩ = some (.string lo) ∧ w'.cell? ⟨bb, off + i * 5 + 3, none⟩ = some (.string hk) ∧ w'.cell? ⟨bb, off + i * 5 + 4, none⟩ = some (.int .i64 most) ∧ w'.cell? ⟨g6, 0, none⟩ = some (.slice A' n c')) (ds := [16]) #[false, false, false, false, false, false, false, false, false, false, false, false, false, false, false, false, false, false] (by kernel_rfl) rfl rfl ⟨(below_drew (Below.refl _ _)), a0, a1, a2, a3, a4, s6⟩ (fun hHeld => ?_)
              refine pure_ (i := 1) (N := some 119) (v := ?_) (a' := ?_) #[false, true, false, false, false, false, false, false, false, false, false, false, false, false, false, false, false, false] rfl rfl (by kernel_rfl) (fun _ _ _ h => h) (Or.inl ⟨by rfl, ?_⟩) ?_ ?_
              rotate_left
              · intro w'
                go_simp
                with_reducible rfl
              rotate_left
              · simp only [Act.put, List.setIfInBounds_toArray, List.set_cons_zero, List.set_cons_succ, i64_w, i32_w]
                rfl
              refine pure_ (i := 2) (N := some 120) (v := ?_) (a' := ?_) #[false, true, true, false, false, false, false, false, false, false, false, false, false, false, false, false, false, false] rfl rfl (by kernel_rfl) (fun _ _ _ h => h) (Or.inl ⟨by rfl, ?_⟩) ?_ ?_
              rotate_left
              · intro w'
                go_simp
                with_reducible rfl
              rotate_left
              · simp only [Act.put, List.setIfInBounds_toArray, List.set_cons_zero, List.set_cons_succ, i64_w, i32_w]
                rfl
              refine pure_ (i := 3) (N := some 121) (v := ?_) (a' := ?_) #[false, true, true, true, false, false, false, false, false, false, false, false, false, false, false, false, false, false] rfl rfl (by kernel_rfl) (fun _ _ _ h => h) (Or.inl ⟨by rfl, ?_⟩) ?_ ?_
              rotate_left
              · intro w'
                go_simp
                with_reducible rfl
              rotate_left
              · simp only [Act.put, List.setIfInBounds_toArray, List.set_cons_zero, List.set_cons_succ, i64_w, i32_w]
                rfl
              refine pure_ (i := 4) (N := some 122) (v := ?_) (a' := ?_) #[false, true, true, true, true, false, false, false, false, false, false, false, false, false, false, false, false, false] rfl rfl (by kernel_rfl) (fun _ _ _ h => h) (Or.inl ⟨by rfl, ?_⟩) ?_ ?_
              rotate_left
              · intro w'
                go_simp
                with_reducible rfl
              rotate_left
              · simp only [Act.put, List.setIfInBounds_toArray, List.set_cons_zero, List.set_cons_succ, i64_w, i32_w]
                rfl
              refine pure_ (i := 6) (N := some 124) (v := ?_) (a' := ?_) #[false, true, true, true, true, false, true, false, false, false, false, false, false, false, false, false, false, false] rfl rfl (by kernel_rfl) (fun _ _ _ h => h) (Or.inl ⟨by rfl, ?_⟩) ?_ ?_
              rotate_left
              · intro w'
                go_simp
                with_reducible rfl
              rotate_left
              · simp only [Act.put, List.setIfInBounds_toArray, List.set_cons_zero, List.set_cons_succ, i64_w, i32_w]
                rfl
              refine pure_ (i := 7) (N := some 125) (v := ?_) (a' := ?_) #[false, true, true, true, true, false, true, true, false, false, false, false, false, false, false, false, false, false] rfl rfl (by kernel_rfl) (fun _ _ _ h => h) (Or.inl ⟨by rfl, ?_⟩) ?_ ?_
              rotate_left
              · intro w'
                go_simp
                with_reducible rfl
              rotate_left
              · simp only [Act.put, List.setIfInBounds_toArray, List.set_cons_zero, List.set_cons_succ, i64_w, i32_w]
                rfl
              refine pure_ (i := 8) (N := some 126) (v := ?_) (a' := ?_) #[false, true, true, true, true, false, true, true, true, false, false, false, false, false, false, false, false, false] rfl rfl (by kernel_rfl) (fun _ _ _ h => h) (Or.inl ⟨by rfl, ?_⟩) ?_ ?_
              rotate_left
              · intro w'
                go_simp
                with_reducible rfl
              rotate_left
              · simp only [Act.put, List.setIfInBounds_toArray, List.set_cons_zero, List.set_cons_succ, i64_w, i32_w]
                rfl
              refine pure_ (i := 9) (N := some 127) (v := ?_) (a' := ?_) #[false, true, true, true, true, false, true, true, true, true, false, false, false, false, false, false, false, false] rfl rfl (by kernel_rfl) (fun _ _ _ h => h) (Or.inl ⟨by rfl, ?_⟩) ?_ ?_
              rotate_left
              · intro w'
                go_simp
                with_reducible rfl
              rotate_left
              · simp only [Act.put, List.setIfInBounds_toArray, List.set_cons_zero, List.set_cons_succ, i64_w, i32_w]
                rfl
              refine take_ (i := 0) (N := some 118) (v := ?_) (a' := ?_) #[true, true, true, true, true, false, true, true, true, true, false, false, false, false, false, false, false, false] rfl rfl (by kernel_rfl) (fun _ _ _ h => h) (Or.inl ⟨by rfl, ?_⟩) hHeld ?_ ?_
              rotate_left
              · rintro w' ⟨s0, s1, s2, s3, s4, s5, s6⟩
                go_simp
                with_reducible rfl
              rotate_left
              · simp only [Act.put, List.setIfInBounds_toArray, List.set_cons_zero, List.set_cons_succ, i64_w, i32_w]
                rfl
              refine take_ (i := 5) (N := some 123) (v := ?_) (a' := ?_) #[true, true, true, true, true, true, true, true, true, true, false, false, false, false, false, false, false, false] rfl rfl (by kernel_rfl) (fun _ _ _ h => h) (Or.inl ⟨by rfl, ?_⟩) hHeld ?_ ?_
              rotate_left
              · rintro w' ⟨s0, s1, s2, s3, s4, s5, s6⟩
                go_simp
                with_reducible rfl
              rotate_left
              · simp only [Act.put, List.setIfInBounds_toArray, List.set_cons_zero, List.set_cons_succ, i64_w, i32_w]
                rfl
              refine take_ (i := 10) (N := some 128) (v := ?_) (a' := ?_) #[true, true, true, true, true, true, true, true, true, true, true, false, false, false, false, false, false, false] rfl rfl (by kernel_rfl) (fun _ _ _ h => h) (Or.inl ⟨by rfl, ?_⟩) hHeld ?_ ?_
              rotate_left
              · rintro w' ⟨s0, s1, s2, s3, s4, s5, s6⟩
                go_simp
                with_reducible rfl
              rotate_left
              · simp only [Act.put, List.setIfInBounds_toArray, List.set_cons_zero, List.set_cons_succ, i64_w, i32_w]
                rfl
              refine join_ (σ := Nat) 2 #[true, true, true, true, true, true, true, true, true, true, true, true, true, true, true, true, false, false] (fun s => [(129, .tuple #[.agg #[.int .u64 (y : Int), .bool gn, .string sv], .bool ok]), (117, .tuple #[.agg #[.int .u64 (y : Int), .bool gn, .string sv], .bool ok]), (130, .agg #[.int .u64 (y : Int), .bool gn, .string sv]), (131, .bool ok), (13, .pointer (some ⟨s, 0, none⟩))]) (fun s w' => (Below w2.heap.size w2 w' ∧ w'.cell? ⟨bb, off + i * 5, none⟩ = some (.string k) ∧ w'.cell? ⟨bb, off + i * 5 + 1, none⟩ = some (.int .u64 (t : Int)) ∧ w'.cell? ⟨bb, off + i * 5 + 2, none⟩ = some (.string lo) ∧ w'.cell? ⟨bb, off + i * 5 + 3, none⟩ = some (.string hk) ∧ w'.cell? ⟨bb, off + i * 5 + 4, none⟩ = some (.int .i64 most) ∧ w'.cell? ⟨g6, 0, none⟩ = some (.slice A' n c')) ∧ w'.heap[s]? = some (.cells #[.int .u64 0, .bool false, .string ⟨#[]⟩] 25 (0, 0)) ∧ w2.heap.size ≤ s) ?_ ?_
              rotate_left
              · intro hCont
                refine two_ (i := 11) (j := 15) (Ni := some 129) (Nj := some 13) #[true, true, true, true, true, true, true, true, true, true, true, true, false, false, false, false, false, false] #[true, true, true, true, true, true, true, true, true, true, true, false, false, false, false, true, false, false] rfl rfl rfl rfl (by kernel_rfl) (by decide) (by decide) (fun K hK => ?_) (fun K hK => ?_)
                · skip
                  refine goes_ Try.func15 (by kernel_rfl) rfl #[.agg #[.slice A' n c'], .string k, .int .u64 (t : Int)] (by rfl) rfl rfl (by (try simp only [List.map_toArray, List.map_cons, List.map_nil]); first | done | rfl) ?_
                  with_reducible refine ((HRT.out _ (HWR.out.below (HW.out.trans (hHeld.1.mono HW.out.size))))).mono ?_
                  rintro e w8 ⟨rfl, hb8⟩
                  refine ⟨_, rfl, ?_⟩
                  have HN := Lib.hid (hHeld.1.trans (hb8.mono hHeld.1.size))
                  refine hK.out _ _ ⟨HN.out, (HN.out.cell (p := ⟨bb, off + i * 5, none⟩) hbl).trans a0, (HN.out.cell (p := ⟨bb, off + i * 5 + 1, none⟩) hbl).trans a1, (HN.out.cell (p := ⟨bb, off + i * 5 + 2, none⟩) hbl).trans a2, (HN.out.cell (p := ⟨bb, off + i * 5 + 3, none⟩) hbl).trans a3, (HN.out.cell (p := ⟨bb, off + i * 5 + 4, none⟩) hbl).trans a4, (HN.out.cell (p := ⟨g6, 0, none⟩) hl6).trans s6⟩ (fun hHeld => ?_)
                  clear hK K
                  refine norm_ (a' := ?_) ?_ ?_
                  rotate_left
                  · show Act.put _ (some 129) _ = _
                    simp only [Act.put, List.setIfInBounds_toArray, List.set_cons_zero, List.set_cons_succ, i64_w, i32_w]
                    rfl
                  refine pure_ (i := 12) (N := some 117) (v := ?_) (a' := ?_) #[true, true, true, true, true, true, true, true, true, true, true, true, true, false, false, false, false, false] rfl rfl (by kernel_rfl) (fun _ _ _ h => h) (Or.inl ⟨by rfl, ?_⟩) ?_ ?_
                  rotate_left
                  · intro w'
                    go_simp
                    with_reducible rfl
                  rotate_left
                  · simp only [Act.put, List.setIfInBounds_toArray, List.set_cons_zero, List.set_cons_succ, i64_w, i32_w]
                    rfl
                  refine pure_ (i := 13) (N := some 130) (v := ?_) (a' := ?_) #[true, true, true, true, true, true, true, true, true, true, true, true, true, true, false, false, false, false] rfl rfl (by kernel_rfl) (fun _ _ _ h => h) (Or.inl ⟨by rfl, ?_⟩) ?_ ?_
                  rotate_left
                  · intro w'
                    go_simp
                    with_reducible rfl
                  rotate_left
                  · simp only [Act.put, List.setIfInBounds_toArray, List.set_cons_zero, List.set_cons_succ, i64_w, i32_w]
                    rfl
                  refine pure_ (i := 14) (N := some 131) (v := ?_) (a' := ?_) #[true, true, true, true, true, true, true, true, true, true, true, true, true, true, true, false, false, false] rfl rfl (by kernel_rfl) (fun _ _ _ h => h) (Or.inl ⟨by rfl, ?_⟩) ?_ ?_
                  rotate_left
                  · intro w'
                    go_simp
                    with_reducible rfl
                  rotate_left
                  · simp only [Act.put, List.setIfInBounds_toArray, List.set_cons_zero, List.set_cons_succ, i64_w, i32_w]
                    rfl
                  refine one_ (i := 15) (N := some 13) #[true, true, true, true, true, true, true, true, true, true, true, true, true, true, true, true, false, false] rfl rfl (by kernel_rfl) (by decide) (fun K hK => ?_)
                  refine value_ (w1 := ?_) (v := ?_) (by rfl) rfl ?_ ?_
                  rotate_left 2
                  · go_simp
                    constructor
                    · rfl
                    · rfl
                  have H70 := Lib.hid (blk_new w8 (.cells #[.int .u64 0, .bool false, .string ⟨#[]⟩] 25))
                  have HN := Lib.hid (hHeld.1.alloc hHeld.1.size (.cells #[.int .u64 0, .bool false, .string ⟨#[]⟩] 25))
                  have HZ := Lib.hid (show w2.heap.size ≤ w8.heap.size from hHeld.1.size)
                  refine hK.out _ _ ⟨HN.out, (HN.out.cell (p := ⟨bb, off + i * 5, none⟩) hbl).trans a0, (HN.out.cell (p := ⟨bb, off + i * 5 + 1, none⟩) hbl).trans a1, (HN.out.cell (p := ⟨bb, off + i * 5 + 2, none⟩) hbl).trans a2, (HN.out.cell (p := ⟨bb, off + i * 5 + 3, none⟩) hbl).trans a3, (HN.out.cell (p := ⟨bb, off + i * 5 + 4, none⟩) hbl).trans a4, (HN.out.cell (p := ⟨g6, 0, none⟩) hl6).trans s6⟩ (fun hHeld => ?_)
                  clear hK K
                  refine norm_ (a' := ?_) ?_ ?_
                  rotate_left
                  · show Act.put _ (some 13) _ = _
                    simp only [Act.put, List.setIfInBounds_toArray, List.set_cons_zero, List.set_cons_succ, i64_w, i32_w]
                    rfl
                  exact norm_ (by simp only [putAll, Act.put, List.setIfInBounds_toArray, List.set_cons_zero, List.set_cons_succ]) (hCont w8.heap.size _ ⟨hHeld, H70.out, HZ.out⟩)
                · skip
                  refine value_ (w1 := ?_) (v := ?_) (by rfl) rfl ?_ ?_
                  rotate_left 2
                  · go_simp
                    constructor
                    · rfl
                    · rfl
                  have H70 := Lib.hid (blk_new w2.drew (.cells #[.int .u64 0, .bool false, .string ⟨#[]⟩] 25))
                  have HN := Lib.hid (hHeld.1.alloc hHeld.1.size (.cells #[.int .u64 0, .bool false, .string ⟨#[]⟩] 25))
                  have HZ := Lib.hid (show w2.heap.size ≤ w2.drew.heap.size from hHeld.1.size)
                  refine hK.out _ _ ⟨HN.out, (HN.out.cell (p := ⟨bb, off + i * 5, none⟩) hbl).trans a0, (HN.out.cell (p := ⟨bb, off + i * 5 + 1, none⟩) hbl).trans a1, (HN.out.cell (p := ⟨bb, off + i * 5 + 2, none⟩) hbl).trans a2, (HN.out.cell (p := ⟨bb, off + i * 5 + 3, none⟩) hbl).trans a3, (HN.out.cell (p := ⟨bb, off + i * 5 + 4, none⟩) hbl).trans a4, (HN.out.cell (p := ⟨g6, 0, none⟩) hl6).trans s6⟩ (fun hHeld => ?_)
                  clear hK K
                  refine norm_ (a' := ?_) ?_ ?_
                  rotate_left
                  · show Act.put _ (some 13) _ = _
                    simp only [Act.put, List.setIfInBounds_toArray, List.set_cons_zero, List.set_cons_succ, i64_w, i32_w]
                    rfl
                  refine one_ (i := 11) (N := some 129) #[true, true, true, true, true, true, true, true, true, true, true, true, false, false, false, true, false, false] rfl rfl (by kernel_rfl) (by decide) (fun K hK => ?_)
                  refine goes_ Try.func15 (by kernel_rfl) rfl #[.agg #[.slice A' n c'], .string k, .int .u64 (t : Int)] (by rfl) rfl rfl (by (try simp only [List.map_toArray, List.map_cons, List.map_nil]); first | done | rfl) ?_
                  with_reducible refine ((HRT.out _ (HWR.out.below (HW.out.trans (hHeld.1.mono HW.out.size))))).mono ?_
                  rintro e w8 ⟨rfl, hb8⟩
                  refine ⟨_, rfl, ?_⟩
                  have HN := Lib.hid (hHeld.1.trans (hb8.mono hHeld.1.size))
                  replace H70 := Lib.hid (blk_below H70.out hb8)
                  refine hK.out _ _ ⟨HN.out, (HN.out.cell (p := ⟨bb, off + i * 5, none⟩) hbl).trans a0, (HN.out.cell (p := ⟨bb, off + i * 5 + 1, none⟩) hbl).trans a1, (HN.out.cell (p := ⟨bb, off + i * 5 + 2, none⟩) hbl).trans a2, (HN.out.cell (p := ⟨bb, off + i * 5 + 3, none⟩) hbl).trans a3, (HN.out.cell (p := ⟨bb, off + i * 5 + 4, none⟩) hbl).trans a4, (HN.out.cell (p := ⟨g6, 0, none⟩) hl6).trans s6⟩ (fun hHeld => ?_)
                  clear hK K
                  refine norm_ (a' := ?_) ?_ ?_
                  rotate_left
                  · show Act.put _ (some 129) _ = _
                    simp only [Act.put, List.setIfInBounds_toArray, List.set_cons_zero, List.set_cons_succ, i64_w, i32_w]
                    rfl
                  refine pure_ (i := 12) (N := some 117) (v := ?_) (a' := ?_) #[true, true, true, true, true, true, true, true, true, true, true, true, true, false, false, true, false, false] rfl rfl (by kernel_rfl) (fun _ _ _ h => h) (Or.inl ⟨by rfl, ?_⟩) ?_ ?_
                  rotate_left
                  · intro w'
                    go_simp
                    with_reducible rfl
                  rotate_left
                  · simp only [Act.put, List.setIfInBounds_toArray, List.set_cons_zero, List.set_cons_succ, i64_w, i32_w]
                    rfl
                  refine pure_ (i := 13) (N := some 130) (v := ?_) (a' := ?_) #[true, true, true, true, true, true, true, true, true, true, true, true, true, true, false, true, false, false] rfl rfl (by kernel_rfl) (fun _ _ _ h => h) (Or.inl ⟨by rfl, ?_⟩) ?_ ?_
                  rotate_left
                  · intro w'
                    go_simp
                    with_reducible rfl
                  rotate_left
                  · simp only [Act.put, List.setIfInBounds_toArray, List.set_cons_zero, List.set_cons_succ, i64_w, i32_w]
                    rfl
                  refine pure_ (i := 14) (N := some 131) (v := ?_) (a' := ?_) #[true, true, true, true, true, true, true, true, true, true, true, true, true, true, true, true, false, false] rfl rfl (by kernel_rfl) (fun _ _ _ h => h) (Or.inl ⟨by rfl, ?_⟩) ?_ ?_
                  rotate_left
                  · intro w'
                    go_simp
                    with_reducible rfl
                  rotate_left
                  · simp only [Act.put, List.setIfInBounds_toArray, List.set_cons_zero, List.set_cons_succ, i64_w, i32_w]
                    rfl
                  exact norm_ (by simp only [putAll, Act.put, List.setIfInBounds_toArray, List.set_cons_zero, List.set_cons_succ]) (hCont w2.heap.size _ ⟨hHeld, H70.out, HZ.out⟩)
              rintro g13 w9 ⟨hHeld, h70, hz⟩
              have H70 := Lib.hid h70; clear h70
              have HZ := Lib.hid hz; clear hz
              refine norm_ (a' := ?_) ?_ ?_
              rotate_left
              · simp only [putAll, Act.put, List.setIfInBounds_toArray, List.set_cons_zero, List.set_cons_succ]
                rfl
              refine last_ (i := 16) (N := none) #[true, true, true, true, true, true, true, true, true, true, true, true, true, true, true, true, true, false] rfl rfl (by kernel_rfl) (by decide) (fun K hK => ?_)
              refine skip_ (w1 := w9.setRow g13 #[.int .u64 (y : Int), .bool gn, .string sv]) (by rfl) rfl (by refine run_strow 25 (.tmp 13) (.tmp 130) ?_ g13 #[.int .u64 (y : Int), .bool gn, .string sv] ?_ ?_ 25 _ H70.out (by kernel_rfl) rfl (by simp [Value.oneCell']) <;> rfl) ?_
              refine hK.out _ _ ?_
              clear hK K
              refine pure_ (i := 17) (N := some 14) (v := ?_) (a' := ?_) #[true, true, true, true, true, true, true, true, true, true, true, true, true, true, true, true, true, true] rfl rfl (by kernel_rfl) (fun _ _ _ h => h) (Or.inl ⟨by rfl, ?_⟩) ?_ ?_
              rotate_left
              · intro w'
                go_simp
                with_reducible rfl
              rotate_left
              · simp only [Act.put, List.setIfInBounds_toArray, List.set_cons_zero, List.set_cons_succ, i64_w, i32_w]
                rfl
              refine done_ (by kernel_rfl) ?_

              have HN := Lib.hid (show Below w2.heap.size w2 (w9.setRow g13 #[.int .u64 (y : Int), .bool gn, .string sv]) from hHeld.1.trans ((keeps_setRow (Keeps.refl (Only g13) w9) (.inl rfl) _).to_below hHeld.1.size (fun i hi => by cases hi; exact HZ.out)))
              have Hg13 := Lib.hid (show (w9.setRow g13 #[.int .u64 (y : Int), .bool gn, .string sv]).heap[g13]? = some (.cells #[.int .u64 (y : Int), .bool gn, .string sv] 25 (0, 0)) from setRow_heap _ _ _ _ _ _ H70.out)
              clear hHeld H70 HZ
              generalize w9.setRow g13 #[.int .u64 (y : Int), .bool gn, .string sv] = w5 at *
              replace Hg11 := Lib.hid (blk_below Hg11.out HN.out)
              replace HW := Lib.hid (HW.out.trans (HN.out.mono HW.out.size))
              clear HN a0 a1 a2 a3 a4 s6 hbl hl6
              have a0 : w5.cell? ⟨bb, off + i * 5, none⟩ = some (.string k) := (HW.out.cell (p := ⟨bb, off + i * 5, none⟩) HBL.out).trans HA0.out
              have a1 : w5.cell? ⟨bb, off + i * 5 + 1, none⟩ = some (.int .u64 (t : Int)) := (HW.out.cell (p := ⟨bb, off + i * 5 + 1, none⟩) HBL.out).trans HA1.out
              have a2 : w5.cell? ⟨bb, off + i * 5 + 2, none⟩ = some (.string lo) := (HW.out.cell (p := ⟨bb, off + i * 5 + 2, none⟩) HBL.out).trans HA2.out
              have a3 : w5.cell? ⟨bb, off + i * 5 + 3, none⟩ = some (.string hk) := (HW.out.cell (p := ⟨bb, off + i * 5 + 3, none⟩) HBL.out).trans HA3.out
              have a4 : w5.cell? ⟨bb, off + i * 5 + 4, none⟩ = some (.int .i64 most) := (HW.out.cell (p := ⟨bb, off + i * 5 + 4, none⟩) HBL.out).trans HA4.out
              have s6 : w5.cell? ⟨g6, 0, none⟩ = some (.slice A' n c') := (HW.out.cell (p := ⟨g6, 0, none⟩) HLG.out).trans HG0.out
              have hbl := Nat.lt_of_lt_of_le HBL.out HW.out.size
              have hl6 := Nat.lt_of_lt_of_le HLG.out HW.out.size
              go_wp2
              refine start_ (n := 12) (S := fun w' => Below w5.heap.size w5 w' ∧ w'.cell? ⟨bb, off + i * 5, none⟩ = some (.string k) ∧ w'.cell? ⟨bb, off + i * 5 + 1, none⟩ = some (.int .u64 (t : Int)) ∧ w'.cell? ⟨bb, off + i * 5 + 2, none⟩ = some (.string lo) ∧ w'.cell? ⟨bb, off + i * 5 + 3, none⟩ = some (.string hk) ∧ w'.cell? ⟨bb, off + i * 5 + 4, none⟩ = some (.int .i64 most) ∧ w'.cell? ⟨g6, 0, none⟩ = some (.slice A' n c')) (ds := []) #[false, false, false, false, false, false, false, false, false, false, false, false] (by kernel_rfl) rfl rfl ⟨(below_drew (Below.refl _ _)), a0, a1, a2, a3, a4, s6⟩ (fun hHeld => ?_)
              refine pure_ (i := 1) (N := some 134) (v := ?_) (a' := ?_) #[false, true, false, false, false, false, false, false, false, false, false, false] rfl rfl (by kernel_rfl) (fun _ _ _ h => h) (Or.inl ⟨by rfl, ?_⟩) ?_ ?_
              rotate_left
              · intro w'
                go_simp
                with_reducible rfl
              rotate_left
              · simp only [Act.put, List.setIfInBounds_toArray, List.set_cons_zero, List.set_cons_succ, i64_w, i32_w]
                rfl
              refine pure_ (i := 2) (N := some 135) (v := ?_) (a' := ?_) #[false, true, true, false, false, false, false, false, false, false, false, false] rfl rfl (by kernel_rfl) (fun _ _ _ h => h) (Or.inl ⟨by rfl, ?_⟩) ?_ ?_
              rotate_left
              · intro w'
                go_simp
                with_reducible rfl
              rotate_left
              · simp only [Act.put, List.setIfInBounds_toArray, List.set_cons_zero, List.set_cons_succ, i64_w, i32_w]
                rfl
              refine pure_ (i := 3) (N := some 136) (v := ?_) (a' := ?_) #[false, true, true, true, false, false, false, false, false, false, false, false] rfl rfl (by kernel_rfl) (fun _ _ _ h => h) (Or.inl ⟨by rfl, ?_⟩) ?_ ?_
              rotate_left
              · intro w'
                go_simp
                with_reducible rfl
              rotate_left
              · simp only [Act.put, List.setIfInBounds_toArray, List.set_cons_zero, List.set_cons_succ, i64_w, i32_w]
                rfl
              refine pure_ (i := 4) (N := some 137) (v := ?_) (a' := ?_) #[false, true, true, true, true, false, false, false, false, false, false, false] rfl rfl (by kernel_rfl) (fun _ _ _ h => h) (Or.inl ⟨by rfl, ?_⟩) ?_ ?_
              rotate_left
              · intro w'
                go_simp
                with_reducible rfl
              rotate_left
              · simp only [Act.put, List.setIfInBounds_toArray, List.set_cons_zero, List.set_cons_succ, i64_w, i32_w]
                rfl
              refine take_ (i := 0) (N := some 133) (v := ?_) (a' := ?_) #[true, true, true, true, true, false, false, false, false, false, false, false] rfl rfl (by kernel_rfl) (fun _ _ _ h => h) (Or.inl ⟨by rfl, ?_⟩) hHeld ?_ ?_
              rotate_left
              · rintro w' ⟨s0, s1, s2, s3, s4, s5, s6⟩
                go_simp
                with_reducible rfl
              rotate_left
              · simp only [Act.put, List.setIfInBounds_toArray, List.set_cons_zero, List.set_cons_succ, i64_w, i32_w]
                rfl
              refine take_ (i := 5) (N := some 138) (v := ?_) (a' := ?_) #[true, true, true, true, true, true, false, false, false, false, false, false] rfl rfl (by kernel_rfl) (fun _ _ _ h => h) (Or.inl ⟨by rfl, ?_⟩) hHeld ?_ ?_
              rotate_left
              · rintro w' ⟨s0, s1, s2, s3, s4, s5, s6⟩
                go_simp
                with_reducible rfl
              rotate_left
              · simp only [Act.put, List.setIfInBounds_toArray, List.set_cons_zero, List.set_cons_succ, i64_w, i32_w]
                rfl
              refine one_ (i := 6) (N := some 139) #[true, true, true, true, true, true, true, false, false, false, false, false] rfl rfl (by kernel_rfl) (by decide) (fun K hK => ?_)
              refine goes_ Try.func16 (by kernel_rfl) rfl #[.agg #[.slice A' n c'], .string k] (by rfl) rfl rfl (by (try simp only [List.map_toArray, List.map_cons, List.map_nil]); first | done | rfl) ?_
              with_reducible refine ((HRZ.out _ (HWR.out.below (HW.out.trans (hHeld.1.mono HW.out.size))))).mono ?_
              rintro e w10 ⟨rfl, hb10⟩
              refine ⟨_, rfl, ?_⟩
              have HN := Lib.hid (hHeld.1.trans (hb10.mono hHeld.1.size))
              refine hK.out _ _ ⟨HN.out, (HN.out.cell (p := ⟨bb, off + i * 5, none⟩) hbl).trans a0, (HN.out.cell (p := ⟨bb, off + i * 5 + 1, none⟩) hbl).trans a1, (HN.out.cell (p := ⟨bb, off + i * 5 + 2, none⟩) hbl).trans a2, (HN.out.cell (p := ⟨bb, off + i * 5 + 3, none⟩) hbl).trans a3, (HN.out.cell (p := ⟨bb, off + i * 5 + 4, none⟩) hbl).trans a4, (HN.out.cell (p := ⟨g6, 0, none⟩) hl6).trans s6⟩ (fun hHeld => ?_)
              clear hK K
              refine norm_ (a' := ?_) ?_ ?_
              rotate_left
              · show Act.put _ (some 139) _ = _
                simp only [Act.put, List.setIfInBounds_toArray, List.set_cons_zero, List.set_cons_succ, i64_w, i32_w]
                rfl
              refine pure_ (i := 7) (N := some 132) (v := ?_) (a' := ?_) #[true, true, true, true, true, true, true, true, false, false, false, false] rfl rfl (by kernel_rfl) (fun _ _ _ h => h) (Or.inl ⟨by rfl, ?_⟩) ?_ ?_
              rotate_left
              · intro w'
                go_simp
                with_reducible rfl
              rotate_left
              · simp only [Act.put, List.setIfInBounds_toArray, List.set_cons_zero, List.set_cons_succ, i64_w, i32_w]
                rfl
              refine pure_ (i := 8) (N := some 140) (v := ?_) (a' := ?_) #[true, true, true, true, true, true, true, true, true, false, false, false] rfl rfl (by kernel_rfl) (fun _ _ _ h => h) (Or.inl ⟨by rfl, ?_⟩) ?_ ?_
              rotate_left
              · intro w'
                go_simp
                with_reducible rfl
              rotate_left
              · simp only [Act.put, List.setIfInBounds_toArray, List.set_cons_zero, List.set_cons_succ, i64_w, i32_w]
                rfl
              refine pure_ (i := 9) (N := some 141) (v := ?_) (a' := ?_) #[true, true, true, true, true, true, true, true, true, true, false, false] rfl rfl (by kernel_rfl) (fun _ _ _ h => h) (Or.inl ⟨by rfl, ?_⟩) ?_ ?_
              rotate_left
              · intro w'
                go_simp
                with_reducible rfl
              rotate_left
              · simp only [Act.put, List.setIfInBounds_toArray, List.set_cons_zero, List.set_cons_succ, i64_w, i32_w]
                rfl
              refine pure_ (i := 10) (N := some 15) (v := ?_) (a' := ?_) #[true, true, true, true, true, true, true, true, true, true, true, false] rfl rfl (by kernel_rfl) (fun _ _ _ h => h) (Or.inl ⟨by rfl, ?_⟩) ?_ ?_
              rotate_left
              · intro w'
                go_simp
                with_reducible rfl
              rotate_left
              · simp only [Act.put, List.setIfInBounds_toArray, List.set_cons_zero, List.set_cons_succ, i64_w, i32_w]
                rfl
              refine pure_ (i := 11) (N := some 16) (v := ?_) (a' := ?_) #[true, true, true, true, true, true, true, true, true, true, true, true] rfl rfl (by kernel_rfl) (fun _ _ _ h => h) (Or.inl ⟨by rfl, ?_⟩) ?_ ?_
              rotate_left
              · intro w'
                go_simp
                with_reducible rfl
              rotate_left
              · simp only [Act.put, List.setIfInBounds_toArray, List.set_cons_zero, List.set_cons_succ, i64_w, i32_w]
                rfl
              refine done_ (by kernel_rfl) ?_

              have HN := Lib.hid hHeld.1
              clear hHeld
              replace Hg11 := Lib.hid (blk_below Hg11.out HN.out)
              replace Hg13 := Lib.hid (blk_below Hg13.out HN.out)
              replace HW := Lib.hid (HW.out.trans (HN.out.mono HW.out.size))
              clear HN a0 a1 a2 a3 a4 s6 hbl hl6
              have a0 : w10.cell? ⟨bb, off + i * 5, none⟩ = some (.string k) := (HW.out.cell (p := ⟨bb, off + i * 5, none⟩) HBL.out).trans HA0.out
              have a1 : w10.cell? ⟨bb, off + i * 5 + 1, none⟩ = some (.int .u64 (t : Int)) := (HW.out.cell (p := ⟨bb, off + i * 5 + 1, none⟩) HBL.out).trans HA1.out
              have a2 : w10.cell? ⟨bb, off + i * 5 + 2, none⟩ = some (.string lo) := (HW.out.cell (p := ⟨bb, off + i * 5 + 2, none⟩) HBL.out).trans HA2.out
              have a3 : w10.cell? ⟨bb, off + i * 5 + 3, none⟩ = some (.string hk) := (HW.out.cell (p := ⟨bb, off + i * 5 + 3, none⟩) HBL.out).trans HA3.out
              have a4 : w10.cell? ⟨bb, off + i * 5 + 4, none⟩ = some (.int .i64 most) := (HW.out.cell (p := ⟨bb, off + i * 5 + 4, none⟩) HBL.out).trans HA4.out
              have s6 : w10.cell? ⟨g6, 0, none⟩ = some (.slice A' n c') := (HW.out.cell (p := ⟨g6, 0, none⟩) HLG.out).trans HG0.out
              have hbl := Nat.lt_of_lt_of_le HBL.out HW.out.size
              have hl6 := Nat.lt_of_lt_of_le HLG.out HW.out.size
              have v0 : w10.cell? ⟨g11, 0, none⟩ = some (.int .u64 (y : Int)) := (blk_cell Hg11.out 0).trans rfl
              have v1 : w10.cell? ⟨g11, 1, none⟩ = some (.bool gn) := (blk_cell Hg11.out 1).trans rfl
              have v2 : w10.cell? ⟨g11, 2, none⟩ = some (.string sv) := (blk_cell Hg11.out 2).trans rfl
              have u0 : w10.cell? ⟨g13, 0, none⟩ = some (.int .u64 (y : Int)) := (blk_cell Hg13.out 0).trans rfl
              have u1 : w10.cell? ⟨g13, 1, none⟩ = some (.bool gn) := (blk_cell Hg13.out 1).trans rfl
              have u2 : w10.cell? ⟨g13, 2, none⟩ = some (.string sv) := (blk_cell Hg13.out 2).trans rfl
              have hg1 := blk_lt Hg11.out
              have hg3 := blk_lt Hg13.out
              go_wp2
              as_aux_lemma =>
                refine start_ (n := 79) (S := fun w' => Below w10.heap.size w10 w' ∧ w'.cell? ⟨bb, off + i * 5, none⟩ = some (.string k) ∧ w'.cell? ⟨bb, off + i * 5 + 1, none⟩ = some (.int .u64 (t : Int)) ∧ w'.cell? ⟨bb, off + i * 5 + 2, none⟩ = some (.string lo) ∧ w'.cell? ⟨bb, off + i * 5 + 3, none⟩ = some (.string hk) ∧ w'.cell? ⟨bb, off + i * 5 + 4, none⟩ = some (.int .i64 most) ∧ w'.cell? ⟨g6, 0, none⟩ = some (.slice A' n c') ∧ w'.cell? ⟨g11, 0, none⟩ = some (.int .u64 (y : Int)) ∧ w'.cell? ⟨g11, 1, none⟩ = some (.bool gn) ∧ w'.cell? ⟨g11, 2, none⟩ = some (.string sv) ∧ w'.cell? ⟨g13, 0, none⟩ = some (.int .u64 (y : Int)) ∧ w'.cell? ⟨g13, 1, none⟩ = some (.bool gn) ∧ w'.cell? ⟨g13, 2, none⟩ = some (.string sv)) (ds := []) #[false, false, false, false, false, false, false, false, false, false, false, false, false, false, false, false, false, false, false, false, false, false, false, false, false, false, false, false, false, false, false, false, false, false, false, false, false, false, false, false, false, false, false, false, false, false, false, false, false, false, false, false, false, false, false, false, false, false, false, false, false, false, false, false, false, false, false, false, false, false, false, false, false, false, false, false, false, false, false] (by as_aux_lemma => kernel_rfl) rfl rfl ⟨(below_drew (Below.refl _ _)), a0, a1, a2, a3, a4, s6, v0, v1, v2, u0, u1, u2⟩ (fun hHeld => ?_)
                refine pure_ (i := 0) (N := some 142) (v := ?_) (a' := ?_) #[true, false, false, false, false, false, false, false, false, false, false, false, false, false, false, false, false, false, false, false, false, false, false, false, false, false, false, false, false, false, false, false, false, false, false, false, false, false, false, false, false, false, false, false, false, false, false, false, false, false, false, false, false, false, false, false, false, false, false, false, false, false, false, false, false, false, false, false, false, false, false, false, false, false, false, false, false, false, false] rfl rfl (by as_aux_lemma => kernel_rfl) (fun _ _ _ h => h) (Or.inl ⟨by rfl, ?_⟩) ?_ ?_
                rotate_left
                · intro w'
                  go_simp
                  with_reducible rfl
                rotate_left
                · simp only [Act.put, List.setIfInBounds_toArray, List.set_cons_zero, List.set_cons_succ, i64_w, i32_w]
                  rfl
                refine pure_ (i := 1) (N := some 143) (v := ?_) (a' := ?_) #[true, true, false, false, false, false, false, false, false, false, false, false, false, false, false, false, false, false, false, false, false, false, false, false, false, false, false, false, false, false, false, false, false, false, false, false, false, false, false, false, false, false, false, false, false, false, false, false, false, false, false, false, false, false, false, false, false, false, false, false, false, false, false, false, false, false, false, false, false, false, false, false, false, false, false, false, false, false, false] rfl rfl (by as_aux_lemma => kernel_rfl) (fun _ _ _ h => h) (Or.inl ⟨by rfl, ?_⟩) ?_ ?_
                rotate_left
                · intro w'
                  go_simp
                  with_reducible rfl
                rotate_left
                · simp only [Act.put, List.setIfInBounds_toArray, List.set_cons_zero, List.set_cons_succ, i64_w, i32_w]
                  rfl
                refine pure_ (i := 2) (N := some 144) (v := ?_) (a' := ?_) #[true, true, true, false, false, false, false, false, false, false, false, false, false, false, false, false, false, false, false, false, false, false, false, false, false, false, false, false, false, false, false, false, false, false, false, false, false, false, false, false, false, false, false, false, false, false, false, false, false, false, false, false, false, false, false, false, false, false, false, false, false, false, false, false, false, false, false, false, false, false, false, false, false, false, false, false, false, false, false] rfl rfl (by as_aux_lemma => kernel_rfl) (fun _ _ _ h => h) (Or.inl ⟨by rfl, ?_⟩) ?_ ?_
                rotate_left
                · intro w'
                  go_simp
                  with_reducible rfl
                rotate_left
                · simp only [Act.put, List.setIfInBounds_toArray, List.set_cons_zero, List.set_cons_succ, i64_w, i32_w]
                  rfl
                refine pure_ (i := 3) (N := some 145) (v := ?_) (a' := ?_) #[true, true, true, true, false, false, false, false, false, false, false, false, false, false, false, false, false, false, false, false, false, false, false, false, false, false, false, false, false, false, false, false, false, false, false, false, false, false, false, false, false, false, false, false, false, false, false, false, false, false, false, false, false, false, false, false, false, false, false, false, false, false, false, false, false, false, false, false, false, false, false, false, false, false, false, false, false, false, false] rfl rfl (by as_aux_lemma => kernel_rfl) (fun _ _ _ h => h) (Or.inl ⟨by rfl, ?_⟩) ?_ ?_
                rotate_left
                · intro w'
                  go_simp
                  with_reducible rfl
                rotate_left
                · simp only [Act.put, List.setIfInBounds_toArray, List.set_cons_zero, List.set_cons_succ, i64_w, i32_w]
                  rfl
                refine pure_ (i := 4) (N := some 146) (v := ?_) (a' := ?_) #[true, true, true, true, true, false, false, false, false, false, false, false, false, false, false, false, false, false, false, false, false, false, false, false, false, false, false, false, false, false, false, false, false, false, false, false, false, false, false, false, false, false, false, false, false, false, false, false, false, false, false, false, false, false, false, false, false, false, false, false, false, false, false, false, false, false, false, false, false, false, false, false, false, false, false, false, false, false, false] rfl rfl (by as_aux_lemma => kernel_rfl) (fun _ _ _ h => h) (Or.inl ⟨by rfl, ?_⟩) ?_ ?_
                rotate_left
                · intro w'
                  go_simp
                  with_reducible rfl
                rotate_left
                · simp only [Act.put, List.setIfInBounds_toArray, List.set_cons_zero, List.set_cons_succ, i64_w, i32_w]
                  rfl
                refine pure_ (i := 7) (N := some 149) (v := ?_) (a' := ?_) #[true, true, true, true, true, false, false, true, false, false, false, false, false, false, false, false, false, false, false, false, false, false, false, false, false, false, false, false, false, false, false, false, false, false, false, false, false, false, false, false, false, false, false, false, false, false, false, false, false, false, false, false, false, false, false, false, false, false, false, false, false, false, false, false, false, false, false, false, false, false, false, false, false, false, false, false, false, false, false] rfl rfl (by as_aux_lemma => kernel_rfl) (fun _ _ _ h => h) (Or.inl ⟨by rfl, ?_⟩) ?_ ?_
                rotate_left
                · intro w'
                  go_simp
                  with_reducible rfl
                rotate_left
                · simp only [Act.put, List.setIfInBounds_toArray, List.set_cons_zero, List.set_cons_succ, i64_w, i32_w]
                  rfl
                refine pure_ (i := 8) (N := some 150) (v := ?_) (a' := ?_) #[true, true, true, true, true, false, false, true, true, false, false, false, false, false, false, false, false, false, false, false, false, false, false, false, false, false, false, false, false, false, false, false, false, false, false, false, false, false, false, false, false, false, false, false, false, false, false, false, false, false, false, false, false, false, false, false, false, false, false, false, false, false, false, false, false, false, false, false, false, false, false, false, false, false, false, false, false, false, false] rfl rfl (by as_aux_lemma => kernel_rfl) (fun _ _ _ h => h) (Or.inl ⟨by rfl, ?_⟩) ?_ ?_
                rotate_left
                · intro w'
                  go_simp
                  with_reducible rfl
                rotate_left
                · simp only [Act.put, List.setIfInBounds_toArray, List.set_cons_zero, List.set_cons_succ, i64_w, i32_w]
                  rfl
                refine take_ (i := 5) (N := some 147) (v := ?_) (a' := ?_) #[true, true, true, true, true, true, false, true, true, false, false, false, false, false, false, false, false, false, false, false, false, false, false, false, false, false, false, false, false, false, false, false, false, false, false, false, false, false, false, false, false, false, false, false, false, false, false, false, false, false, false, false, false, false, false, false, false, false, false, false, false, false, false, false, false, false, false, false, false, false, false, false, false, false, false, false, false, false, false] rfl rfl (by as_aux_lemma => kernel_rfl) (fun _ _ _ h => h) (Or.inl ⟨by rfl, ?_⟩) hHeld ?_ ?_
                rotate_left
                · rintro w' ⟨s0, s1, s2, s3, s4, s5, s6, s7, s8, s9, s10, s11, s12⟩
                  go_simp
                  with_reducible rfl
                rotate_left
                · simp only [Act.put, List.setIfInBounds_toArray, List.set_cons_zero, List.set_cons_succ, i64_w, i32_w]
                  rfl
                refine one_ (i := 6) (N := some 148) #[true, true, true, true, true, true, true, true, true, false, false, false, false, false, false, false, false, false, false, false, false, false, false, false, false, false, false, false, false, false, false, false, false, false, false, false, false, false, false, false, false, false, false, false, false, false, false, false, false, false, false, false, false, false, false, false, false, false, false, false, false, false, false, false, false, false, false, false, false, false, false, false, false, false, false, false, false, false, false] rfl rfl (by as_aux_lemma => kernel_rfl) (by decide) (fun K hK => ?_)
                refine goes_ Try.func17 (by as_aux_lemma => kernel_rfl) rfl #[.pointer (some ⟨gs, 0, none⟩), .string k] (by rfl) rfl rfl (by (try simp only [List.map_toArray, List.map_cons, List.map_nil]); first | done | rfl) ?_
                with_reducible refine ((HRM.out _ (HM.out.below (HW.out.trans (hHeld.1.mono HW.out.size))))).mono ?_
                rintro e w11 ⟨rfl, hb11⟩
                refine ⟨_, rfl, ?_⟩
                have HN := Lib.hid (hHeld.1.trans (hb11.mono hHeld.1.size))
                refine hK.out _ _ ⟨HN.out, (HN.out.cell (p := ⟨bb, off + i * 5, none⟩) hbl).trans a0, (HN.out.cell (p := ⟨bb, off + i * 5 + 1, none⟩) hbl).trans a1, (HN.out.cell (p := ⟨bb, off + i * 5 + 2, none⟩) hbl).trans a2, (HN.out.cell (p := ⟨bb, off + i * 5 + 3, none⟩) hbl).trans a3, (HN.out.cell (p := ⟨bb, off + i * 5 + 4, none⟩) hbl).trans a4, (HN.out.cell (p := ⟨g6, 0, none⟩) hl6).trans s6, (HN.out.cell (p := ⟨g11, 0, none⟩) hg1).trans v0, (HN.out.cell (p := ⟨g11, 1, none⟩) hg1).trans v1, (HN.out.cell (p := ⟨g11, 2, none⟩) hg1).trans v2, (HN.out.cell (p := ⟨g13, 0, none⟩) hg3).trans u0, (HN.out.cell (p := ⟨g13, 1, none⟩) hg3).trans u1, (HN.out.cell (p := ⟨g13, 2, none⟩) hg3).trans u2⟩ (fun hHeld => ?_)
                clear hK K
                refine norm_ (a' := ?_) ?_ ?_
                rotate_left
                · show Act.put _ (some 148) _ = _
                  simp only [Act.put, List.setIfInBounds_toArray, List.set_cons_zero, List.set_cons_succ, i64_w, i32_w]
                  rfl
                refine pure_ (i := 9) (N := some 151) (v := ?_) (a' := ?_) #[true, true, true, true, true, true, true, true, true, true, false, false, false, false, false, false, false, false, false, false, false, false, false, false, false, false, false, false, false, false, false, false, false, false, false, false, false, false, false, false, false, false, false, false, false, false, false, false, false, false, false, false, false, false, false, false, false, false, false, false, false, false, false, false, false, false, false, false, false, false, false, false, false, false, false, false, false, false, false] rfl rfl (by as_aux_lemma => kernel_rfl) (fun _ _ _ h => h) (Or.inl ⟨by rfl, ?_⟩) ?_ ?_
                rotate_left
                · intro w'
                  go_simp
                  with_reducible rfl
                rotate_left
                · simp only [Act.put, List.setIfInBounds_toArray, List.set_cons_zero, List.set_cons_succ, i64_w, i32_w]
                  rfl
                refine pure_ (i := 10) (N := some 152) (v := ?_) (a' := ?_) #[true, true, true, true, true, true, true, true, true, true, true, false, false, false, false, false, false, false, false, false, false, false, false, false, false, false, false, false, false, false, false, false, false, false, false, false, false, false, false, false, false, false, false, false, false, false, false, false, false, false, false, false, false, false, false, false, false, false, false, false, false, false, false, false, false, false, false, false, false, false, false, false, false, false, false, false, false, false, false] rfl rfl (by as_aux_lemma => kernel_rfl) (fun _ _ _ h => h) (Or.inl ⟨by rfl, ?_⟩) ?_ ?_
                rotate_left
                · intro w'
                  go_simp
                  with_reducible rfl
                rotate_left
                · simp only [Act.put, List.setIfInBounds_toArray, List.set_cons_zero, List.set_cons_succ, i64_w, i32_w]
                  rfl
                refine take_ (i := 11) (N := some 153) (v := ?_) (a' := ?_) #[true, true, true, true, true, true, true, true, true, true, true, true, false, false, false, false, false, false, false, false, false, false, false, false, false, false, false, false, false, false, false, false, false, false, false, false, false, false, false, false, false, false, false, false, false, false, false, false, false, false, false, false, false, false, false, false, false, false, false, false, false, false, false, false, false, false, false, false, false, false, false, false, false, false, false, false, false, false, false] rfl rfl (by as_aux_lemma => kernel_rfl) (fun _ _ _ h => h) (Or.inl ⟨by rfl, ?_⟩) hHeld ?_ ?_
                rotate_left
                · rintro w' ⟨s0, s1, s2, s3, s4, s5, s6, s7, s8, s9, s10, s11, s12⟩
                  go_simp
                  with_reducible rfl
                rotate_left
                · simp only [Act.put, List.setIfInBounds_toArray, List.set_cons_zero, List.set_cons_succ, i64_w, i32_w]
                  rfl
                refine take_ (i := 12) (N := some 154) (v := ?_) (a' := ?_) #[true, true, true, true, true, true, true, true, true, true, true, true, true, false, false, false, false, false, false, false, false, false, false, false, false, false, false, false, false, false, false, false, false, false, false, false, false, false, false, false, false, false, false, false, false, false, false, false, false, false, false, false, false, false, false, false, false, false, false, false, false, false, false, false, false, false, false, false, false, false, false, false, false, false, false, false, false, false, false] rfl rfl (by as_aux_lemma => kernel_rfl) (fun _ _ _ h => h) (Or.inl ⟨by rfl, ?_⟩) hHeld ?_ ?_
                rotate_left
                · rintro w' ⟨s0, s1, s2, s3, s4, s5, s6, s7, s8, s9, s10, s11, s12⟩
                  go_simp
                  with_reducible rfl
                rotate_left
                · simp only [Act.put, List.setIfInBounds_toArray, List.set_cons_zero, List.set_cons_succ, i64_w, i32_w]
                  rfl
                refine pure_ (i := 13) (N := some 155) (v := ?_) (a' := ?_) #[true, true, true, true, true, true, true, true, true, true, true, true, true, true, false, false, false, false, false, false, false, false, false, false, false, false, false, false, false, false, false, false, false, false, false, false, false, false, false, false, false, false, false, false, false, false, false, false, false, false, false, false, false, false, false, false, false, false, false, false, false, false, false, false, false, false, false, false, false, false, false, false, false, false, false, false, false, false, false] rfl rfl (by as_aux_lemma => kernel_rfl) (fun _ _ _ h => h) (Or.inl ⟨by rfl, ?_⟩) ?_ ?_
                rotate_left
                · intro w'
                  go_simp
                  with_reducible rfl
                rotate_left
                · simp only [Act.put, List.setIfInBounds_toArray, List.set_cons_zero, List.set_cons_succ, i64_w, i32_w]
                  rfl
                refine pure_ (i := 14) (N := some 156) (v := ?_) (a' := ?_) #[true, true, true, true, true, true, true, true, true, true, true, true, true, true, true, false, false, false, false, false, false, false, false, false, false, false, false, false, false, false, false, false, false, false, false, false, false, false, false, false, false, false, false, false, false, false, false, false, false, false, false, false, false, false, false, false, false, false, false, false, false, false, false, false, false, false, false, false, false, false, false, false, false, false, false, false, false, false, false] rfl rfl (by as_aux_lemma => kernel_rfl) (fun _ _ _ h => h) (Or.inl ⟨by rfl, ?_⟩) ?_ ?_
                rotate_left
                · intro w'
                  go_simp
                  with_reducible rfl
                rotate_left
                · simp only [Act.put, List.setIfInBounds_toArray, List.set_cons_zero, List.set_cons_succ, i64_w, i32_w]
                  rfl
                refine pure_ (i := 15) (N := some 157) (v := ?_) (a' := ?_) #[true, true, true, true, true, true, true, true, true, true, true, true, true, true, true, true, false, false, false, false, false, false, false, false, false, false, false, false, false, false, false, false, false, false, false, false, false, false, false, false, false, false, false, false, false, false, false, false, false, false, false, false, false, false, false, false, false, false, false, false, false, false, false, false, false, false, false, false, false, false, false, false, false, false, false, false, false, false, false] rfl rfl (by as_aux_lemma => kernel_rfl) (fun _ _ _ h => h) (Or.inl ⟨by rfl, ?_⟩) ?_ ?_
                rotate_left
                · intro w'
                  go_simp
                  with_reducible rfl
                rotate_left
                · simp only [Act.put, List.setIfInBounds_toArray, List.set_cons_zero, List.set_cons_succ, i64_w, i32_w]
                  rfl
                refine pure_ (i := 16) (N := some 158) (v := ?_) (a' := ?_) #[true, true, true, true, true, true, true, true, true, true, true, true, true, true, true, true, true, false, false, false, false, false, false, false, false, false, false, false, false, false, false, false, false, false, false, false, false, false, false, false, false, false, false, false, false, false, false, false, false, false, false, false, false, false, false, false, false, false, false, false, false, false, false, false, false, false, false, false, false, false, false, false, false, false, false, false, false, false, false] rfl rfl (by as_aux_lemma => kernel_rfl) (fun _ _ _ h => h) (Or.inl ⟨by rfl, ?_⟩) ?_ ?_
                rotate_left
                · intro w'
                  go_simp
                  with_reducible rfl
                rotate_left
                · simp only [Act.put, List.setIfInBounds_toArray, List.set_cons_zero, List.set_cons_succ, i64_w, i32_w]
                  rfl
                refine pure_ (i := 17) (N := some 159) (v := ?_) (a' := ?_) #[true, true, true, true, true, true, true, true, true, true, true, true, true, true, true, true, true, true, false, false, false, false, false, false, false, false, false, false, false, false, false, false, false, false, false, false, false, false, false, false, false, false, false, false, false, false, false, false, false, false, false, false, false, false, false, false, false, false, false, false, false, false, false, false, false, false, false, false, false, false, false, false, false, false, false, false, false, false, false] rfl rfl (by as_aux_lemma => kernel_rfl) (fun _ _ _ h => h) (Or.inl ⟨by rfl, ?_⟩) ?_ ?_
                rotate_left
                · intro w'
                  go_simp
                  with_reducible rfl
                rotate_left
                · simp only [Act.put, List.setIfInBounds_toArray, List.set_cons_zero, List.set_cons_succ, i64_w, i32_w]
                  rfl
                refine pure_ (i := 18) (N := some 160) (v := ?_) (a' := ?_) #[true, true, true, true, true, true, true, true, true, true, true, true, true, true, true, true, true, true, true, false, false, false, false, false, false, false, false, false, false, false, false, false, false, false, false, false, false, false, false, false, false, false, false, false, false, false, false, false, false, false, false, false, false, false, false, false, false, false, false, false, false, false, false, false, false, false, false, false, false, false, false, false, false, false, false, false, false, false, false] rfl rfl (by as_aux_lemma => kernel_rfl) (fun _ _ _ h => h) (Or.inl ⟨by rfl, ?_⟩) ?_ ?_
                rotate_left
                · intro w'
                  go_simp
                  with_reducible rfl
                rotate_left
                · simp only [Act.put, List.setIfInBounds_toArray, List.set_cons_zero, List.set_cons_succ, i64_w, i32_w]
                  rfl
                refine pure_ (i := 19) (N := some 161) (v := ?_) (a' := ?_) #[true, true, true, true, true, true, true, true, true, true, true, true, true, true, true, true, true, true, true, true, false, false, false, false, false, false, false, false, false, false, false, false, false, false, false, false, false, false, false, false, false, false, false, false, false, false, false, false, false, false, false, false, false, false, false, false, false, false, false, false, false, false, false, false, false, false, false, false, false, false, false, false, false, false, false, false, false, false, false] rfl rfl (by as_aux_lemma => kernel_rfl) (fun _ _ _ h => h) (Or.inl ⟨by rfl, ?_⟩) ?_ ?_
                rotate_left
                · intro w'
                  go_simp
                  with_reducible rfl
                rotate_left
                · simp only [Act.put, List.setIfInBounds_toArray, List.set_cons_zero, List.set_cons_succ, i64_w, i32_w]
                  rfl
                refine pure_ (i := 20) (N := some 162) (v := ?_) (a' := ?_) #[true, true, true, true, true, true, true, true, true, true, true, true, true, true, true, true, true, true, true, true, true, false, false, false, false, false, false, false, false, false, false, false, false, false, false, false, false, false, false, false, false, false, false, false, false, false, false, false, false, false, false, false, false, false, false, false, false, false, false, false, false, false, false, false, false, false, false, false, false, false, false, false, false, false, false, false, false, false, false] rfl rfl (by as_aux_lemma => kernel_rfl) (fun _ _ _ h => h) (Or.inl ⟨by rfl, ?_⟩) ?_ ?_
                rotate_left
                · intro w'
                  go_simp
                  with_reducible rfl
                rotate_left
                · simp only [Act.put, List.setIfInBounds_toArray, List.set_cons_zero, List.set_cons_succ, i64_w, i32_w]
                  rfl
                refine pure_ (i := 21) (N := some 163) (v := ?_) (a' := ?_) #[true, true, true, true, true, true, true, true, true, true, true, true, true, true, true, true, true, true, true, true, true, true, false, false, false, false, false, false, false, false, false, false, false, false, false, false, false, false, false, false, false, false, false, false, false, false, false, false, false, false, false, false, false, false, false, false, false, false, false, false, false, false, false, false, false, false, false, false, false, false, false, false, false, false, false, false, false, false, false] rfl rfl (by as_aux_lemma => kernel_rfl) (fun _ _ _ h => h) (Or.inl ⟨by rfl, ?_⟩) ?_ ?_
                rotate_left
                · intro w'
                  go_simp
                  with_reducible rfl
                rotate_left
                · simp only [Act.put, List.setIfInBounds_toArray, List.set_cons_zero, List.set_cons_succ, i64_w, i32_w]
                  rfl
                refine pure_ (i := 22) (N := some 164) (v := ?_) (a' := ?_) #[true, true, true, true, true, true, true, true, true, true, true, true, true, true, true, true, true, true, true, true, true, true, true, false, false, false, false, false, false, false, false, false, false, false, false, false, false, false, false, false, false, false, false, false, false, false, false, false, false, false, false, false, false, false, false, false, false, false, false, false, false, false, false, false, false, false, false, false, false, false, false, false, false, false, false, false, false, false, false] rfl rfl (by as_aux_lemma => kernel_rfl) (fun _ _ _ h => h) (Or.inl ⟨by rfl, ?_⟩) ?_ ?_
                rotate_left
                · intro w'
                  go_simp
                  with_reducible rfl
                rotate_left
                · simp only [Act.put, List.setIfInBounds_toArray, List.set_cons_zero, List.set_cons_succ, i64_w, i32_w]
                  rfl
                refine pure_ (i := 23) (N := some 165) (v := ?_) (a' := ?_) #[true, true, true, true, true, true, true, true, true, true, true, true, true, true, true, true, true, true, true, true, true, true, true, true, false, false, false, false, false, false, false, false, false, false, false, false, false, false, false, false, false, false, false, false, false, false, false, false, false, false, false, false, false, false, false, false, false, false, false, false, false, false, false, false, false, false, false, false, false, false, false, false, false, false, false, false, false, false, false] rfl rfl (by as_aux_lemma => kernel_rfl) (fun _ _ _ h => h) (Or.inl ⟨by rfl, ?_⟩) ?_ ?_
                rotate_left
                · intro w'
                  go_simp
                  with_reducible rfl
                rotate_left
                · simp only [Act.put, List.setIfInBounds_toArray, List.set_cons_zero, List.set_cons_succ, i64_w, i32_w]
                  rfl
                refine pure_ (i := 24) (N := some 166) (v := ?_) (a' := ?_) #[true, true, true, true, true, true, true, true, true, true, true, true, true, true, true, true, true, true, true, true, true, true, true, true, true, false, false, false, false, false, false, false, false, false, false, false, false, false, false, false, false, false, false, false, false, false, false, false, false, false, false, false, false, false, false, false, false, false, false, false, false, false, false, false, false, false, false, false, false, false, false, false, false, false, false, false, false, false, false] rfl rfl (by as_aux_lemma => kernel_rfl) (fun _ _ _ h => h) (Or.inl ⟨by rfl, ?_⟩) ?_ ?_
                rotate_left
                · intro w'
                  go_simp
                  with_reducible rfl
                rotate_left
                · simp only [Act.put, List.setIfInBounds_toArray, List.set_cons_zero, List.set_cons_succ, i64_w, i32_w]
                  rfl
                refine pure_ (i := 25) (N := some 167) (v := ?_) (a' := ?_) #[true, true, true, true, true, true, true, true, true, true, true, true, true, true, true, true, true, true, true, true, true, true, true, true, true, true, false, false, false, false, false, false, false, false, false, false, false, false, false, false, false, false, false, false, false, false, false, false, false, false, false, false, false, false, false, false, false, false, false, false, false, false, false, false, false, false, false, false, false, false, false, false, false, false, false, false, false, false, false] rfl rfl (by as_aux_lemma => kernel_rfl) (fun _ _ _ h => h) (Or.inl ⟨by rfl, ?_⟩) ?_ ?_
                rotate_left
                · intro w'
                  go_simp
                  with_reducible rfl
                rotate_left
                · simp only [Act.put, List.setIfInBounds_toArray, List.set_cons_zero, List.set_cons_succ, i64_w, i32_w]
                  rfl
                refine pure_ (i := 28) (N := some 170) (v := ?_) (a' := ?_) #[true, true, true, true, true, true, true, true, true, true, true, true, true, true, true, true, true, true, true, true, true, true, true, true, true, true, false, false, true, false, false, false, false, false, false, false, false, false, false, false, false, false, false, false, false, false, false, false, false, false, false, false, false, false, false, false, false, false, false, false, false, false, false, false, false, false, false, false, false, false, false, false, false, false, false, false, false, false, false] rfl rfl (by as_aux_lemma => kernel_rfl) (fun _ _ _ h => h) (Or.inl ⟨by rfl, ?_⟩) ?_ ?_
                rotate_left
                · intro w'
                  go_simp
                  with_reducible rfl
                rotate_left
                · simp only [Act.put, List.setIfInBounds_toArray, List.set_cons_zero, List.set_cons_succ, i64_w, i32_w]
                  rfl
                refine take_ (i := 26) (N := some 168) (v := ?_) (a' := ?_) #[true, true, true, true, true, true, true, true, true, true, true, true, true, true, true, true, true, true, true, true, true, true, true, true, true, true, true, false, true, false, false, false, false, false, false, false, false, false, false, false, false, false, false, false, false, false, false, false, false, false, false, false, false, false, false, false, false, false, false, false, false, false, false, false, false, false, false, false, false, false, false, false, false, false, false, false, false, false, false] rfl rfl (by as_aux_lemma => kernel_rfl) (fun _ _ _ h => h) (Or.inl ⟨by rfl, ?_⟩) hHeld ?_ ?_
                rotate_left
                · rintro w' ⟨s0, s1, s2, s3, s4, s5, s6, s7, s8, s9, s10, s11, s12⟩
                  go_simp
                  with_reducible rfl
                rotate_left
                · simp only [Act.put, List.setIfInBounds_toArray, List.set_cons_zero, List.set_cons_succ, i64_w, i32_w]
                  rfl
                refine one_ (i := 27) (N := some 169) #[true, true, true, true, true, true, true, true, true, true, true, true, true, true, true, true, true, true, true, true, true, true, true, true, true, true, true, true, true, false, false, false, false, false, false, false, false, false, false, false, false, false, false, false, false, false, false, false, false, false, false, false, false, false, false, false, false, false, false, false, false, false, false, false, false, false, false, false, false, false, false, false, false, false, false, false, false, false, false] rfl rfl (by as_aux_lemma => kernel_rfl) (by decide) (fun K hK => ?_)
                refine goes_ Try.func18 (by as_aux_lemma => kernel_rfl) rfl #[.pointer (some ⟨gs, 0, none⟩), .string k] (by rfl) rfl rfl (by (try simp only [List.map_toArray, List.map_cons, List.map_nil]); first | done | rfl) ?_
                with_reducible refine ((HLA.out _ (HM.out.below (HW.out.trans (hHeld.1.mono HW.out.size))))).mono ?_
                rintro e w12 ⟨rfl, hb12⟩
                refine ⟨_, rfl, ?_⟩
                have HN := Lib.hid (hHeld.1.trans (hb12.mono hHeld.1.size))
                refine hK.out _ _ ⟨HN.out, (HN.out.cell (p := ⟨bb, off + i * 5, none⟩) hbl).trans a0, (HN.out.cell (p := ⟨bb, off + i * 5 + 1, none⟩) hbl).trans a1, (HN.out.cell (p := ⟨bb, off + i * 5 + 2, none⟩) hbl).trans a2, (HN.out.cell (p := ⟨bb, off + i * 5 + 3, none⟩) hbl).trans a3, (HN.out.cell (p := ⟨bb, off + i * 5 + 4, none⟩) hbl).trans a4, (HN.out.cell (p := ⟨g6, 0, none⟩) hl6).trans s6, (HN.out.cell (p := ⟨g11, 0, none⟩) hg1).trans v0, (HN.out.cell (p := ⟨g11, 1, none⟩) hg1).trans v1, (HN.out.cell (p := ⟨g11, 2, none⟩) hg1).trans v2, (HN.out.cell (p := ⟨g13, 0, none⟩) hg3).trans u0, (HN.out.cell (p := ⟨g13, 1, none⟩) hg3).trans u1, (HN.out.cell (p := ⟨g13, 2, none⟩) hg3).trans u2⟩ (fun hHeld => ?_)
                clear hK K
                refine norm_ (a' := ?_) ?_ ?_
                rotate_left
                · show Act.put _ (some 169) _ = _
                  simp only [Act.put, List.setIfInBounds_toArray, List.set_cons_zero, List.set_cons_succ, i64_w, i32_w]
                  rfl
                refine pure_ (i := 29) (N := some 171) (v := ?_) (a' := ?_) #[true, true, true, true, true, true, true, true, true, true, true, true, true, true, true, true, true, true, true, true, true, true, true, true, true, true, true, true, true, true, false, false, false, false, false, false, false, false, false, false, false, false, false, false, false, false, false, false, false, false, false, false, false, false, false, false, false, false, false, false, false, false, false, false, false, false, false, false, false, false, false, false, false, false, false, false, false, false, false] rfl rfl (by as_aux_lemma => kernel_rfl) (fun _ _ _ h => h) (Or.inl ⟨by rfl, ?_⟩) ?_ ?_
                rotate_left
                · intro w'
                  go_simp
                  with_reducible rfl
                rotate_left
                · simp only [Act.put, List.setIfInBounds_toArray, List.set_cons_zero, List.set_cons_succ, i64_w, i32_w]
                  rfl
                refine pure_ (i := 30) (N := some 172) (v := ?_) (a' := ?_) #[true, true, true, true, true, true, true, true, true, true, true, true, true, true, true, true, true, true, true, true, true, true, true, true, true, true, true, true, true, true, true, false, false, false, false, false, false, false, false, false, false, false, false, false, false, false, false, false, false, false, false, false, false, false, false, false, false, false, false, false, false, false, false, false, false, false, false, false, false, false, false, false, false, false, false, false, false, false, false] rfl rfl (by as_aux_lemma => kernel_rfl) (fun _ _ _ h => h) (Or.inl ⟨by rfl, ?_⟩) ?_ ?_
                rotate_left
                · intro w'
                  go_simp
                  with_reducible rfl
                rotate_left
                · simp only [Act.put, List.setIfInBounds_toArray, List.set_cons_zero, List.set_cons_succ, i64_w, i32_w]
                  rfl
                refine pure_ (i := 31) (N := some 173) (v := ?_) (a' := ?_) #[true, true, true, true, true, true, true, true, true, true, true, true, true, true, true, true, true, true, true, true, true, true, true, true, true, true, true, true, true, true, true, true, false, false, false, false, false, false, false, false, false, false, false, false, false, false, false, false, false, false, false, false, false, false, false, false, false, false, false, false, false, false, false, false, false, false, false, false, false, false, false, false, false, false, false, false, false, false, false] rfl rfl (by as_aux_lemma => kernel_rfl) (fun _ _ _ h => h) (Or.inl ⟨by rfl, ?_⟩) ?_ ?_
                rotate_left
                · intro w'
                  go_simp
                  with_reducible rfl
                rotate_left
                · simp only [Act.put, List.setIfInBounds_toArray, List.set_cons_zero, List.set_cons_succ, i64_w, i32_w]
                  rfl
                refine pure_ (i := 32) (N := some 174) (v := ?_) (a' := ?_) #[true, true, true, true, true, true, true, true, true, true, true, true, true, true, true, true, true, true, true, true, true, true, true, true, true, true, true, true, true, true, true, true, true, false, false, false, false, false, false, false, false, false, false, false, false, false, false, false, false, false, false, false, false, false, false, false, false, false, false, false, false, false, false, false, false, false, false, false, false, false, false, false, false, false, false, false, false, false, false] rfl rfl (by as_aux_lemma => kernel_rfl) (fun _ _ _ h => h) (Or.inl ⟨by rfl, ?_⟩) ?_ ?_
                rotate_left
                · intro w'
                  go_simp
                  with_reducible rfl
                rotate_left
                · simp only [Act.put, List.setIfInBounds_toArray, List.set_cons_zero, List.set_cons_succ, i64_w, i32_w]
                  rfl
                refine pure_ (i := 33) (N := some 175) (v := ?_) (a' := ?_) #[true, true, true, true, true, true, true, true, true, true, true, true, true, true, true, true, true, true, true, true, true, true, true, true, true, true, true, true, true, true, true, true, true, true, false, false, false, false, false, false, false, false, false, false, false, false, false, false, false, false, false, false, false, false, false, false, false, false, false, false, false, false, false, false, false, false, false, false, false, false, false, false, false, false, false, false, false, false, false] rfl rfl (by as_aux_lemma => kernel_rfl) (fun _ _ _ h => h) (Or.inl ⟨by rfl, ?_⟩) ?_ ?_
                rotate_left
                · intro w'
                  go_simp
                  with_reducible rfl
                rotate_left
                · simp only [Act.put, List.setIfInBounds_toArray, List.set_cons_zero, List.set_cons_succ, i64_w, i32_w]
                  rfl
                refine pure_ (i := 34) (N := some 176) (v := ?_) (a' := ?_) #[true, true, true, true, true, true, true, true, true, true, true, true, true, true, true, true, true, true, true, true, true, true, true, true, true, true, true, true, true, true, true, true, true, true, true, false, false, false, false, false, false, false, false, false, false, false, false, false, false, false, false, false, false, false, false, false, false, false, false, false, false, false, false, false, false, false, false, false, false, false, false, false, false, false, false, false, false, false, false] rfl rfl (by as_aux_lemma => kernel_rfl) (fun _ _ _ h => h) (Or.inl ⟨by rfl, ?_⟩) ?_ ?_
                rotate_left
                · intro w'
                  go_simp
                  with_reducible rfl
                rotate_left
                · simp only [Act.put, List.setIfInBounds_toArray, List.set_cons_zero, List.set_cons_succ, i64_w, i32_w]
                  rfl
                refine pure_ (i := 35) (N := some 177) (v := ?_) (a' := ?_) #[true, true, true, true, true, true, true, true, true, true, true, true, true, true, true, true, true, true, true, true, true, true, true, true, true, true, true, true, true, true, true, true, true, true, true, true, false, false, false, false, false, false, false, false, false, false, false, false, false, false, false, false, false, false, false, false, false, false, false, false, false, false, false, false, false, false, false, false, false, false, false, false, false, false, false, false, false, false, false] rfl rfl (by as_aux_lemma => kernel_rfl) (fun _ _ _ h => h) (Or.inl ⟨by rfl, ?_⟩) ?_ ?_
                rotate_left
                · intro w'
                  go_simp
                  with_reducible rfl
                rotate_left
                · simp only [Act.put, List.setIfInBounds_toArray, List.set_cons_zero, List.set_cons_succ, i64_w, i32_w]
                  rfl
                refine pure_ (i := 36) (N := some 178) (v := ?_) (a' := ?_) #[true, true, true, true, true, true, true, true, true, true, true, true, true, true, true, true, true, true, true, true, true, true, true, true, true, true, true, true, true, true, true, true, true, true, true, true, true, false, false, false, false, false, false, false, false, false, false, false, false, false, false, false, false, false, false, false, false, false, false, false, false, false, false, false, false, false, false, false, false, false, false, false, false, false, false, false, false, false, false] rfl rfl (by as_aux_lemma => kernel_rfl) (fun _ _ _ h => h) (Or.inl ⟨by rfl, ?_⟩) ?_ ?_
                rotate_left
                · intro w'
                  go_simp
                  with_reducible rfl
                rotate_left
                · simp only [Act.put, List.setIfInBounds_toArray, List.set_cons_zero, List.set_cons_succ, i64_w, i32_w]
                  rfl
                refine pure_ (i := 38) (N := some 180) (v := ?_) (a' := ?_) #[true, true, true, true, true, true, true, true, true, true, true, true, true, true, true, true, true, true, true, true, true, true, true, true, true, true, true, true, true, true, true, true, true, true, true, true, true, false, true, false, false, false, false, false, false, false, false, false, false, false, false, false, false, false, false, false, false, false, false, false, false, false, false, false, false, false, false, false, false, false, false, false, false, false, false, false, false, false, false] rfl rfl (by as_aux_lemma => kernel_rfl) (fun _ _ _ h => h) (Or.inl ⟨by rfl, ?_⟩) ?_ ?_
                rotate_left
                · intro w'
                  go_simp
                  with_reducible rfl
                rotate_left
                · simp only [Act.put, List.setIfInBounds_toArray, List.set_cons_zero, List.set_cons_succ, i64_w, i32_w]
                  rfl
                refine pure_ (i := 39) (N := some 181) (v := ?_) (a' := ?_) #[true, true, true, true, true, true, true, true, true, true, true, true, true, true, true, true, true, true, true, true, true, true, true, true, true, true, true, true, true, true, true, true, true, true, true, true, true, false, true, true, false, false, false, false, false, false, false, false, false, false, false, false, false, false, false, false, false, false, false, false, false, false, false, false, false, false, false, false, false, false, false, false, false, false, false, false, false, false, false] rfl rfl (by as_aux_lemma => kernel_rfl) (fun _ _ _ h => h) (Or.inl ⟨by rfl, ?_⟩) ?_ ?_
                rotate_left
                · intro w'
                  go_simp
                  with_reducible rfl
                rotate_left
                · simp only [Act.put, List.setIfInBounds_toArray, List.set_cons_zero, List.set_cons_succ, i64_w, i32_w]
                  rfl
                refine pure_ (i := 40) (N := some 182) (v := ?_) (a' := ?_) #[true, true, true, true, true, true, true, true, true, true, true, true, true, true, true, true, true, true, true, true, true, true, true, true, true, true, true, true, true, true, true, true, true, true, true, true, true, false, true, true, true, false, false, false, false, false, false, false, false, false, false, false, false, false, false, false, false, false, false, false, false, false, false, false, false, false, false, false, false, false, false, false, false, false, false, false, false, false, false] rfl rfl (by as_aux_lemma => kernel_rfl) (fun _ _ _ h => h) (Or.inl ⟨by rfl, ?_⟩) ?_ ?_
                rotate_left
                · intro w'
                  go_simp
                  with_reducible rfl
                rotate_left
                · simp only [Act.put, List.setIfInBounds_toArray, List.set_cons_zero, List.set_cons_succ, i64_w, i32_w]
                  rfl
                refine pure_ (i := 41) (N := some 183) (v := ?_) (a' := ?_) #[true, true, true, true, true, true, true, true, true, true, true, true, true, true, true, true, true, true, true, true, true, true, true, true, true, true, true, true, true, true, true, true, true, true, true, true, true, false, true, true, true, true, false, false, false, false, false, false, false, false, false, false, false, false, false, false, false, false, false, false, false, false, false, false, false, false, false, false, false, false, false, false, false, false, false, false, false, false, false] rfl rfl (by as_aux_lemma => kernel_rfl) (fun _ _ _ h => h) (Or.inl ⟨by rfl, ?_⟩) ?_ ?_
                rotate_left
                · intro w'
                  go_simp
                  with_reducible rfl
                rotate_left
                · simp only [Act.put, List.setIfInBounds_toArray, List.set_cons_zero, List.set_cons_succ, i64_w, i32_w]
                  rfl
                refine pure_ (i := 43) (N := some 185) (v := ?_) (a' := ?_) #[true, true, true, true, true, true, true, true, true, true, true, true, true, true, true, true, true, true, true, true, true, true, true, true, true, true, true, true, true, true, true, true, true, true, true, true, true, false, true, true, true, true, false, true, false, false, false, false, false, false, false, false, false, false, false, false, false, false, false, false, false, false, false, false, false, false, false, false, false, false, false, false, false, false, false, false, false, false, false] rfl rfl (by as_aux_lemma => kernel_rfl) (fun _ _ _ h => h) (Or.inl ⟨by rfl, ?_⟩) ?_ ?_
                rotate_left
                · intro w'
                  go_simp
                  with_reducible rfl
                rotate_left
                · simp only [Act.put, List.setIfInBounds_toArray, List.set_cons_zero, List.set_cons_succ, i64_w, i32_w]
                  rfl
                refine pure_ (i := 44) (N := some 186) (v := ?_) (a' := ?_) #[true, true, true, true, true, true, true, true, true, true, true, true, true, true, true, true, true, true, true, true, true, true, true, true, true, true, true, true, true, true, true, true, true, true, true, true, true, false, true, true, true, true, false, true, true, false, false, false, false, false, false, false, false, false, false, false, false, false, false, false, false, false, false, false, false, false, false, false, false, false, false, false, false, false, false, false, false, false, false] rfl rfl (by as_aux_lemma => kernel_rfl) (fun _ _ _ h => h) (Or.inl ⟨by rfl, ?_⟩) ?_ ?_
                rotate_left
                · intro w'
                  go_simp
                  with_reducible rfl
                rotate_left
                · simp only [Act.put, List.setIfInBounds_toArray, List.set_cons_zero, List.set_cons_succ, i64_w, i32_w]
                  rfl
                refine pure_ (i := 45) (N := some 187) (v := ?_) (a' := ?_) #[true, true, true, true, true, true, true, true, true, true, true, true, true, true, true, true, true, true, true, true, true, true, true, true, true, true, true, true, true, true, true, true, true, true, true, true, true, false, true, true, true, true, false, true, true, true, false, false, false, false, false, false, false, false, false, false, false, false, false, false, false, false, false, false, false, false, false, false, false, false, false, false, false, false, false, false, false, false, false] rfl rfl (by as_aux_lemma => kernel_rfl) (fun _ _ _ h => h) (Or.inl ⟨by rfl, ?_⟩) ?_ ?_
                rotate_left
                · intro w'
                  go_simp
                  with_reducible rfl
                rotate_left
                · simp only [Act.put, List.setIfInBounds_toArray, List.set_cons_zero, List.set_cons_succ, i64_w, i32_w]
                  rfl
                refine pure_ (i := 46) (N := some 188) (v := ?_) (a' := ?_) #[true, true, true, true, true, true, true, true, true, true, true, true, true, true, true, true, true, true, true, true, true, true, true, true, true, true, true, true, true, true, true, true, true, true, true, true, true, false, true, true, true, true, false, true, true, true, true, false, false, false, false, false, false, false, false, false, false, false, false, false, false, false, false, false, false, false, false, false, false, false, false, false, false, false, false, false, false, false, false] rfl rfl (by as_aux_lemma => kernel_rfl) (fun _ _ _ h => h) (Or.inl ⟨by rfl, ?_⟩) ?_ ?_
                rotate_left
                · intro w'
                  go_simp
                  with_reducible rfl
                rotate_left
                · simp only [Act.put, List.setIfInBounds_toArray, List.set_cons_zero, List.set_cons_succ, i64_w, i32_w]
                  rfl
                refine pure_ (i := 48) (N := some 190) (v := ?_) (a' := ?_) #[true, true, true, true, true, true, true, true, true, true, true, true, true, true, true, true, true, true, true, true, true, true, true, true, true, true, true, true, true, true, true, true, true, true, true, true, true, false, true, true, true, true, false, true, true, true, true, false, true, false, false, false, false, false, false, false, false, false, false, false, false, false, false, false, false, false, false, false, false, false, false, false, false, false, false, false, false, false, false] rfl rfl (by as_aux_lemma => kernel_rfl) (fun _ _ _ h => h) (Or.inl ⟨by rfl, ?_⟩) ?_ ?_
                rotate_left
                · intro w'
                  go_simp
                  with_reducible rfl
                rotate_left
                · simp only [Act.put, List.setIfInBounds_toArray, List.set_cons_zero, List.set_cons_succ, i64_w, i32_w]
                  rfl
                refine pure_ (i := 49) (N := some 191) (v := ?_) (a' := ?_) #[true, true, true, true, true, true, true, true, true, true, true, true, true, true, true, true, true, true, true, true, true, true, true, true, true, true, true, true, true, true, true, true, true, true, true, true, true, false, true, true, true, true, false, true, true, true, true, false, true, true, false, false, false, false, false, false, false, false, false, false, false, false, false, false, false, false, false, false, false, false, false, false, false, false, false, false, false, false, false] rfl rfl (by as_aux_lemma => kernel_rfl) (fun _ _ _ h => h) (Or.inl ⟨by rfl, ?_⟩) ?_ ?_
                rotate_left
                · intro w'
                  go_simp
                  with_reducible rfl
                rotate_left
                · simp only [Act.put, List.setIfInBounds_toArray, List.set_cons_zero, List.set_cons_succ, i64_w, i32_w]
                  rfl
                refine pure_ (i := 50) (N := some 192) (v := ?_) (a' := ?_) #[true, true, true, true, true, true, true, true, true, true, true, true, true, true, true, true, true, true, true, true, true, true, true, true, true, true, true, true, true, true, true, true, true, true, true, true, true, false, true, true, true, true, false, true, true, true, true, false, true, true, true, false, false, false, false, false, false, false, false, false, false, false, false, false, false, false, false, false, false, false, false, false, false, false, false, false, false, false, false] rfl rfl (by as_aux_lemma => kernel_rfl) (fun _ _ _ h => h) (Or.inl ⟨by rfl, ?_⟩) ?_ ?_
                rotate_left
                · intro w'
                  go_simp
                  with_reducible rfl
                rotate_left
                · simp only [Act.put, List.setIfInBounds_toArray, List.set_cons_zero, List.set_cons_succ, i64_w, i32_w]
                  rfl
                refine pure_ (i := 51) (N := some 193) (v := ?_) (a' := ?_) #[true, true, true, true, true, true, true, true, true, true, true, true, true, true, true, true, true, true, true, true, true, true, true, true, true, true, true, true, true, true, true, true, true, true, true, true, true, false, true, true, true, true, false, true, true, true, true, false, true, true, true, true, false, false, false, false, false, false, false, false, false, false, false, false, false, false, false, false, false, false, false, false, false, false, false, false, false, false, false] rfl rfl (by as_aux_lemma => kernel_rfl) (fun _ _ _ h => h) (Or.inl ⟨by rfl, ?_⟩) ?_ ?_
                rotate_left
                · intro w'
                  go_simp
                  with_reducible rfl
                rotate_left
                · simp only [Act.put, List.setIfInBounds_toArray, List.set_cons_zero, List.set_cons_succ, i64_w, i32_w]
                  rfl
                refine pure_ (i := 55) (N := some 197) (v := ?_) (a' := ?_) #[true, true, true, true, true, true, true, true, true, true, true, true, true, true, true, true, true, true, true, true, true, true, true, true, true, true, true, true, true, true, true, true, true, true, true, true, true, false, true, true, true, true, false, true, true, true, true, false, true, true, true, true, false, false, false, true, false, false, false, false, false, false, false, false, false, false, false, false, false, false, false, false, false, false, false, false, false, false, false] rfl rfl (by as_aux_lemma => kernel_rfl) (fun _ _ _ h => h) (Or.inl ⟨by rfl, ?_⟩) ?_ ?_
                rotate_left
                · intro w'
                  go_simp
                  with_reducible rfl
                rotate_left
                · simp only [Act.put, List.setIfInBounds_toArray, List.set_cons_zero, List.set_cons_succ, i64_w, i32_w]
                  rfl
                refine pure_ (i := 56) (N := some 198) (v := ?_) (a' := ?_) #[true, true, true, true, true, true, true, true, true, true, true, true, true, true, true, true, true, true, true, true, true, true, true, true, true, true, true, true, true, true, true, true, true, true, true, true, true, false, true, true, true, true, false, true, true, true, true, false, true, true, true, true, false, false, false, true, true, false, false, false, false, false, false, false, false, false, false, false, false, false, false, false, false, false, false, false, false, false, false] rfl rfl (by as_aux_lemma => kernel_rfl) (fun _ _ _ h => h) (Or.inl ⟨by rfl, ?_⟩) ?_ ?_
                rotate_left
                · intro w'
                  go_simp
                  with_reducible rfl
                rotate_left
                · simp only [Act.put, List.setIfInBounds_toArray, List.set_cons_zero, List.set_cons_succ, i64_w, i32_w]
                  rfl
                refine pure_ (i := 57) (N := some 199) (v := ?_) (a' := ?_) #[true, true, true, true, true, true, true, true, true, true, true, true, true, true, true, true, true, true, true, true, true, true, true, true, true, true, true, true, true, true, true, true, true, true, true, true, true, false, true, true, true, true, false, true, true, true, true, false, true, true, true, true, false, false, false, true, true, true, false, false, false, false, false, false, false, false, false, false, false, false, false, false, false, false, false, false, false, false, false] rfl rfl (by as_aux_lemma => kernel_rfl) (fun _ _ _ h => h) (Or.inl ⟨by rfl, ?_⟩) ?_ ?_
                rotate_left
                · intro w'
                  go_simp
                  with_reducible rfl
                rotate_left
                · simp only [Act.put, List.setIfInBounds_toArray, List.set_cons_zero, List.set_cons_succ, i64_w, i32_w]
                  rfl
                refine pure_ (i := 58) (N := some 200) (v := ?_) (a' := ?_) #[true, true, true, true, true, true, true, true, true, true, true, true, true, true, true, true, true, true, true, true, true, true, true, true, true, true, true, true, true, true, true, true, true, true, true, true, true, false, true, true, true, true, false, true, true, true, true, false, true, true, true, true, false, false, false, true, true, true, true, false, false, false, false, false, false, false, false, false, false, false, false, false, false, false, false, false, false, false, false] rfl rfl (by as_aux_lemma => kernel_rfl) (fun _ _ _ h => h) (Or.inl ⟨by rfl, ?_⟩) ?_ ?_
                rotate_left
                · intro w'
                  go_simp
                  with_reducible rfl
                rotate_left
                · simp only [Act.put, List.setIfInBounds_toArray, List.set_cons_zero, List.set_cons_succ, i64_w, i32_w]
                  rfl
                refine pure_ (i := 60) (N := some 202) (v := ?_) (a' := ?_) #[true, true, true, true, true, true, true, true, true, true, true, true, true, true, true, true, true, true, true, true, true, true, true, true, true, true, true, true, true, true, true, true, true, true, true, true, true, false, true, true, true, true, false, true, true, true, true, false, true, true, true, true, false, false, false, true, true, true, true, false, true, false, false, false, false, false, false, false, false, false, false, false, false, false, false, false, false, false, false] rfl rfl (by as_aux_lemma => kernel_rfl) (fun _ _ _ h => h) (Or.inl ⟨by rfl, ?_⟩) ?_ ?_
                rotate_left
                · intro w'
                  go_simp
                  with_reducible rfl
                rotate_left
                · simp only [Act.put, List.setIfInBounds_toArray, List.set_cons_zero, List.set_cons_succ, i64_w, i32_w]
                  rfl
                refine pure_ (i := 61) (N := some 203) (v := ?_) (a' := ?_) #[true, true, true, true, true, true, true, true, true, true, true, true, true, true, true, true, true, true, true, true, true, true, true, true, true, true, true, true, true, true, true, true, true, true, true, true, true, false, true, true, true, true, false, true, true, true, true, false, true, true, true, true, false, false, false, true, true, true, true, false, true, true, false, false, false, false, false, false, false, false, false, false, false, false, false, false, false, false, false] rfl rfl (by as_aux_lemma => kernel_rfl) (fun _ _ _ h => h) (Or.inl ⟨by rfl, ?_⟩) ?_ ?_
                rotate_left
                · intro w'
                  go_simp
                  with_reducible rfl
                rotate_left
                · simp only [Act.put, List.setIfInBounds_toArray, List.set_cons_zero, List.set_cons_succ, i64_w, i32_w]
                  rfl
                refine pure_ (i := 62) (N := some 204) (v := ?_) (a' := ?_) #[true, true, true, true, true, true, true, true, true, true, true, true, true, true, true, true, true, true, true, true, true, true, true, true, true, true, true, true, true, true, true, true, true, true, true, true, true, false, true, true, true, true, false, true, true, true, true, false, true, true, true, true, false, false, false, true, true, true, true, false, true, true, true, false, false, false, false, false, false, false, false, false, false, false, false, false, false, false, false] rfl rfl (by as_aux_lemma => kernel_rfl) (fun _ _ _ h => h) (Or.inl ⟨by rfl, ?_⟩) ?_ ?_
                rotate_left
                · intro w'
                  go_simp
                  with_reducible rfl
                rotate_left
                · simp only [Act.put, List.setIfInBounds_toArray, List.set_cons_zero, List.set_cons_succ, i64_w, i32_w]
                  rfl
                refine pure_ (i := 63) (N := some 205) (v := ?_) (a' := ?_) #[true, true, true, true, true, true, true, true, true, true, true, true, true, true, true, true, true, true, true, true, true, true, true, true, true, true, true, true, true, true, true, true, true, true, true, true, true, false, true, true, true, true, false, true, true, true, true, false, true, true, true, true, false, false, false, true, true, true, true, false, true, true, true, true, false, false, false, false, false, false, false, false, false, false, false, false, false, false, false] rfl rfl (by as_aux_lemma => kernel_rfl) (fun _ _ _ h => h) (Or.inl ⟨by rfl, ?_⟩) ?_ ?_
                rotate_left
                · intro w'
                  go_simp
                  with_reducible rfl
                rotate_left
                · simp only [Act.put, List.setIfInBounds_toArray, List.set_cons_zero, List.set_cons_succ, i64_w, i32_w]
                  rfl
                refine pure_ (i := 65) (N := some 207) (v := ?_) (a' := ?_) #[true, true, true, true, true, true, true, true, true, true, true, true, true, true, true, true, true, true, true, true, true, true, true, true, true, true, true, true, true, true, true, true, true, true, true, true, true, false, true, true, true, true, false, true, true, true, true, false, true, true, true, true, false, false, false, true, true, true, true, false, true, true, true, true, false, true, false, false, false, false, false, false, false, false, false, false, false, false, false] rfl rfl (by as_aux_lemma => kernel_rfl) (fun _ _ _ h => h) (Or.inl ⟨by rfl, ?_⟩) ?_ ?_
                rotate_left
                · intro w'
                  go_simp
                  with_reducible rfl
                rotate_left
                · simp only [Act.put, List.setIfInBounds_toArray, List.set_cons_zero, List.set_cons_succ, i64_w, i32_w]
                  rfl
                refine pure_ (i := 66) (N := some 208) (v := ?_) (a' := ?_) #[true, true, true, true, true, true, true, true, true, true, true, true, true, true, true, true, true, true, true, true, true, true, true, true, true, true, true, true, true, true, true, true, true, true, true, true, true, false, true, true, true, true, false, true, true, true, true, false, true, true, true, true, false, false, false, true, true, true, true, false, true, true, true, true, false, true, true, false, false, false, false, false, false, false, false, false, false, false, false] rfl rfl (by as_aux_lemma => kernel_rfl) (fun _ _ _ h => h) (Or.inl ⟨by rfl, ?_⟩) ?_ ?_
                rotate_left
                · intro w'
                  go_simp
                  with_reducible rfl
                rotate_left
                · simp only [Act.put, List.setIfInBounds_toArray, List.set_cons_zero, List.set_cons_succ, i64_w, i32_w]
                  rfl
                refine pure_ (i := 67) (N := some 209) (v := ?_) (a' := ?_) #[true, true, true, true, true, true, true, true, true, true, true, true, true, true, true, true, true, true, true, true, true, true, true, true, true, true, true, true, true, true, true, true, true, true, true, true, true, false, true, true, true, true, false, true, true, true, true, false, true, true, true, true, false, false, false, true, true, true, true, false, true, true, true, true, false, true, true, true, false, false, false, false, false, false, false, false, false, false, false] rfl rfl (by as_aux_lemma => kernel_rfl) (fun _ _ _ h => h) (Or.inl ⟨by rfl, ?_⟩) ?_ ?_
                rotate_left
                · intro w'
                  go_simp
                  with_reducible rfl
                rotate_left
                · simp only [Act.put, List.setIfInBounds_toArray, List.set_cons_zero, List.set_cons_succ, i64_w, i32_w]
                  rfl
                refine pure_ (i := 68) (N := some 210) (v := ?_) (a' := ?_) #[true, true, true, true, true, true, true, true, true, true, true, true, true, true, true, true, true, true, true, true, true, true, true, true, true, true, true, true, true, true, true, true, true, true, true, true, true, false, true, true, true, true, false, true, true, true, true, false, true, true, true, true, false, false, false, true, true, true, true, false, true, true, true, true, false, true, true, true, true, false, false, false, false, false, false, false, false, false, false] rfl rfl (by as_aux_lemma => kernel_rfl) (fun _ _ _ h => h) (Or.inl ⟨by rfl, ?_⟩) ?_ ?_
                rotate_left
                · intro w'
                  go_simp
                  with_reducible rfl
                rotate_left
                · simp only [Act.put, List.setIfInBounds_toArray, List.set_cons_zero, List.set_cons_succ, i64_w, i32_w]
                  rfl
                refine pure_ (i := 70) (N := some 212) (v := ?_) (a' := ?_) #[true, true, true, true, true, true, true, true, true, true, true, true, true, true, true, true, true, true, true, true, true, true, true, true, true, true, true, true, true, true, true, true, true, true, true, true, true, false, true, true, true, true, false, true, true, true, true, false, true, true, true, true, false, false, false, true, true, true, true, false, true, true, true, true, false, true, true, true, true, false, true, false, false, false, false, false, false, false, false] rfl rfl (by as_aux_lemma => kernel_rfl) (fun _ _ _ h => h) (Or.inl ⟨by rfl, ?_⟩) ?_ ?_
                rotate_left
                · intro w'
                  go_simp
                  with_reducible rfl
                rotate_left
                · simp only [Act.put, List.setIfInBounds_toArray, List.set_cons_zero, List.set_cons_succ, i64_w, i32_w]
                  rfl
                refine pure_ (i := 71) (N := some 213) (v := ?_) (a' := ?_) #[true, true, true, true, true, true, true, true, true, true, true, true, true, true, true, true, true, true, true, true, true, true, true, true, true, true, true, true, true, true, true, true, true, true, true, true, true, false, true, true, true, true, false, true, true, true, true, false, true, true, true, true, false, false, false, true, true, true, true, false, true, true, true, true, false, true, true, true, true, false, true, true, false, false, false, false, false, false, false] rfl rfl (by as_aux_lemma => kernel_rfl) (fun _ _ _ h => h) (Or.inl ⟨by rfl, ?_⟩) ?_ ?_
                rotate_left
                · intro w'
                  go_simp
                  with_reducible rfl
                rotate_left
                · simp only [Act.put, List.setIfInBounds_toArray, List.set_cons_zero, List.set_cons_succ, i64_w, i32_w]
                  rfl
                refine pure_ (i := 72) (N := some 214) (v := ?_) (a' := ?_) #[true, true, true, true, true, true, true, true, true, true, true, true, true, true, true, true, true, true, true, true, true, true, true, true, true, true, true, true, true, true, true, true, true, true, true, true, true, false, true, true, true, true, false, true, true, true, true, false, true, true, true, true, false, false, false, true, true, true, true, false, true, true, true, true, false, true, true, true, true, false, true, true, true, false, false, false, false, false, false] rfl rfl (by as_aux_lemma => kernel_rfl) (fun _ _ _ h => h) (Or.inl ⟨by rfl, ?_⟩) ?_ ?_
                rotate_left
                · intro w'
                  go_simp
                  with_reducible rfl
                rotate_left
                · simp only [Act.put, List.setIfInBounds_toArray, List.set_cons_zero, List.set_cons_succ, i64_w, i32_w]
                  rfl
                refine pure_ (i := 73) (N := some 215) (v := ?_) (a' := ?_) #[true, true, true, true, true, true, true, true, true, true, true, true, true, true, true, true, true, true, true, true, true, true, true, true, true, true, true, true, true, true, true, true, true, true, true, true, true, false, true, true, true, true, false, true, true, true, true, false, true, true, true, true, false, false, false, true, true, true, true, false, true, true, true, true, false, true, true, true, true, false, true, true, true, true, false, false, false, false, false] rfl rfl (by as_aux_lemma => kernel_rfl) (fun _ _ _ h => h) (Or.inl ⟨by rfl, ?_⟩) ?_ ?_
                rotate_left
                · intro w'
                  go_simp
                  with_reducible rfl
                rotate_left
                · simp only [Act.put, List.setIfInBounds_toArray, List.set_cons_zero, List.set_cons_succ, i64_w, i32_w]
                  rfl
                refine take_ (i := 37) (N := some 179) (v := ?_) (a' := ?_) #[true, true, true, true, true, true, true, true, true, true, true, true, true, true, true, true, true, true, true, true, true, true, true, true, true, true, true, true, true, true, true, true, true, true, true, true, true, true, true, true, true, true, false, true, true, true, true, false, true, true, true, true, false, false, false, true, true, true, true, false, true, true, true, true, false, true, true, true, true, false, true, true, true, true, false, false, false, false, false] rfl rfl (by as_aux_lemma => kernel_rfl) (fun _ _ _ h => h) (Or.inl ⟨by rfl, ?_⟩) hHeld ?_ ?_
                rotate_left
                · rintro w' ⟨s0, s1, s2, s3, s4, s5, s6, s7, s8, s9, s10, s11, s12⟩
                  go_simp
                  with_reducible rfl
                rotate_left
                · simp only [Act.put, List.setIfInBounds_toArray, List.set_cons_zero, List.set_cons_succ, i64_w, i32_w]
                  rfl
                refine take_ (i := 42) (N := some 184) (v := ?_) (a' := ?_) #[true, true, true, true, true, true, true, true, true, true, true, true, true, true, true, true, true, true, true, true, true, true, true, true, true, true, true, true, true, true, true, true, true, true, true, true, true, true, true, true, true, true, true, true, true, true, true, false, true, true, true, true, false, false, false, true, true, true, true, false, true, true, true, true, false, true, true, true, true, false, true, true, true, true, false, false, false, false, false] rfl rfl (by as_aux_lemma => kernel_rfl) (fun _ _ _ h => h) (Or.inl ⟨by rfl, ?_⟩) hHeld ?_ ?_
                rotate_left
                · rintro w' ⟨s0, s1, s2, s3, s4, s5, s6, s7, s8, s9, s10, s11, s12⟩
                  go_simp
                  with_reducible rfl
                rotate_left
                · simp only [Act.put, List.setIfInBounds_toArray, List.set_cons_zero, List.set_cons_succ, i64_w, i32_w]
                  rfl
                refine take_ (i := 47) (N := some 189) (v := ?_) (a' := ?_) #[true, true, true, true, true, true, true, true, true, true, true, true, true, true, true, true, true, true, true, true, true, true, true, true, true, true, true, true, true, true, true, true, true, true, true, true, true, true, true, true, true, true, true, true, true, true, true, true, true, true, true, true, false, false, false, true, true, true, true, false, true, true, true, true, false, true, true, true, true, false, true, true, true, true, false, false, false, false, false] rfl rfl (by as_aux_lemma => kernel_rfl) (fun _ _ _ h => h) (Or.inl ⟨by rfl, ?_⟩) hHeld ?_ ?_
                rotate_left
                · rintro w' ⟨s0, s1, s2, s3, s4, s5, s6, s7, s8, s9, s10, s11, s12⟩
                  go_simp
                  with_reducible rfl
                rotate_left
                · simp only [Act.put, List.setIfInBounds_toArray, List.set_cons_zero, List.set_cons_succ, i64_w, i32_w]
                  rfl
                refine take_ (i := 52) (N := some 194) (v := ?_) (a' := ?_) #[true, true, true, true, true, true, true, true, true, true, true, true, true, true, true, true, true, true, true, true, true, true, true, true, true, true, true, true, true, true, true, true, true, true, true, true, true, true, true, true, true, true, true, true, true, true, true, true, true, true, true, true, true, false, false, true, true, true, true, false, true, true, true, true, false, true, true, true, true, false, true, true, true, true, false, false, false, false, false] rfl rfl (by as_aux_lemma => kernel_rfl) (fun _ _ _ h => h) (Or.inl ⟨by rfl, ?_⟩) hHeld ?_ ?_
                rotate_left
                · rintro w' ⟨s0, s1, s2, s3, s4, s5, s6, s7, s8, s9, s10, s11, s12⟩
                  go_simp
                  with_reducible rfl
                rotate_left
                · simp only [Act.put, List.setIfInBounds_toArray, List.set_cons_zero, List.set_cons_succ, i64_w, i32_w]
                  rfl
                refine take_ (i := 54) (N := some 196) (v := ?_) (a' := ?_) #[true, true, true, true, true, true, true, true, true, true, true, true, true, true, true, true, true, true, true, true, true, true, true, true, true, true, true, true, true, true, true, true, true, true, true, true, true, true, true, true, true, true, true, true, true, true, true, true, true, true, true, true, true, false, true, true, true, true, true, false, true, true, true, true, false, true, true, true, true, false, true, true, true, true, false, false, false, false, false] rfl rfl (by as_aux_lemma => kernel_rfl) (fun _ _ _ h => h) (Or.inl ⟨by rfl, ?_⟩) hHeld ?_ ?_
                rotate_left
                · rintro w' ⟨s0, s1, s2, s3, s4, s5, s6, s7, s8, s9, s10, s11, s12⟩
                  go_simp
                  with_reducible rfl
                rotate_left
                · simp only [Act.put, List.setIfInBounds_toArray, List.set_cons_zero, List.set_cons_succ, i64_w, i32_w]
                  rfl
                refine take_ (i := 59) (N := some 201) (v := ?_) (a' := ?_) #[true, true, true, true, true, true, true, true, true, true, true, true, true, true, true, true, true, true, true, true, true, true, true, true, true, true, true, true, true, true, true, true, true, true, true, true, true, true, true, true, true, true, true, true, true, true, true, true, true, true, true, true, true, false, true, true, true, true, true, true, true, true, true, true, false, true, true, true, true, false, true, true, true, true, false, false, false, false, false] rfl rfl (by as_aux_lemma => kernel_rfl) (fun _ _ _ h => h) (Or.inl ⟨by rfl, ?_⟩) hHeld ?_ ?_
                rotate_left
                · rintro w' ⟨s0, s1, s2, s3, s4, s5, s6, s7, s8, s9, s10, s11, s12⟩
                  go_simp
                  with_reducible rfl
                rotate_left
                · simp only [Act.put, List.setIfInBounds_toArray, List.set_cons_zero, List.set_cons_succ, i64_w, i32_w]
                  rfl
                refine take_ (i := 64) (N := some 206) (v := ?_) (a' := ?_) #[true, true, true, true, true, true, true, true, true, true, true, true, true, true, true, true, true, true, true, true, true, true, true, true, true, true, true, true, true, true, true, true, true, true, true, true, true, true, true, true, true, true, true, true, true, true, true, true, true, true, true, true, true, false, true, true, true, true, true, true, true, true, true, true, true, true, true, true, true, false, true, true, true, true, false, false, false, false, false] rfl rfl (by as_aux_lemma => kernel_rfl) (fun _ _ _ h => h) (Or.inl ⟨by rfl, ?_⟩) hHeld ?_ ?_
                rotate_left
                · rintro w' ⟨s0, s1, s2, s3, s4, s5, s6, s7, s8, s9, s10, s11, s12⟩
                  go_simp
                  with_reducible rfl
                rotate_left
                · simp only [Act.put, List.setIfInBounds_toArray, List.set_cons_zero, List.set_cons_succ, i64_w, i32_w]
                  rfl
                refine take_ (i := 69) (N := some 211) (v := ?_) (a' := ?_) #[true, true, true, true, true, true, true, true, true, true, true, true, true, true, true, true, true, true, true, true, true, true, true, true, true, true, true, true, true, true, true, true, true, true, true, true, true, true, true, true, true, true, true, true, true, true, true, true, true, true, true, true, true, false, true, true, true, true, true, true, true, true, true, true, true, true, true, true, true, true, true, true, true, true, false, false, false, false, false] rfl rfl (by as_aux_lemma => kernel_rfl) (fun _ _ _ h => h) (Or.inl ⟨by rfl, ?_⟩) hHeld ?_ ?_
                rotate_left
                · rintro w' ⟨s0, s1, s2, s3, s4, s5, s6, s7, s8, s9, s10, s11, s12⟩
                  go_simp
                  with_reducible rfl
                rotate_left
                · simp only [Act.put, List.setIfInBounds_toArray, List.set_cons_zero, List.set_cons_succ, i64_w, i32_w]
                  rfl
                refine take_ (i := 74) (N := some 216) (v := ?_) (a' := ?_) #[true, true, true, true, true, true, true, true, true, true, true, true, true, true, true, true, true, true, true, true, true, true, true, true, true, true, true, true, true, true, true, true, true, true, true, true, true, true, true, true, true, true, true, true, true, true, true, true, true, true, true, true, true, false, true, true, true, true, true, true, true, true, true, true, true, true, true, true, true, true, true, true, true, true, true, false, false, false, false] rfl rfl (by as_aux_lemma => kernel_rfl) (fun _ _ _ h => h) (Or.inl ⟨by rfl, ?_⟩) hHeld ?_ ?_
                rotate_left
                · rintro w' ⟨s0, s1, s2, s3, s4, s5, s6, s7, s8, s9, s10, s11, s12⟩
                  go_simp
                  with_reducible rfl
                rotate_left
                · simp only [Act.put, List.setIfInBounds_toArray, List.set_cons_zero, List.set_cons_succ, i64_w, i32_w]
                  rfl
                refine one_ (i := 53) (N := some 195) #[true, true, true, true, true, true, true, true, true, true, true, true, true, true, true, true, true, true, true, true, true, true, true, true, true, true, true, true, true, true, true, true, true, true, true, true, true, true, true, true, true, true, true, true, true, true, true, true, true, true, true, true, true, true, true, true, true, true, true, true, true, true, true, true, true, true, true, true, true, true, true, true, true, true, true, false, false, false, false] rfl rfl (by as_aux_lemma => kernel_rfl) (by decide) (fun K hK => ?_)
                refine goes_ Try.func12 (by as_aux_lemma => kernel_rfl) rfl #[.pointer (some ⟨gs, 0, none⟩), .string lo, .string hk, .int .u64 (t : Int), .int .i64 most] (by rfl) rfl rfl (by (try simp only [List.map_toArray, List.map_cons, List.map_nil]); first | done | rfl) ?_
                with_reducible refine ((HSC.out _ (HM.out.below (HW.out.trans (hHeld.1.mono HW.out.size))))).mono ?_
                rintro e w13 ⟨v13, rfl, ho13, hb13⟩
                refine ⟨_, rfl, ?_⟩
                obtain ⟨A13, c13, rfl, _⟩ := ho13.slice_
                have HO13 := Lib.hid (ho13.row wrC_len); clear ho13
                have HN := Lib.hid (hHeld.1.trans (hb13.mono hHeld.1.size))
                refine hK.out _ _ ⟨HN.out, (HN.out.cell (p := ⟨bb, off + i * 5, none⟩) hbl).trans a0, (HN.out.cell (p := ⟨bb, off + i * 5 + 1, none⟩) hbl).trans a1, (HN.out.cell (p := ⟨bb, off + i * 5 + 2, none⟩) hbl).trans a2, (HN.out.cell (p := ⟨bb, off + i * 5 + 3, none⟩) hbl).trans a3, (HN.out.cell (p := ⟨bb, off + i * 5 + 4, none⟩) hbl).trans a4, (HN.out.cell (p := ⟨g6, 0, none⟩) hl6).trans s6, (HN.out.cell (p := ⟨g11, 0, none⟩) hg1).trans v0, (HN.out.cell (p := ⟨g11, 1, none⟩) hg1).trans v1, (HN.out.cell (p := ⟨g11, 2, none⟩) hg1).trans v2, (HN.out.cell (p := ⟨g13, 0, none⟩) hg3).trans u0, (HN.out.cell (p := ⟨g13, 1, none⟩) hg3).trans u1, (HN.out.cell (p := ⟨g13, 2, none⟩) hg3).trans u2⟩ (fun hHeld => ?_)
                clear hK K
                refine norm_ (a' := ?_) ?_ ?_
                rotate_left
                · show Act.put _ (some 195) _ = _
                  simp only [Act.put, List.setIfInBounds_toArray, List.set_cons_zero, List.set_cons_succ, i64_w, i32_w]
                  rfl
                refine one_ (i := 75) (N := some 217) #[true, true, true, true, true, true, true, true, true, true, true, true, true, true, true, true, true, true, true, true, true, true, true, true, true, true, true, true, true, true, true, true, true, true, true, true, true, true, true, true, true, true, true, true, true, true, true, true, true, true, true, true, true, true, true, true, true, true, true, true, true, true, true, true, true, true, true, true, true, true, true, true, true, true, true, true, false, false, false] rfl rfl (by as_aux_lemma => kernel_rfl) (by decide) (fun K hK => ?_)
                refine goes_ Try.func19 (by as_aux_lemma => kernel_rfl) rfl #[.agg #[.slice A' n c'], .string lo, .string hk, .int .u64 (t : Int), .int .i64 most] (by rfl) rfl rfl (by (try simp only [List.map_toArray, List.map_cons, List.map_nil]); first | done | rfl) ?_
                with_reducible refine ((HRS.out _ (HWR.out.below (HW.out.trans (hHeld.1.mono HW.out.size))))).mono ?_
                rintro e w14 ⟨v14, rfl, ho14, hb14⟩
                refine ⟨_, rfl, ?_⟩
                obtain ⟨A14, c14, rfl, _⟩ := ho14.slice_
                have HO14 := Lib.hid (ho14.row wrC_len); clear ho14
                replace HO13 := Lib.hid (HO13.out.below hb14)
                have HN := Lib.hid (hHeld.1.trans (hb14.mono hHeld.1.size))
                refine hK.out _ _ ⟨HN.out, (HN.out.cell (p := ⟨bb, off + i * 5, none⟩) hbl).trans a0, (HN.out.cell (p := ⟨bb, off + i * 5 + 1, none⟩) hbl).trans a1, (HN.out.cell (p := ⟨bb, off + i * 5 + 2, none⟩) hbl).trans a2, (HN.out.cell (p := ⟨bb, off + i * 5 + 3, none⟩) hbl).trans a3, (HN.out.cell (p := ⟨bb, off + i * 5 + 4, none⟩) hbl).trans a4, (HN.out.cell (p := ⟨g6, 0, none⟩) hl6).trans s6, (HN.out.cell (p := ⟨g11, 0, none⟩) hg1).trans v0, (HN.out.cell (p := ⟨g11, 1, none⟩) hg1).trans v1, (HN.out.cell (p := ⟨g11, 2, none⟩) hg1).trans v2, (HN.out.cell (p := ⟨g13, 0, none⟩) hg3).trans u0, (HN.out.cell (p := ⟨g13, 1, none⟩) hg3).trans u1, (HN.out.cell (p := ⟨g13, 2, none⟩) hg3).trans u2⟩ (fun hHeld => ?_)
                clear hK K
                refine norm_ (a' := ?_) ?_ ?_
                rotate_left
                · show Act.put _ (some 217) _ = _
                  simp only [Act.put, List.setIfInBounds_toArray, List.set_cons_zero, List.set_cons_succ, i64_w, i32_w]
                  rfl
                refine one_ (i := 76) (N := some 218) #[true, true, true, true, true, true, true, true, true, true, true, true, true, true, true, true, true, true, true, true, true, true, true, true, true, true, true, true, true, true, true, true, true, true, true, true, true, true, true, true, true, true, true, true, true, true, true, true, true, true, true, true, true, true, true, true, true, true, true, true, true, true, true, true, true, true, true, true, true, true, true, true, true, true, true, true, true, false, false] rfl rfl (by as_aux_lemma => kernel_rfl) (by decide) (fun K hK => ?_)
                refine goes_ Try.func13 (by as_aux_lemma => kernel_rfl) rfl #[.slice A13 R.length c13, .slice A14 R.length c14] (by rfl) rfl rfl (by (try simp only [List.map_toArray, List.map_cons, List.map_nil]); first | done | rfl) ?_
                with_reducible refine ((same11_true A13 A14 c13 c14 R _ HO13.out HO14.out HRn.out)).mono ?_
                rintro e w15 ⟨rfl, hb15⟩
                refine ⟨_, rfl, ?_⟩
                have HN := Lib.hid (hHeld.1.trans (hb15.mono hHeld.1.size))
                refine hK.out _ _ ⟨HN.out, (HN.out.cell (p := ⟨bb, off + i * 5, none⟩) hbl).trans a0, (HN.out.cell (p := ⟨bb, off + i * 5 + 1, none⟩) hbl).trans a1, (HN.out.cell (p := ⟨bb, off + i * 5 + 2, none⟩) hbl).trans a2, (HN.out.cell (p := ⟨bb, off + i * 5 + 3, none⟩) hbl).trans a3, (HN.out.cell (p := ⟨bb, off + i * 5 + 4, none⟩) hbl).trans a4, (HN.out.cell (p := ⟨g6, 0, none⟩) hl6).trans s6, (HN.out.cell (p := ⟨g11, 0, none⟩) hg1).trans v0, (HN.out.cell (p := ⟨g11, 1, none⟩) hg1).trans v1, (HN.out.cell (p := ⟨g11, 2, none⟩) hg1).trans v2, (HN.out.cell (p := ⟨g13, 0, none⟩) hg3).trans u0, (HN.out.cell (p := ⟨g13, 1, none⟩) hg3).trans u1, (HN.out.cell (p := ⟨g13, 2, none⟩) hg3).trans u2⟩ (fun hHeld => ?_)
                clear hK K
                refine norm_ (a' := ?_) ?_ ?_
                rotate_left
                · show Act.put _ (some 218) _ = _
                  simp only [Act.put, List.setIfInBounds_toArray, List.set_cons_zero, List.set_cons_succ, i64_w, i32_w]
                  rfl
                refine pure_ (i := 77) (N := some 219) (v := ?_) (a' := ?_) #[true, true, true, true, true, true, true, true, true, true, true, true, true, true, true, true, true, true, true, true, true, true, true, true, true, true, true, true, true, true, true, true, true, true, true, true, true, true, true, true, true, true, true, true, true, true, true, true, true, true, true, true, true, true, true, true, true, true, true, true, true, true, true, true, true, true, true, true, true, true, true, true, true, true, true, true, true, true, false] rfl rfl (by as_aux_lemma => kernel_rfl) (fun _ _ _ h => h) (Or.inl ⟨by rfl, ?_⟩) ?_ ?_
                rotate_left
                · intro w'
                  go_simp
                  with_reducible rfl
                rotate_left
                · simp only [Act.put, List.setIfInBounds_toArray, List.set_cons_zero, List.set_cons_succ, i64_w, i32_w]
                  rfl
                refine pure_ (i := 78) (N := some 220) (v := ?_) (a' := ?_) #[true, true, true, true, true, true, true, true, true, true, true, true, true, true, true, true, true, true, true, true, true, true, true, true, true, true, true, true, true, true, true, true, true, true, true, true, true, true, true, true, true, true, true, true, true, true, true, true, true, true, true, true, true, true, true, true, true, true, true, true, true, true, true, true, true, true, true, true, true, true, true, true, true, true, true, true, true, true, true] rfl rfl (by as_aux_lemma => kernel_rfl) (fun _ _ _ h => h) (Or.inl ⟨by rfl, ?_⟩) ?_ ?_
                rotate_left
                · intro w'
                  go_simp
                  with_reducible rfl
                rotate_left
                · simp only [Act.put, List.setIfInBounds_toArray, List.set_cons_zero, List.set_cons_succ, i64_w, i32_w]
                  rfl
                refine done_ (by as_aux_lemma => kernel_rfl) ?_

                have HN := Lib.hid hHeld.1
                clear hHeld
                replace HW := Lib.hid (HW.out.trans (HN.out.mono HW.out.size))
                go_wp2
                go_roundw
                case rel => exact ⟨i + 1, by go_num, HLT.out, HW.out⟩
                case measure => first | exact up_w HLT.out hw | exact up_n HLT.out
          · obtain rfl : i = qn := by omega
            clear hlt hi
            have HMK := Lib.hid (fun Wx (hm : MSt Wx gs gs v es) => mkeys_any gs gs v es Wx hm HES.out)
            have HRK := Lib.hid (fun Wx (hA : RowF Wx 4 itC A' n L) => rkeys_any A' n c' L Wx hA HRL.out)
            have e1 := HR.out.keys
            simp only [e1] at HRK
            clear e1
            obtain ⟨ks, hks⟩ : ∃ r, es.map (·.key) = r := ⟨_, rfl⟩
            have HKN := Lib.hid (show ks.length ≤ 1000 by rw [← hks, List.length_map]; exact HES.out)
            simp only [hks] at HMK HRK
            clear hks
            have HWR := Lib.hid (HO.out.row itC_len)
            have hl6 := Nat.lt_of_lt_of_le HLG.out HW.out.size
            have s6 : wr.cell? ⟨g6, 0, none⟩ = some (.slice A' n c') := (HW.out.cell (p := ⟨g6, 0, none⟩) HLG.out).trans g0
            obtain ⟨kn, hkn⟩ : ∃ r, ks.length = r := ⟨_, rfl⟩
            go_wp2
            refine start_ (n := 6) (S := fun w' => Below wr.heap.size wr w' ∧ w'.cell? ⟨g6, 0, none⟩ = some (.slice A' n c')) (ds := []) #[false, false, false, false, false, false] (by kernel_rfl) rfl rfl ⟨(below_drew (Below.refl _ _)), s6⟩ (fun hHeld => ?_)
            refine pure_ (i := 0) (N := some 221) (v := ?_) (a' := ?_) #[true, false, false, false, false, false] rfl rfl (by kernel_rfl) (fun _ _ _ h => h) (Or.inl ⟨by rfl, ?_⟩) ?_ ?_
            rotate_left
            · intro w'
              go_simp
              with_reducible rfl
            rotate_left
            · simp only [Act.put, List.setIfInBounds_toArray, List.set_cons_zero, List.set_cons_succ, i64_w, i32_w]
              rfl
            refine take_ (i := 2) (N := some 223) (v := ?_) (a' := ?_) #[true, false, true, false, false, false] rfl rfl (by kernel_rfl) (fun _ _ _ h => h) (Or.inl ⟨by rfl, ?_⟩) hHeld ?_ ?_
            rotate_left
            · rintro w' ⟨s0, s1⟩
              go_simp
              with_reducible rfl
            rotate_left
            · simp only [Act.put, List.setIfInBounds_toArray, List.set_cons_zero, List.set_cons_succ, i64_w, i32_w]
              rfl
            refine one_ (i := 1) (N := some 222) #[true, true, true, false, false, false] rfl rfl (by kernel_rfl) (by decide) (fun K hK => ?_)
            refine goes_ Try.func20 (by kernel_rfl) rfl #[.pointer (some ⟨gs, 0, none⟩)] (by rfl) rfl rfl (by (try simp only [List.map_toArray, List.map_cons, List.map_nil]); first | done | rfl) ?_
            with_reducible refine ((HMK.out _ (HM.out.below (HW.out.trans (hHeld.1.mono HW.out.size))))).mono ?_
            rintro e w11 ⟨v11, rfl, ho11, hb11⟩
            refine ⟨_, rfl, ?_⟩
            obtain ⟨A11, c11, e11, _⟩ := ho11.slice_
            rw [hkn] at e11
            obtain rfl := e11
            have HO11 := Lib.hid (ho11.row strC_len); clear ho11
            have HN := Lib.hid (hHeld.1.trans (hb11.mono hHeld.1.size))
            refine hK.out _ _ ⟨HN.out, (HN.out.cell (p := ⟨g6, 0, none⟩) hl6).trans s6⟩ (fun hHeld => ?_)
            clear hK K
            refine norm_ (a' := ?_) ?_ ?_
            rotate_left
            · show Act.put _ (some 222) _ = _
              simp only [Act.put, List.setIfInBounds_toArray, List.set_cons_zero, List.set_cons_succ, i64_w, i32_w]
              rfl
            refine one_ (i := 3) (N := some 224) #[true, true, true, true, false, false] rfl rfl (by kernel_rfl) (by decide) (fun K hK => ?_)
            refine goes_ Try.func21 (by kernel_rfl) rfl #[.agg #[.slice A' n c']] (by rfl) rfl rfl (by (try simp only [List.map_toArray, List.map_cons, List.map_nil]); first | done | rfl) ?_
            with_reducible refine ((HRK.out _ (HWR.out.below (HW.out.trans (hHeld.1.mono HW.out.size))))).mono ?_
            rintro e w12 ⟨v12, rfl, ho12, hb12⟩
            refine ⟨_, rfl, ?_⟩
            obtain ⟨A12, c12, e12, _⟩ := ho12.slice_
            rw [hkn] at e12
            obtain rfl := e12
            have HO12 := Lib.hid (ho12.row strC_len); clear ho12
            replace HO11 := Lib.hid (HO11.out.below hb12)
            have HN := Lib.hid (hHeld.1.trans (hb12.mono hHeld.1.size))
            refine hK.out _ _ ⟨HN.out, (HN.out.cell (p := ⟨g6, 0, none⟩) hl6).trans s6⟩ (fun hHeld => ?_)
            clear hK K
            refine norm_ (a' := ?_) ?_ ?_
            rotate_left
            · show Act.put _ (some 224) _ = _
              simp only [Act.put, List.setIfInBounds_toArray, List.set_cons_zero, List.set_cons_succ, i64_w, i32_w]
              rfl
            refine pure_ (i := 4) (N := some 17) (v := ?_) (a' := ?_) #[true, true, true, true, true, false] rfl rfl (by kernel_rfl) (fun _ _ _ h => h) (Or.inl ⟨by rfl, ?_⟩) ?_ ?_
            rotate_left
            · intro w'
              go_simp
              with_reducible rfl
            rotate_left
            · simp only [Act.put, List.setIfInBounds_toArray, List.set_cons_zero, List.set_cons_succ, i64_w, i32_w]
              rfl
            refine pure_ (i := 5) (N := some 18) (v := ?_) (a' := ?_) #[true, true, true, true, true, true] rfl rfl (by kernel_rfl) (fun _ _ _ h => h) (Or.inl ⟨by rfl, ?_⟩) ?_ ?_
            rotate_left
            · intro w'
              go_simp
              with_reducible rfl
            rotate_left
            · simp only [Act.put, List.setIfInBounds_toArray, List.set_cons_zero, List.set_cons_succ, i64_w, i32_w]
              rfl
            refine done_ (by kernel_rfl) ?_

            have HN := Lib.hid hHeld.1
            clear hHeld
            replace HW := Lib.hid (HW.out.trans (HN.out.mono HW.out.size))
            clear s6 hl6 HN g0
            rw [hkn] at HKN
            have hkl : kn ≤ 140737488351232 := Nat.le_trans HKN.out (by decide)
            clear hkn h10 hqn
            go_wp2
            generalize w12 = W3 at *
            go_loopw [19] (fun u wr => ∃ (j : Nat), u = .int .i64 j ∧ j ≤ kn ∧ Below W3.heap.size W3 wr) (fun u _ => kn - (intOf u).toNat)
            case atStart => exact ⟨0, rfl, Nat.zero_le _, Below.refl _ _⟩
            case round =>
              obtain ⟨j, rfl, hj, hb3⟩ := hrel
              have HW3 := Lib.hid hb3; clear hb3
              by_cases hlt : j < kn
              · obtain ⟨b1, o1, hj1, rfl, hbW1, hc1⟩ := HO11.out.get j hlt
                obtain ⟨b2, o2, hj2, rfl, hbW2, hc2⟩ := HO12.out.get j hlt
                obtain ⟨k, hk⟩ : ∃ k, ks[j] = k := ⟨_, rfl⟩
                rw [hk] at hc1 hc2
                have d1 : wr.cell? ⟨b1, o1 + j, none⟩ = some (.string k) := (HW3.out.cell (p := ⟨b1, o1 + j, none⟩) hbW1).trans (by have := hc1 0 _ rfl; rw [Nat.mul_one] at this; exact this)
                have d2 : wr.cell? ⟨b2, o2 + j, none⟩ = some (.string k) := (HW3.out.cell (p := ⟨b2, o2 + j, none⟩) hbW2).trans (by have := hc2 0 _ rfl; rw [Nat.mul_one] at this; exact this)
                clear hc1 hc2 hbW1 hbW2 hj1 hj2 hk
                have hw := next_wrap hlt hkl
                have HLT := Lib.hid hlt
                go_wp2
                go_quiet (fail)
                replace HW3 := Lib.hid (pw_below_drewN HW3.out nq)
                go_wp2
                go_roundw
                case rel => exact ⟨j + 1, by go_num, HLT.out, HW3.out⟩
                case measure => first | exact up_w HLT.out hw | exact up_n HLT.out
              · obtain rfl : j = kn := by omega
                go_wp2
                go_ret
                exact ⟨rfl, HB.out.trans ((HW.out.trans (HW3.out.mono HW.out.size)).mono HGW.out)⟩
end Go.Proofs.Ytcnehponkgofiaa.My
