/- isoglossref11.Store: Scan. -/
import Derived.Test.YtcnehponkgofiaaRMv3
namespace Go.Proofs.Ytcnehponkgofiaa.My
set_option linter.unusedSimpArgs false
set_option linter.unusedVariables false
open Go.RowKit Go.Proofs.YtcnehponkgofiaaW.PrintWords Go.Proofs.YtcnehponkgofiaaW.PrintLast Go.Proofs.Ytcnehponkgofiaa.Pm

/-- Whether a scan of the reference's takes a key. -/
def rTake (L : List ItT) (lo hi : ByteArray) (t : Nat) (most : Int) (k : ByteArray) (out : List WrT) : Prop :=
  kless k lo = false ∧ (hi.size = 0 ∨ kless k hi = true) ∧ (rAt L k t).2 = true ∧ (rAt L k t).1.2.1 = false ∧ (out.length : Int) < most
instance (L : List ItT) (lo hi : ByteArray) (t : Nat) (most : Int) (k : ByteArray) (out : List WrT) : Decidable (rTake L lo hi t most k out) := by unfold rTake; infer_instance
/-- What the reference's scan tells. -/
def rScan (L : List ItT) (lo hi : ByteArray) (t : Nat) (most : Int) (ks : List ByteArray) : List WrT := ks.foldl (fun out k => if rTake L lo hi t most k out then out ++ [(k, false, (rAt L k t).1.2.2)] else out) []
theorem rScan_take {L : List ItT} {lo hi : ByteArray} {t : Nat} {most : Int} {ks : List ByteArray} {i : Nat} (h : i < ks.length) : rScan L lo hi t most (ks.take (i + 1)) = if rTake L lo hi t most ks[i] (rScan L lo hi t most (ks.take i)) then rScan L lo hi t most (ks.take i) ++ [(ks[i], false, (rAt L ks[i] t).1.2.2)] else rScan L lo hi t most (ks.take i) := by
  unfold rScan
  rw [List.take_add_one, List.getElem?_eq_getElem h]
  simp only [Option.toList_some, List.foldl_append, List.foldl_cons, List.foldl_nil]
theorem rScan_len (L : List ItT) (lo hi : ByteArray) (t : Nat) (most : Int) (ks : List ByteArray) : ∀ i, i ≤ ks.length → (rScan L lo hi t most (ks.take i)).length ≤ i
  | 0, _ => by simp [rScan]
  | i + 1, h => by
    rw [rScan_take (by omega)]
    have := rScan_len L lo hi t most ks i (by omega)
    split
    · rw [List.length_append, List.length_singleton]; omega
    · omega
/-- A row stays when a row of other things grows. -/
theorem OwnF.grown {α β : Type} {w w1 : World} {base e n base' e' n' : Nat} {f : α → List Value} {f' : β → List Value} {v v' : Value} {l : List α} {l' : List β} (h : OwnF w base e n f v l) (h' : OwnF w base' e' n' f' v' l') (hne : e' ≠ e) (hg : w.grownBy w1 v'.ownBlock) : OwnF w1 base e n f v l := by
  obtain ⟨h1, h2⟩ := h
  refine ⟨h1, ?_⟩
  rcases h2 with h2 | ⟨g, cap, cur, rfl, hb, hc, r⟩
  · exact .inl h2
  · exact .inr ⟨g, cap, cur, rfl, hb, blk_grown hc hg (fun e => h'.ne_type hc hne e.symm), r⟩
set_option maxRecDepth 100000 in
set_option maxHeartbeats 4000000 in
theorem rscan_any (A : Option Addr) (n c t : Nat) (most : Int) (L : List ItT) (lo hi : ByteArray) (w : World) (hA : RowF w 4 itC A n L) (hn : n ≤ 1000) (hlo : lo.size ≤ 140737488351232) (hhi : hi.size ≤ 140737488351232) :
    Calls Try.prog 19 #[.agg #[.slice A n c], .string lo, .string hi, .int .u64 (t : Int), .int .i64 most] w fun e w' => ∃ v', e = .returned v' ∧ OwnF w' w.heap.size 88 3 wrC v' (rScan L lo hi t most (rKeys L)) ∧ Below w.heap.size w w' := by
  have HA := Lib.hid hA; clear hA
  have HL := Lib.hid HA.out.1
  have hkl := rKeys_len L L.length (Nat.le_refl _)
  rw [List.take_of_length_le (Nat.le_refl _)] at hkl
  have HKB := Lib.hid (below_alloc (Below.refl w.heap.size w) (.cells #[.slice A n c] 44))
  have HK0 := Lib.hid (blk_new w (.cells #[.slice A n c] 44))
  have g0 : (w.alloc (.cells #[.slice A n c] 44)).cell? ⟨w.heap.size, 0, none⟩ = some (.slice A n c) := (blk_cell HK0.out 0).trans rfl
  have HRK := Lib.hid (rkeys_any A n c L (w.alloc (.cells #[.slice A n c] 44)) (HA.out.below HKB.out) hn)
  rw [show L.length = n from HL.out] at hkl
  generalize rKeys L = ks at *
  go_enter Try.func19, Try.ntmps19
  go_wp2_with fail
  refine HRK.out.mono ?_
  rintro e w1 ⟨v', rfl, ho, hb⟩
  have HKS := Lib.hid (ho.lower HKB.out.size); clear ho
  have HG := Lib.hid (blk_below HK0.out hb)
  have HB := Lib.hid (HKB.out.trans (hb.mono HKB.out.size)); clear hb g0
  obtain ⟨kA, kc, rfl, hkc⟩ := HKS.out.slice_
  obtain ⟨m, hm⟩ : ∃ m, ks.length = m := ⟨_, rfl⟩
  rw [hm] at hkl hkc HKS ⊢
  have HM := Lib.hid hm
  have HRW := HKS
  have HHI := Lib.hid (And.intro hlo hhi)
  have hm1 : m ≤ 1000 := Nat.le_trans hkl hn
  clear hm hkc hkl HRK hlo hhi
  go_wp2
  go_loopw [11, 13] (fun o u wr => ∃ i : Nat, u = .int .i64 i ∧ i ≤ m ∧ Hid (wr.heap[w.heap.size]? = some (.cells #[.slice A n c] 44)) ∧ Hid (OwnF wr w.heap.size 88 3 wrC o (rScan L lo hi t most (ks.take i))) ∧ Hid (OwnF wr w.heap.size 9 1 strC (.slice kA m kc) ks) ∧ Hid (Below w.heap.size w wr)) (fun _ u _ => m - (intOf u).toNat)
  case atStart => exact ⟨0, rfl, Nat.zero_le _, HG, Lib.hid (OwnF.nil ..), HRW, HB⟩
  case round =>
    clear HG HRW HB HKS HKB HK0
    obtain ⟨i, rfl, hi', HG, HO, HRW, HB⟩ := hrel
    have g0 : wr.cell? ⟨w.heap.size, 0, none⟩ = some (.slice A n c) := (blk_cell HG.out 0).trans rfl
    by_cases hlt : i < m
    · obtain ⟨lb, off, hj, rfl, hbW, hc⟩ := (HRW.out.row strC_len).get i hlt
      have HT := Lib.hid (rScan_take (L := L) (lo := lo) (hi := hi) (t := t) (most := most) hj)
      have hol := rScan_len L lo hi t most ks i (by omega)
      obtain ⟨out, hout⟩ : ∃ out, rScan L lo hi t most (ks.take i) = out := ⟨_, rfl⟩
      rw [hout] at HT hol HO
      obtain ⟨k, hk⟩ : ∃ k, ks[i] = k := ⟨_, rfl⟩
      rw [hk] at HT hc
      have c0 : wr.cell? ⟨lb, off + i, none⟩ = some (.string k) := by have := hc 0 _ rfl; rw [Nat.mul_one] at this; exact this
      obtain ⟨oA, oc, rfl, hoc⟩ := HO.out.slice_
      have HLT := Lib.hid hlt
      have HOL := Lib.hid hol
      clear hc hk hout hj
      have hw := next_wrap hlt (Nat.le_trans hm1 (by decide))
      have hii : (i : Int) < (m : Int) := by clear hw; omega
      obtain ⟨⟨⟨y0, y1, y2⟩, ok⟩, hy⟩ : ∃ y, rAt L k t = y := ⟨_, rfl⟩
      have HAT := Lib.hid (show ∀ W, Below w.heap.size w W → Calls Try.prog 15 #[.agg #[.slice A n c], .string k, .int .u64 (t : Int)] W fun e w' => e = .returned (.tuple #[.agg #[.int .u64 (y0 : Int), .bool y1, .string y2], .bool ok]) ∧ Below W.heap.size W w' from fun W hb => by
        have := rat_any A n c t L k W (HA.out.below hb) hn
        rw [hy] at this
        exact this)
      have HY := Lib.hid hy; clear hy
      have HGB := Lib.hid HB.out.size
      have hgl := blk_lt HG.out
      have hbl : lb < wr.heap.size := hbW
      clear hbW hn
      go_wp2
      refine start_ (n := 13) (S := fun w' => Below wr.heap.size wr w' ∧ w'.cell? ⟨w.heap.size, 0, none⟩ = some (.slice A n c) ∧ w'.cell? ⟨lb, off + i, none⟩ = some (.string k)) (ds := [11]) #[false, false, false, false, false, false, false, false, false, false, false, false, false] (by kernel_rfl) rfl rfl ⟨(below_drew (Below.refl _ _)), g0, c0⟩ (fun hHeld => ?_)
      refine pure_ (i := 1) (N := some 26) (v := ?_) (a' := ?_) #[false, true, false, false, false, false, false, false, false, false, false, false, false] rfl rfl (by kernel_rfl) (fun _ _ _ h => h) (Or.inl ⟨by rfl, ?_⟩) ?_ ?_
      rotate_left
      · intro w'
        go_simp
        with_reducible rfl
      rotate_left
      · simp only [Act.put, List.setIfInBounds_toArray, List.set_cons_zero, List.set_cons_succ, i64_w, i32_w]
        rfl
      refine pure_ (i := 2) (N := some 27) (v := ?_) (a' := ?_) #[false, true, true, false, false, false, false, false, false, false, false, false, false] rfl rfl (by kernel_rfl) (fun _ _ _ h => h) (Or.inl ⟨by rfl, ?_⟩) ?_ ?_
      rotate_left
      · intro w'
        go_simp
        with_reducible rfl
      rotate_left
      · simp only [Act.put, List.setIfInBounds_toArray, List.set_cons_zero, List.set_cons_succ, i64_w, i32_w]
        rfl
      refine pure_ (i := 3) (N := some 28) (v := ?_) (a' := ?_) #[false, true, true, true, false, false, false, false, false, false, false, false, false] rfl rfl (by kernel_rfl) (fun _ _ _ h => h) (Or.inl ⟨by rfl, ?_⟩) ?_ ?_
      rotate_left
      · intro w'
        go_simp
        with_reducible rfl
      rotate_left
      · simp only [Act.put, List.setIfInBounds_toArray, List.set_cons_zero, List.set_cons_succ, i64_w, i32_w]
        rfl
      refine pure_ (i := 5) (N := some 30) (v := ?_) (a' := ?_) #[false, true, true, true, false, true, false, false, false, false, false, false, false] rfl rfl (by kernel_rfl) (fun _ _ _ h => h) (Or.inl ⟨by rfl, ?_⟩) ?_ ?_
      rotate_left
      · intro w'
        go_simp
        with_reducible rfl
      rotate_left
      · simp only [Act.put, List.setIfInBounds_toArray, List.set_cons_zero, List.set_cons_succ, i64_w, i32_w]
        rfl
      refine take_ (i := 0) (N := some 25) (v := ?_) (a' := ?_) #[true, true, true, true, false, true, false, false, false, false, false, false, false] rfl rfl (by kernel_rfl) (fun _ _ _ h => h) (Or.inl ⟨by rfl, ?_⟩) hHeld ?_ ?_
      rotate_left
      · rintro w' ⟨s0, s1, s2⟩
        go_simp
        with_reducible rfl
      rotate_left
      · simp only [Act.put, List.setIfInBounds_toArray, List.set_cons_zero, List.set_cons_succ, i64_w, i32_w]
        rfl
      refine take_ (i := 4) (N := some 29) (v := ?_) (a' := ?_) #[true, true, true, true, true, true, false, false, false, false, false, false, false] rfl rfl (by kernel_rfl) (fun _ _ _ h => h) (Or.inl ⟨by rfl, ?_⟩) hHeld ?_ ?_
      rotate_left
      · rintro w' ⟨s0, s1, s2⟩
        go_simp
        with_reducible rfl
      rotate_left
      · simp only [Act.put, List.setIfInBounds_toArray, List.set_cons_zero, List.set_cons_succ, i64_w, i32_w]
        rfl
      refine join_ (σ := Nat) 2 #[true, true, true, true, true, true, true, true, true, true, true, false, false] (fun s => [(24, .tuple #[.agg #[.int .u64 (y0 : Int), .bool y1, .string y2], .bool ok]), (31, .tuple #[.agg #[.int .u64 (y0 : Int), .bool y1, .string y2], .bool ok]), (32, .agg #[.int .u64 (y0 : Int), .bool y1, .string y2]), (33, .bool ok), (14, .pointer (some ⟨s, 0, none⟩))]) (fun s w' => (Below wr.heap.size wr w' ∧ w'.cell? ⟨w.heap.size, 0, none⟩ = some (.slice A n c) ∧ w'.cell? ⟨lb, off + i, none⟩ = some (.string k)) ∧ w'.heap[s]? = some (.cells #[.int .u64 0, .bool false, .string ⟨#[]⟩] 25 (0, 0)) ∧ wr.heap.size ≤ s) ?_ ?_
      rotate_left
      · intro hCont
        refine two_ (i := 6) (j := 10) (Ni := some 31) (Nj := some 14) #[true, true, true, true, true, true, true, false, false, false, false, false, false] #[true, true, true, true, true, true, false, false, false, false, true, false, false] rfl rfl rfl rfl (by kernel_rfl) (by decide) (by decide) (fun K hK => ?_) (fun K hK => ?_)
        · skip
          refine goes_ Try.func15 (by kernel_rfl) rfl #[.agg #[.slice A n c], .string k, .int .u64 (t : Int)] (by rfl) rfl rfl (by (try simp only [List.map_toArray, List.map_cons, List.map_nil]); first | done | rfl) ?_
          with_reducible refine ((HAT.out _ (HB.out.trans (hHeld.1.mono HGB.out)))).mono ?_
          rintro e w8 ⟨rfl, hb8⟩
          refine ⟨_, rfl, ?_⟩
          have HN := Lib.hid (hHeld.1.trans (hb8.mono hHeld.1.size))
          refine hK.out _ _ ⟨HN.out, (HN.out.cell (p := ⟨w.heap.size, 0, none⟩) hgl).trans g0, (HN.out.cell (p := ⟨lb, off + i, none⟩) hbl).trans c0⟩ (fun hHeld => ?_)
          clear hK K
          refine norm_ (a' := ?_) ?_ ?_
          rotate_left
          · show Act.put _ (some 31) _ = _
            simp only [Act.put, List.setIfInBounds_toArray, List.set_cons_zero, List.set_cons_succ, i64_w, i32_w]
            rfl
          refine pure_ (i := 7) (N := some 24) (v := ?_) (a' := ?_) #[true, true, true, true, true, true, true, true, false, false, false, false, false] rfl rfl (by kernel_rfl) (fun _ _ _ h => h) (Or.inl ⟨by rfl, ?_⟩) ?_ ?_
          rotate_left
          · intro w'
            go_simp
            with_reducible rfl
          rotate_left
          · simp only [Act.put, List.setIfInBounds_toArray, List.set_cons_zero, List.set_cons_succ, i64_w, i32_w]
            rfl
          refine pure_ (i := 8) (N := some 32) (v := ?_) (a' := ?_) #[true, true, true, true, true, true, true, true, true, false, false, false, false] rfl rfl (by kernel_rfl) (fun _ _ _ h => h) (Or.inl ⟨by rfl, ?_⟩) ?_ ?_
          rotate_left
          · intro w'
            go_simp
            with_reducible rfl
          rotate_left
          · simp only [Act.put, List.setIfInBounds_toArray, List.set_cons_zero, List.set_cons_succ, i64_w, i32_w]
            rfl
          refine pure_ (i := 9) (N := some 33) (v := ?_) (a' := ?_) #[true, true, true, true, true, true, true, true, true, true, false, false, false] rfl rfl (by kernel_rfl) (fun _ _ _ h => h) (Or.inl ⟨by rfl, ?_⟩) ?_ ?_
          rotate_left
          · intro w'
            go_simp
            with_reducible rfl
          rotate_left
          · simp only [Act.put, List.setIfInBounds_toArray, List.set_cons_zero, List.set_cons_succ, i64_w, i32_w]
            rfl
          refine one_ (i := 10) (N := some 14) #[true, true, true, true, true, true, true, true, true, true, true, false, false] rfl rfl (by kernel_rfl) (by decide) (fun K hK => ?_)
          refine value_ (w1 := ?_) (v := ?_) (by rfl) rfl ?_ ?_
          rotate_left 2
          · go_simp
            constructor
            · rfl
            · rfl
          have H70 := Lib.hid (blk_new w8 (.cells #[.int .u64 0, .bool false, .string ⟨#[]⟩] 25))
          have HN := Lib.hid (hHeld.1.alloc hHeld.1.size (.cells #[.int .u64 0, .bool false, .string ⟨#[]⟩] 25))
          have HZ := Lib.hid (show wr.heap.size ≤ w8.heap.size from hHeld.1.size)
          refine hK.out _ _ ⟨HN.out, (HN.out.cell (p := ⟨w.heap.size, 0, none⟩) hgl).trans g0, (HN.out.cell (p := ⟨lb, off + i, none⟩) hbl).trans c0⟩ (fun hHeld => ?_)
          clear hK K
          refine norm_ (a' := ?_) ?_ ?_
          rotate_left
          · show Act.put _ (some 14) _ = _
            simp only [Act.put, List.setIfInBounds_toArray, List.set_cons_zero, List.set_cons_succ, i64_w, i32_w]
            rfl
          exact norm_ (by simp only [putAll, Act.put, List.setIfInBounds_toArray, List.set_cons_zero, List.set_cons_succ]) (hCont w8.heap.size _ ⟨hHeld, H70.out, HZ.out⟩)
        · skip
          refine value_ (w1 := ?_) (v := ?_) (by rfl) rfl ?_ ?_
          rotate_left 2
          · go_simp
            constructor
            · rfl
            · rfl
          have H70 := Lib.hid (blk_new wr.drew (.cells #[.int .u64 0, .bool false, .string ⟨#[]⟩] 25))
          have HN := Lib.hid (hHeld.1.alloc hHeld.1.size (.cells #[.int .u64 0, .bool false, .string ⟨#[]⟩] 25))
          have HZ := Lib.hid (show wr.heap.size ≤ wr.drew.heap.size from hHeld.1.size)
          refine hK.out _ _ ⟨HN.out, (HN.out.cell (p := ⟨w.heap.size, 0, none⟩) hgl).trans g0, (HN.out.cell (p := ⟨lb, off + i, none⟩) hbl).trans c0⟩ (fun hHeld => ?_)
          clear hK K
          refine norm_ (a' := ?_) ?_ ?_
          rotate_left
          · show Act.put _ (some 14) _ = _
            simp only [Act.put, List.setIfInBounds_toArray, List.set_cons_zero, List.set_cons_succ, i64_w, i32_w]
            rfl
          refine one_ (i := 6) (N := some 31) #[true, true, true, true, true, true, true, false, false, false, true, false, false] rfl rfl (by kernel_rfl) (by decide) (fun K hK => ?_)
          refine goes_ Try.func15 (by kernel_rfl) rfl #[.agg #[.slice A n c], .string k, .int .u64 (t : Int)] (by rfl) rfl rfl (by (try simp only [List.map_toArray, List.map_cons, List.map_nil]); first | done | rfl) ?_
          with_reducible refine ((HAT.out _ (HB.out.trans (hHeld.1.mono HGB.out)))).mono ?_
          rintro e w8 ⟨rfl, hb8⟩
          refine ⟨_, rfl, ?_⟩
          have HN := Lib.hid (hHeld.1.trans (hb8.mono hHeld.1.size))
          replace H70 := Lib.hid (blk_below H70.out hb8)
          refine hK.out _ _ ⟨HN.out, (HN.out.cell (p := ⟨w.heap.size, 0, none⟩) hgl).trans g0, (HN.out.cell (p := ⟨lb, off + i, none⟩) hbl).trans c0⟩ (fun hHeld => ?_)
          clear hK K
          refine norm_ (a' := ?_) ?_ ?_
          rotate_left
          · show Act.put _ (some 31) _ = _
            simp only [Act.put, List.setIfInBounds_toArray, List.set_cons_zero, List.set_cons_succ, i64_w, i32_w]
            rfl
          refine pure_ (i := 7) (N := some 24) (v := ?_) (a' := ?_) #[true, true, true, true, true, true, true, true, false, false, true, false, false] rfl rfl (by kernel_rfl) (fun _ _ _ h => h) (Or.inl ⟨by rfl, ?_⟩) ?_ ?_
          rotate_left
          · intro w'
            go_simp
            with_reducible rfl
          rotate_left
          · simp only [Act.put, List.setIfInBounds_toArray, List.set_cons_zero, List.set_cons_succ, i64_w, i32_w]
            rfl
          refine pure_ (i := 8) (N := some 32) (v := ?_) (a' := ?_) #[true, true, true, true, true, true, true, true, true, false, true, false, false] rfl rfl (by kernel_rfl) (fun _ _ _ h => h) (Or.inl ⟨by rfl, ?_⟩) ?_ ?_
          rotate_left
          · intro w'
            go_simp
            with_reducible rfl
          rotate_left
          · simp only [Act.put, List.setIfInBounds_toArray, List.set_cons_zero, List.set_cons_succ, i64_w, i32_w]
            rfl
          refine pure_ (i := 9) (N := some 33) (v := ?_) (a' := ?_) #[true, true, true, true, true, true, true, true, true, true, true, false, false] rfl rfl (by kernel_rfl) (fun _ _ _ h => h) (Or.inl ⟨by rfl, ?_⟩) ?_ ?_
          rotate_left
          · intro w'
            go_simp
            with_reducible rfl
          rotate_left
          · simp only [Act.put, List.setIfInBounds_toArray, List.set_cons_zero, List.set_cons_succ, i64_w, i32_w]
            rfl
          exact norm_ (by simp only [putAll, Act.put, List.setIfInBounds_toArray, List.set_cons_zero, List.set_cons_succ]) (hCont wr.heap.size _ ⟨hHeld, H70.out, HZ.out⟩)
      rintro g7 w9 ⟨hHeld, h70, hz⟩
      have H70 := Lib.hid h70; clear h70
      have HZ := Lib.hid hz; clear hz
      refine norm_ (a' := ?_) ?_ ?_
      rotate_left
      · simp only [putAll, Act.put, List.setIfInBounds_toArray, List.set_cons_zero, List.set_cons_succ]
        rfl
      refine last_ (i := 11) (N := none) #[true, true, true, true, true, true, true, true, true, true, true, true, false] rfl rfl (by kernel_rfl) (by decide) (fun K hK => ?_)
      refine skip_ (w1 := w9.setRow g7 #[.int .u64 (y0 : Int), .bool y1, .string y2]) (by rfl) rfl (by refine run_strow 25 (.tmp 14) (.tmp 32) ?_ g7 #[.int .u64 (y0 : Int), .bool y1, .string y2] ?_ ?_ 25 _ H70.out (by kernel_rfl) rfl (by simp [Value.oneCell']) <;> rfl) ?_
      refine hK.out _ _ ?_
      clear hK K
      refine pure_ (i := 12) (N := some 15) (v := ?_) (a' := ?_) #[true, true, true, true, true, true, true, true, true, true, true, true, true] rfl rfl (by kernel_rfl) (fun _ _ _ h => h) (Or.inl ⟨by rfl, ?_⟩) ?_ ?_
      rotate_left
      · intro w'
        go_simp
        with_reducible rfl
      rotate_left
      · simp only [Act.put, List.setIfInBounds_toArray, List.set_cons_zero, List.set_cons_succ, i64_w, i32_w]
        rfl
      refine done_ (by kernel_rfl) ?_

      have HV := Lib.hid (show (w9.setRow g7 #[.int .u64 (y0 : Int), .bool y1, .string y2]).heap[g7]? = some (.cells #[.int .u64 (y0 : Int), .bool y1, .string y2] 25 (0, 0)) from setRow_heap _ _ _ _ _ _ H70.out)
      have HN := Lib.hid (show Below wr.heap.size wr (w9.setRow g7 #[.int .u64 (y0 : Int), .bool y1, .string y2]) from hHeld.1.trans ((keeps_setRow (Keeps.refl (Only g7) w9) (.inl rfl) _).to_below hHeld.1.size (fun i hi => by cases hi; exact HZ.out)))
      clear hHeld H70 HAT
      generalize w9.setRow g7 #[.int .u64 (y0 : Int), .bool y1, .string y2] = w2 at *
      have e0 : w2.cell? ⟨lb, off + i, none⟩ = some (.string k) := (HN.out.cell (p := ⟨lb, off + i, none⟩) hbl).trans c0
      have v1 : w2.cell? ⟨g7, 1, none⟩ = some (.bool y1) := (blk_cell HV.out 1).trans rfl
      have v2 : w2.cell? ⟨g7, 2, none⟩ = some (.string y2) := (blk_cell HV.out 2).trans rfl
      have hl2 : lb < w2.heap.size := Nat.lt_of_lt_of_le hbl HN.out.size
      have hg2 := blk_lt HV.out
      have hws : w.heap.size ≤ w2.heap.size := Nat.le_trans HGB.out HN.out.size
      replace HB := Lib.hid (HB.out.trans (HN.out.mono HGB.out))
      replace HG := Lib.hid (blk_below HG.out HN.out)
      replace HO := Lib.hid (HO.out.below HN.out)
      replace HRW := Lib.hid (HRW.out.below HN.out)
      have HWS := Lib.hid hws
      clear hws hgl hbl hoc hol g0 c0
      obtain ⟨on, hon⟩ : ∃ n, out.length = n := ⟨_, rfl⟩
      have HON := Lib.hid hon
      rw [hon] at HO HOL ⊢
      clear hon
      obtain ⟨z1, z2⟩ := ge_form k lo
      have z4 := str_e hi
      have HTD := Lib.hid (show rTake L lo hi t most k out ↔ (kless k lo = false ∧ (hi.size = 0 ∨ kless k hi = true) ∧ ok = true ∧ y1 = false ∧ (on : Int) < most) by unfold rTake; rw [HY.out, HON.out])
      have HT2 := Lib.hid (show rTake L lo hi t most k out → rScan L lo hi t most (ks.take (i + 1)) = out ++ [(k, false, y2)] from fun h => by rw [HT.out, if_pos h, HY.out])
      have HT3 := Lib.hid (show ¬ rTake L lo hi t most k out → rScan L lo hi t most (ks.take (i + 1)) = out from fun h => by rw [HT.out, if_neg h])
      clear HT
      cases hkl : kless k lo with
      | true =>
        have hkl2 : Op.bytesLess k.toList lo.toList = true := hkl
        rw [hkl2] at z1 z2
        have HTS := Lib.hid (HT3.out (fun h => by have := HTD.out.1 h; exact absurd (hkl.symm.trans this.1) (by decide)))
        clear HT2 HT3 HTD
        go_wp2
        go_roundw
        case rel => exact ⟨i + 1, by go_num, HLT.out, HG, by rw [HTS.out]; exact HO, HRW, HB⟩
        case measure => first | exact up_w HLT.out hw | exact up_n HLT.out
      | false =>
        have hkl2 : Op.bytesLess k.toList lo.toList = false := hkl
        rw [hkl2] at z1 z2
        by_cases h1 : hi.size = 0
        · rw [decide_eq_true h1] at z4
          cases ok with
          | false =>
            have HTS := Lib.hid (HT3.out (fun h => by have := HTD.out.1 h; exact absurd this.2.2.1 (by decide)))
            clear HT2 HT3 HTD
            go_wp2
            go_roundw
            case rel => exact ⟨i + 1, by go_num, HLT.out, HG, by rw [HTS.out]; exact HO, HRW, HB⟩
            case measure => first | exact up_w HLT.out hw | exact up_n HLT.out
          | true =>
            cases y1 with
            | true =>
              have HTS := Lib.hid (HT3.out (fun h => by have := HTD.out.1 h; exact absurd this.2.2.2.1 (by decide)))
              clear HT2 HT3 HTD
              go_wp2
              go_roundw
              case rel => exact ⟨i + 1, by go_num, HLT.out, HG, by rw [HTS.out]; exact HO, HRW, HB⟩
              case measure => first | exact up_w HLT.out hw | exact up_n HLT.out
            | false =>
              by_cases hmo : (on : Int) < most
              · have x5 : decide ((on : Int) < most) = true := decide_eq_true hmo
                have HTS := Lib.hid (HT2.out (HTD.out.2 ⟨hkl, .inl h1, rfl, rfl, hmo⟩))
                clear HT2 HT3 HTD
                go_wp2
                refine start_ (n := 11) (S := fun w' => w'.cell? ⟨lb, off + i, none⟩ = some (.string k) ∧ w'.cell? ⟨g7, 2, none⟩ = some (.string y2) ∧ lb < w'.heap.size ∧ g7 < w'.heap.size) (ds := [8, 9]) #[false, false, false, false, false, false, false, false, false, false, false] (by kernel_rfl) rfl rfl ⟨e0, v2, ⟨hl2, hg2⟩⟩ (fun hHeld => ?_)
                refine pure_ (i := 0) (N := some 66) (v := ?_) (a' := ?_) #[true, false, false, false, false, false, false, false, false, false, false] rfl rfl (by kernel_rfl) (fun _ _ _ h => h) (Or.inl ⟨by rfl, ?_⟩) ?_ ?_
                rotate_left
                · intro w'
                  go_simp
                  with_reducible rfl
                rotate_left
                · simp only [Act.put, List.setIfInBounds_toArray, List.set_cons_zero, List.set_cons_succ, i64_w, i32_w]
                  rfl
                refine pure_ (i := 1) (N := some 67) (v := ?_) (a' := ?_) #[true, true, false, false, false, false, false, false, false, false, false] rfl rfl (by kernel_rfl) (fun _ _ _ h => h) (Or.inl ⟨by rfl, ?_⟩) ?_ ?_
                rotate_left
                · intro w'
                  go_simp
                  with_reducible rfl
                rotate_left
                · simp only [Act.put, List.setIfInBounds_toArray, List.set_cons_zero, List.set_cons_succ, i64_w, i32_w]
                  rfl
                refine pure_ (i := 2) (N := some 68) (v := ?_) (a' := ?_) #[true, true, true, false, false, false, false, false, false, false, false] rfl rfl (by kernel_rfl) (fun _ _ _ h => h) (Or.inl ⟨by rfl, ?_⟩) ?_ ?_
                rotate_left
                · intro w'
                  go_simp
                  with_reducible rfl
                rotate_left
                · simp only [Act.put, List.setIfInBounds_toArray, List.set_cons_zero, List.set_cons_succ, i64_w, i32_w]
                  rfl
                refine pure_ (i := 3) (N := some 69) (v := ?_) (a' := ?_) #[true, true, true, true, false, false, false, false, false, false, false] rfl rfl (by kernel_rfl) (fun _ _ _ h => h) (Or.inl ⟨by rfl, ?_⟩) ?_ ?_
                rotate_left
                · intro w'
                  go_simp
                  with_reducible rfl
                rotate_left
                · simp only [Act.put, List.setIfInBounds_toArray, List.set_cons_zero, List.set_cons_succ, i64_w, i32_w]
                  rfl
                refine pure_ (i := 5) (N := some 71) (v := ?_) (a' := ?_) #[true, true, true, true, false, true, false, false, false, false, false] rfl rfl (by kernel_rfl) (fun _ _ _ h => h) (Or.inl ⟨by rfl, ?_⟩) ?_ ?_
                rotate_left
                · intro w'
                  go_simp
                  with_reducible rfl
                rotate_left
                · simp only [Act.put, List.setIfInBounds_toArray, List.set_cons_zero, List.set_cons_succ, i64_w, i32_w]
                  rfl
                refine take_ (i := 4) (N := some 70) (v := ?_) (a' := ?_) #[true, true, true, true, true, true, false, false, false, false, false] rfl rfl (by kernel_rfl) (fun _ _ _ h => h) (Or.inl ⟨by rfl, ?_⟩) hHeld ?_ ?_
                rotate_left
                · rintro w' ⟨s0, s1, s2⟩
                  go_simp
                  with_reducible rfl
                rotate_left
                · simp only [Act.put, List.setIfInBounds_toArray, List.set_cons_zero, List.set_cons_succ, i64_w, i32_w]
                  rfl
                refine take_ (i := 6) (N := some 72) (v := ?_) (a' := ?_) #[true, true, true, true, true, true, true, false, false, false, false] rfl rfl (by kernel_rfl) (fun _ _ _ h => h) (Or.inl ⟨by rfl, ?_⟩) hHeld ?_ ?_
                rotate_left
                · rintro w' ⟨s0, s1, s2⟩
                  go_simp
                  with_reducible rfl
                rotate_left
                · simp only [Act.put, List.setIfInBounds_toArray, List.set_cons_zero, List.set_cons_succ, i64_w, i32_w]
                  rfl
                refine pure_ (i := 7) (N := some 73) (v := ?_) (a' := ?_) #[true, true, true, true, true, true, true, true, false, false, false] rfl rfl (by kernel_rfl) (fun _ _ _ h => h) (Or.inl ⟨by rfl, ?_⟩) ?_ ?_
                rotate_left
                · intro w'
                  go_simp
                  with_reducible rfl
                rotate_left
                · simp only [Act.put, List.setIfInBounds_toArray, List.set_cons_zero, List.set_cons_succ, i64_w, i32_w]
                  rfl
                refine last_ (i := 8) (N := some 74) #[true, true, true, true, true, true, true, true, true, false, false] rfl rfl (by kernel_rfl) (by decide) (fun K hK => ?_)
                refine value_ (w1 := ?_) (v := ?_) (by rfl) rfl ?_ ?_
                rotate_left 2
                · go_simp
                  constructor
                  · rfl
                  · rfl
                have H74 := Lib.hid (blk_new w2.drew (.cells #[.string k, .bool false, .string y2] 88))
                refine hK.out _ _ ?_
                clear hK K
                refine norm_ (a' := ?_) ?_ ?_
                rotate_left
                · show Act.put _ (some 74) _ = _
                  simp only [Act.put, List.setIfInBounds_toArray, List.set_cons_zero, List.set_cons_succ, i64_w, i32_w]
                  rfl
                refine last_ (i := 9) (N := some 75) #[true, true, true, true, true, true, true, true, true, true, false] rfl rfl (by kernel_rfl) (by decide) (fun K hK => ?_)
                obtain ⟨v7, w7, hr7, ho7, hg7, -⟩ := run_app_rows (P := Try.prog) (base := w.heap.size) (W := w2.drew.alloc (.cells #[.string k, .bool false, .string y2] 88)) (xs := out) 38 38 Try.underlying38 info_wr rfl (by decide) (by decide) wrC_len wrC_one ((HO.out.below (below_drew (Below.refl _ _))).below (below_alloc (Below.refl _ _) (.cells #[.string k, .bool false, .string y2] 88))) (c := 1) ((OwnF.one (base := 0) (f := wrC) (x := (k, false, y2)) H74.out (Nat.zero_le _) rfl rfl).row wrC_len) (Nat.le_trans HWS.out (below_alloc (below_drew (Below.refl _ w2)) (.cells #[.string k, .bool false, .string y2] 88)).size) (by have := HOL.out; rw [HON.out]; clear hw; omega)
                obtain ⟨A7, n7, c7, rfl⟩ : ∃ A m c, v7 = .slice A m c := by obtain ⟨A, c, e, _⟩ := ho7.slice_; exact ⟨_, _, _, e⟩
                have HO7 := Lib.hid ho7; clear ho7
                have HG7 := Lib.hid (show Below w2.heap.size w2 (w2.drew.alloc (.cells #[.string k, .bool false, .string y2] 88)) from below_alloc (below_drew (Below.refl _ w2)) (.cells #[.string k, .bool false, .string y2] 88))
                have HB7 := Lib.hid ((HB.out.trans (HG7.out.mono HWS.out)).grown hg7 (Nat.le_trans HWS.out HG7.out.size) (fun q hq => (HO.out.block_ge q hq).1))
                have HKS7 := Lib.hid ((HRW.out.below HG7.out).grown (HO.out.below HG7.out) (by decide) hg7)
                have HG8 := Lib.hid (blk_grown (blk_below HG.out HG7.out) hg7 (fun e => (HO.out.below HG7.out).ne_type (blk_below HG.out HG7.out) (by decide) e.symm))
                clear hg7
                refine step_app (by rfl) (.tmp 66) (.tmp 74) 38 rfl rfl rfl hr7 ?_
                refine hK.out _ _ ?_
                clear hK K
                refine norm_ (a' := ?_) ?_ ?_
                rotate_left
                · show Act.put _ (some 75) _ = _
                  simp only [Act.put, List.setIfInBounds_toArray, List.set_cons_zero, List.set_cons_succ, i64_w, i32_w]
                  rfl
                refine pure_ (i := 10) (N := some 11) (v := ?_) (a' := ?_) #[true, true, true, true, true, true, true, true, true, true, true] rfl rfl (by kernel_rfl) (fun _ _ _ h => h) (Or.inl ⟨by rfl, ?_⟩) ?_ ?_
                rotate_left
                · intro w'
                  go_simp
                  with_reducible rfl
                rotate_left
                · simp only [Act.put, List.setIfInBounds_toArray, List.set_cons_zero, List.set_cons_succ, i64_w, i32_w]
                  rfl
                refine done_ (by kernel_rfl) ?_

                go_wp2
                go_roundw
                case rel => exact ⟨i + 1, by go_num, HLT.out, HG8, by rw [HTS.out]; exact HO7, HKS7, HB7⟩
                case measure => first | exact up_w HLT.out hw | exact up_n HLT.out
              · have x5 : decide ((on : Int) < most) = false := decide_eq_false hmo
                have HTS := Lib.hid (HT3.out (fun h => by have := HTD.out.1 h; exact hmo this.2.2.2.2))
                clear HT2 HT3 HTD
                go_wp2
                go_roundw
                case rel => exact ⟨i + 1, by go_num, HLT.out, HG, by rw [HTS.out]; exact HO, HRW, HB⟩
                case measure => first | exact up_w HLT.out hw | exact up_n HLT.out
        · rw [decide_eq_false h1] at z4
          cases hkh : kless k hi with
          | false =>
            have hkh2 : Op.bytesLess k.toList hi.toList = false := hkh
            have HTS := Lib.hid (HT3.out (fun h => by have := HTD.out.1 h; exact this.2.1.elim h1 (fun e => absurd (hkh.symm.trans e) (by decide))))
            clear HT2 HT3 HTD
            go_wp2
            go_roundw
            case rel => exact ⟨i + 1, by go_num, HLT.out, HG, by rw [HTS.out]; exact HO, HRW, HB⟩
            case measure => first | exact up_w HLT.out hw | exact up_n HLT.out
          | true =>
            have hkh2 : Op.bytesLess k.toList hi.toList = true := hkh
            cases ok with
            | false =>
              have HTS := Lib.hid (HT3.out (fun h => by have := HTD.out.1 h; exact absurd this.2.2.1 (by decide)))
              clear HT2 HT3 HTD
              go_wp2
              go_roundw
              case rel => exact ⟨i + 1, by go_num, HLT.out, HG, by rw [HTS.out]; exact HO, HRW, HB⟩
              case measure => first | exact up_w HLT.out hw | exact up_n HLT.out
            | true =>
              cases y1 with
              | true =>
                have HTS := Lib.hid (HT3.out (fun h => by have := HTD.out.1 h; exact absurd this.2.2.2.1 (by decide)))
                clear HT2 HT3 HTD
                go_wp2
                go_roundw
                case rel => exact ⟨i + 1, by go_num, HLT.out, HG, by rw [HTS.out]; exact HO, HRW, HB⟩
                case measure => first | exact up_w HLT.out hw | exact up_n HLT.out
              | false =>
                by_cases hmo : (on : Int) < most
                · have x5 : decide ((on : Int) < most) = true := decide_eq_true hmo
                  have HTS := Lib.hid (HT2.out (HTD.out.2 ⟨hkl, .inr hkh, rfl, rfl, hmo⟩))
                  clear HT2 HT3 HTD
                  go_wp2
                  refine start_ (n := 11) (S := fun w' => w'.cell? ⟨lb, off + i, none⟩ = some (.string k) ∧ w'.cell? ⟨g7, 2, none⟩ = some (.string y2) ∧ lb < w'.heap.size ∧ g7 < w'.heap.size) (ds := [8, 9]) #[false, false, false, false, false, false, false, false, false, false, false] (by kernel_rfl) rfl rfl ⟨e0, v2, ⟨hl2, hg2⟩⟩ (fun hHeld => ?_)
                  refine pure_ (i := 0) (N := some 66) (v := ?_) (a' := ?_) #[true, false, false, false, false, false, false, false, false, false, false] rfl rfl (by kernel_rfl) (fun _ _ _ h => h) (Or.inl ⟨by rfl, ?_⟩) ?_ ?_
                  rotate_left
                  · intro w'
                    go_simp
                    with_reducible rfl
                  rotate_left
                  · simp only [Act.put, List.setIfInBounds_toArray, List.set_cons_zero, List.set_cons_succ, i64_w, i32_w]
                    rfl
                  refine pure_ (i := 1) (N := some 67) (v := ?_) (a' := ?_) #[true, true, false, false, false, false, false, false, false, false, false] rfl rfl (by kernel_rfl) (fun _ _ _ h => h) (Or.inl ⟨by rfl, ?_⟩) ?_ ?_
                  rotate_left
                  · intro w'
                    go_simp
                    with_reducible rfl
                  rotate_left
                  · simp only [Act.put, List.setIfInBounds_toArray, List.set_cons_zero, List.set_cons_succ, i64_w, i32_w]
                    rfl
                  refine pure_ (i := 2) (N := some 68) (v := ?_) (a' := ?_) #[true, true, true, false, false, false, false, false, false, false, false] rfl rfl (by kernel_rfl) (fun _ _ _ h => h) (Or.inl ⟨by rfl, ?_⟩) ?_ ?_
                  rotate_left
                  · intro w'
                    go_simp
                    with_reducible rfl
                  rotate_left
                  · simp only [Act.put, List.setIfInBounds_toArray, List.set_cons_zero, List.set_cons_succ, i64_w, i32_w]
                    rfl
                  refine pure_ (i := 3) (N := some 69) (v := ?_) (a' := ?_) #[true, true, true, true, false, false, false, false, false, false, false] rfl rfl (by kernel_rfl) (fun _ _ _ h => h) (Or.inl ⟨by rfl, ?_⟩) ?_ ?_
                  rotate_left
                  · intro w'
                    go_simp
                    with_reducible rfl
                  rotate_left
                  · simp only [Act.put, List.setIfInBounds_toArray, List.set_cons_zero, List.set_cons_succ, i64_w, i32_w]
                    rfl
                  refine pure_ (i := 5) (N := some 71) (v := ?_) (a' := ?_) #[true, true, true, true, false, true, false, false, false, false, false] rfl rfl (by kernel_rfl) (fun _ _ _ h => h) (Or.inl ⟨by rfl, ?_⟩) ?_ ?_
                  rotate_left
                  · intro w'
                    go_simp
                    with_reducible rfl
                  rotate_left
                  · simp only [Act.put, List.setIfInBounds_toArray, List.set_cons_zero, List.set_cons_succ, i64_w, i32_w]
                    rfl
                  refine take_ (i := 4) (N := some 70) (v := ?_) (a' := ?_) #[true, true, true, true, true, true, false, false, false, false, false] rfl rfl (by kernel_rfl) (fun _ _ _ h => h) (Or.inl ⟨by rfl, ?_⟩) hHeld ?_ ?_
                  rotate_left
                  · rintro w' ⟨s0, s1, s2⟩
                    go_simp
                    with_reducible rfl
                  rotate_left
                  · simp only [Act.put, List.setIfInBounds_toArray, List.set_cons_zero, List.set_cons_succ, i64_w, i32_w]
                    rfl
                  refine take_ (i := 6) (N := some 72) (v := ?_) (a' := ?_) #[true, true, true, true, true, true, true, false, false, false, false] rfl rfl (by kernel_rfl) (fun _ _ _ h => h) (Or.inl ⟨by rfl, ?_⟩) hHeld ?_ ?_
                  rotate_left
                  · rintro w' ⟨s0, s1, s2⟩
                    go_simp
                    with_reducible rfl
                  rotate_left
                  · simp only [Act.put, List.setIfInBounds_toArray, List.set_cons_zero, List.set_cons_succ, i64_w, i32_w]
                    rfl
                  refine pure_ (i := 7) (N := some 73) (v := ?_) (a' := ?_) #[true, true, true, true, true, true, true, true, false, false, false] rfl rfl (by kernel_rfl) (fun _ _ _ h => h) (Or.inl ⟨by rfl, ?_⟩) ?_ ?_
                  rotate_left
                  · intro w'
                    go_simp
                    with_reducible rfl
                  rotate_left
                  · simp only [Act.put, List.setIfInBounds_toArray, List.set_cons_zero, List.set_cons_succ, i64_w, i32_w]
                    rfl
                  refine last_ (i := 8) (N := some 74) #[true, true, true, true, true, true, true, true, true, false, false] rfl rfl (by kernel_rfl) (by decide) (fun K hK => ?_)
                  refine value_ (w1 := ?_) (v := ?_) (by rfl) rfl ?_ ?_
                  rotate_left 2
                  · go_simp
                    constructor
                    · rfl
                    · rfl
                  have H74 := Lib.hid (blk_new w2.drew (.cells #[.string k, .bool false, .string y2] 88))
                  refine hK.out _ _ ?_
                  clear hK K
                  refine norm_ (a' := ?_) ?_ ?_
                  rotate_left
                  · show Act.put _ (some 74) _ = _
                    simp only [Act.put, List.setIfInBounds_toArray, List.set_cons_zero, List.set_cons_succ, i64_w, i32_w]
                    rfl
                  refine last_ (i := 9) (N := some 75) #[true, true, true, true, true, true, true, true, true, true, false] rfl rfl (by kernel_rfl) (by decide) (fun K hK => ?_)
                  obtain ⟨v7, w7, hr7, ho7, hg7, -⟩ := run_app_rows (P := Try.prog) (base := w.heap.size) (W := w2.drew.alloc (.cells #[.string k, .bool false, .string y2] 88)) (xs := out) 38 38 Try.underlying38 info_wr rfl (by decide) (by decide) wrC_len wrC_one ((HO.out.below (below_drew (Below.refl _ _))).below (below_alloc (Below.refl _ _) (.cells #[.string k, .bool false, .string y2] 88))) (c := 1) ((OwnF.one (base := 0) (f := wrC) (x := (k, false, y2)) H74.out (Nat.zero_le _) rfl rfl).row wrC_len) (Nat.le_trans HWS.out (below_alloc (below_drew (Below.refl _ w2)) (.cells #[.string k, .bool false, .string y2] 88)).size) (by have := HOL.out; rw [HON.out]; clear hw; omega)
                  obtain ⟨A7, n7, c7, rfl⟩ : ∃ A m c, v7 = .slice A m c := by obtain ⟨A, c, e, _⟩ := ho7.slice_; exact ⟨_, _, _, e⟩
                  have HO7 := Lib.hid ho7; clear ho7
                  have HG7 := Lib.hid (show Below w2.heap.size w2 (w2.drew.alloc (.cells #[.string k, .bool false, .string y2] 88)) from below_alloc (below_drew (Below.refl _ w2)) (.cells #[.string k, .bool false, .string y2] 88))
                  have HB7 := Lib.hid ((HB.out.trans (HG7.out.mono HWS.out)).grown hg7 (Nat.le_trans HWS.out HG7.out.size) (fun q hq => (HO.out.block_ge q hq).1))
                  have HKS7 := Lib.hid ((HRW.out.below HG7.out).grown (HO.out.below HG7.out) (by decide) hg7)
                  have HG8 := Lib.hid (blk_grown (blk_below HG.out HG7.out) hg7 (fun e => (HO.out.below HG7.out).ne_type (blk_below HG.out HG7.out) (by decide) e.symm))
                  clear hg7
                  refine step_app (by rfl) (.tmp 66) (.tmp 74) 38 rfl rfl rfl hr7 ?_
                  refine hK.out _ _ ?_
                  clear hK K
                  refine norm_ (a' := ?_) ?_ ?_
                  rotate_left
                  · show Act.put _ (some 75) _ = _
                    simp only [Act.put, List.setIfInBounds_toArray, List.set_cons_zero, List.set_cons_succ, i64_w, i32_w]
                    rfl
                  refine pure_ (i := 10) (N := some 11) (v := ?_) (a' := ?_) #[true, true, true, true, true, true, true, true, true, true, true] rfl rfl (by kernel_rfl) (fun _ _ _ h => h) (Or.inl ⟨by rfl, ?_⟩) ?_ ?_
                  rotate_left
                  · intro w'
                    go_simp
                    with_reducible rfl
                  rotate_left
                  · simp only [Act.put, List.setIfInBounds_toArray, List.set_cons_zero, List.set_cons_succ, i64_w, i32_w]
                    rfl
                  refine done_ (by kernel_rfl) ?_

                  go_wp2
                  go_roundw
                  case rel => exact ⟨i + 1, by go_num, HLT.out, HG8, by rw [HTS.out]; exact HO7, HKS7, HB7⟩
                  case measure => first | exact up_w HLT.out hw | exact up_n HLT.out
                · have x5 : decide ((on : Int) < most) = false := decide_eq_false hmo
                  have HTS := Lib.hid (HT3.out (fun h => by have := HTD.out.1 h; exact hmo this.2.2.2.2))
                  clear HT2 HT3 HTD
                  go_wp2
                  go_roundw
                  case rel => exact ⟨i + 1, by go_num, HLT.out, HG, by rw [HTS.out]; exact HO, HRW, HB⟩
                  case measure => first | exact up_w HLT.out hw | exact up_n HLT.out
    · obtain rfl : i = m := by omega
      go_wp2
      go_ret
      exact ⟨_, rfl, by have := HO.out; rw [List.take_of_length_le (by rw [HM.out]; exact Nat.le_refl _)] at this; exact this, HB.out⟩
end Go.Proofs.Ytcnehponkgofiaa.My
