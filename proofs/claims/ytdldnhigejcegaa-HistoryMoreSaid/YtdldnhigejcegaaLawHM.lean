/- The law HistoryMore, walked. -/
import Derived.Test.YtdldnhigejcegaaHMore
namespace Go.Proofs.Ytdldnhigejcegaa.My
set_option linter.unusedSimpArgs false
set_option linter.unusedVariables false
open Go.RowKit Go.Proofs.YtdldnhigejcegaaW.PrintWords Go.Proofs.YtdldnhigejcegaaW.PrintLast Go.Proofs.Ytdldnhigejcegaa.Pm

set_option maxRecDepth 100000 in
set_option maxHeartbeats 16000000 in
theorem history_more (A : Option Addr) (len cap : Nat) (l : List TxP) (B : Option Addr) (bn bc : Nat) (ks : List ByteArray) (st : Nat) (w : World) (hA : Txs w A len l) (hlen : len ≤ 140737488351232) (hcap : len ≤ cap) (hB : RowF w 1 strC B bn ks) (hbn : bn ≤ 140737488351232) :
    Calls Try.prog 6 #[.slice A len cap, .slice B bn bc, .int .u64 (st : Int)] w fun e w' => e = .returned (.bool true) ∧ Below w.heap.size w w' := by
  have HA := Lib.hid hA; clear hA
  have HK := Lib.hid hB; clear hB
  have HL := Lib.hid HA.out.1.1
  have HB := Lib.hid (Below.refl w.heap.size w)
  go_enter Try.func6, Try.ntmps6
  go_wp2_with fail
  refine (awake18 _).mono ?_
  rintro e w1 ⟨rfl, hb⟩
  replace HB := Lib.hid (HB.out.trans (hb.mono HB.out.size)); clear hb
  go_wp2_with fail
  refine (few_any A len cap 20 l _ (HA.out.below HB.out) hlen (by decide)).mono ?_
  rintro e w2 ⟨b, rfl, hb20, rfl⟩
  cases b with
  | false =>
    go_wp2_with fail
    refine (awake18 _).mono ?_
    rintro e w3 ⟨rfl, hb⟩
    replace HB := Lib.hid (HB.out.trans (hb.mono HB.out.size)); clear hb
    go_wp2
    go_ret
    exact ⟨rfl, HB.out⟩
  | true =>
    have h20 := hb20 rfl
    clear hb20
    by_cases h12 : 12 < bn
    · have x1 : decide (12 < (bn : Int)) = true := by simp; omega
      have x1n := decide_eq_true h12
      go_wp2_with fail
      refine (awake18 _).mono ?_
      rintro e w3 ⟨rfl, hb⟩
      replace HB := Lib.hid (HB.out.trans (hb.mono HB.out.size)); clear hb
      go_wp2
      go_ret
      exact ⟨rfl, HB.out⟩
    have x1 : decide (12 < (bn : Int)) = false := by simp; omega
    have x1n := decide_eq_false h12
    go_wp2_with fail
    refine (faults_any A len cap l _ (HA.out.below HB.out) hlen hcap).mono ?_
    rintro e w3 ⟨i0, k0, rfl, hk0, hb⟩
    replace HB := Lib.hid (HB.out.trans (hb.mono HB.out.size)); clear hb
    have HF0 := Lib.hid hk0; clear hk0
    go_wp2
    have HM := Lib.hid (show Mo w (w3.alloc (.cells #[.int .u64 (st : Int), .int .u64 (st : Int), .slice none 0 0, .slice none 0 0] 68)) w3.heap.size st (.slice none 0 0) (([] : List ByteArray).map (rdOf l st)) from ⟨below_alloc HB.out (.cells #[.int .u64 (st : Int), .int .u64 (st : Int), .slice none 0 0, .slice none 0 0] 68), blk_new w3 (.cells #[.int .u64 (st : Int), .int .u64 (st : Int), .slice none 0 0, .slice none 0 0] 68), OwnF.nil _ _ _ _ _, HB.out.size⟩)
    clear HB
    generalize hg9 : w3.heap.size = g at *
    have HG := Lib.hid hg9; clear hg9
    generalize w3.alloc (.cells #[.int .u64 (st : Int), .int .u64 (st : Int), .slice none 0 0, .slice none 0 0] 68) = W0 at *
    go_loopw [10] (fun u wr => ∃ (i : Nat) (v : Value), u = .int .i64 i ∧ i ≤ bn ∧ Mo w wr g st v ((ks.take i).map (rdOf l st))) (fun u _ => bn - (intOf u).toNat)
    case atStart => exact ⟨0, _, rfl, Nat.zero_le _, HM.out⟩
    case round =>
      clear HM
      obtain ⟨i, v, rfl, hi, hm⟩ := hrel
      have HM := Lib.hid hm; clear hm
      by_cases hlt : i < bn
      · obtain ⟨bb, off, hj, rfl, hbW, hc⟩ := HK.out.get i hlt
        have hc1 := range_below hc HM.out.bel hbW
        have HT := Lib.hid (show (ks.take (i + 1)).map (rdOf l st) = (ks.take i).map (rdOf l st) ++ [rdOf l st ks[i]] by rw [List.take_add_one, List.getElem?_eq_getElem hj]; simp only [Option.toList_some, List.map_append, List.map_cons, List.map_nil])
        obtain ⟨k, hk⟩ : ∃ k, ks[i] = k := ⟨_, rfl⟩
        rw [hk] at HT hc1
        have c0 : wr.cell? ⟨bb, off + i, none⟩ = some (.string k) := by have := hc1 0 _ rfl; rw [Nat.mul_one] at this; exact this
        have hbw : bb < wr.heap.size := Nat.lt_of_lt_of_le hbW HM.out.bel.size
        clear hc hc1 hk hbW hj
        have hlr : ((ks.take i).map (rdOf l st)).length ≤ 100 := by rw [List.length_map, List.length_take]; omega
        generalize (ks.take i).map (rdOf l st) = rds at *
        have hw := next_wrap hlt hbn
        by_cases h3 : 300 < k.size
        · have x3 : decide (300 < (k.size : Int)) = true := by simp; omega
          have x3n := decide_eq_true h3
          go_wp2
          go_ret
          exact ⟨rfl, HM.out.bel⟩
        have x3 : decide (300 < (k.size : Int)) = false := by simp; omega
        have x3n := decide_eq_false h3
        go_wp2_with fail
        refine (at_any A len cap l k st _ (HA.out.below HM.out.bel) hlen).mono ?_
        rintro e w4 ⟨rfl, hb⟩
        have c1 := (hb.cell (p := ⟨bb, off + i, none⟩) hbw).trans c0
        replace HM := Lib.hid (HM.out.below hb)
        have hbw := Nat.lt_of_lt_of_le hbw hb.size
        clear hb c0
        obtain ⟨u, hu⟩ : ∃ u, atS l k st = u := ⟨_, rfl⟩
        have HU := Lib.hid (show rdOf l st k = if 0 < u.1 ∧ u.2.1 = false then (k, true, u) else (k, false, (0, false, ⟨#[]⟩)) by rw [← hu]; rfl)
        rw [hu]
        clear hu
        obtain ⟨u0, u1, u2⟩ := u
        simp only at HU ⊢
        have h11 : w4.heap.size < (w4.alloc (.cells #[.int .u64 (u0 : Int), .bool u1, .string u2] 41)).heap.size := by simp
        have d1 : (w4.alloc (.cells #[.int .u64 (u0 : Int), .bool u1, .string u2] 41)).cell? ⟨w4.heap.size, 1, none⟩ = some (.bool u1) := (blk_cell (blk_new w4 (.cells #[.int .u64 (u0 : Int), .bool u1, .string u2] 41)) 1).trans rfl
        have HV := Lib.hid (blk_new w4 (.cells #[.int .u64 (u0 : Int), .bool u1, .string u2] 41))
        have c2 : (w4.alloc (.cells #[.int .u64 (u0 : Int), .bool u1, .string u2] 41)).cell? ⟨bb, off + i, none⟩ = some (.string k) := (Below.cell (below_alloc (Below.refl w4.heap.size w4) (.cells #[.int .u64 (u0 : Int), .bool u1, .string u2] 41)) (p := ⟨bb, off + i, none⟩) hbw).trans c1
        have hbw2 : bb < (w4.alloc (.cells #[.int .u64 (u0 : Int), .bool u1, .string u2] 41)).heap.size := by simp; omega
        have HMQ := HM
        replace HM := Lib.hid (HM.out.alloc (.cells #[.int .u64 (u0 : Int), .bool u1, .string u2] 41))
        by_cases h0 : 0 < u0
        · have x4 : decide (0 < (u0 : Int)) = true := by simp; omega
          have x4n := decide_eq_true h0
          cases u1 with
          | true =>
            go_wp2
            refine start_ (n := 13) (S := fun w' => bb < w'.heap.size ∧ w'.cell? ⟨bb, off + i, none⟩ = some (.string k) ∧ w'.cell? ⟨w4.heap.size, 1, none⟩ = some (.bool true) ∧ w4.heap.size < w'.heap.size) (ds := [12]) #[false, false, false, false, false, false, false, false, false, false, false, false, false] (by kernel_rfl) rfl rfl ⟨hbw2, c2, d1, h11⟩ (fun hHeld => ?_)
            refine pure_ (i := 0) (N := some 59) (v := ?_) (a' := ?_) #[true, false, false, false, false, false, false, false, false, false, false, false, false] rfl rfl (by kernel_rfl) (fun _ _ _ h => h) (Or.inl ⟨by rfl, ?_⟩) ?_ ?_
            rotate_left
            · intro w'
              go_simp
              with_reducible rfl
            rotate_left
            · simp only [Act.put, List.setIfInBounds_toArray, List.set_cons_zero, List.set_cons_succ, i64_w, i32_w]
              rfl
            refine pure_ (i := 1) (N := some 60) (v := ?_) (a' := ?_) #[true, true, false, false, false, false, false, false, false, false, false, false, false] rfl rfl (by kernel_rfl) (fun _ _ _ h => h) (Or.inl ⟨by rfl, ?_⟩) ?_ ?_
            rotate_left
            · intro w'
              go_simp
              with_reducible rfl
            rotate_left
            · simp only [Act.put, List.setIfInBounds_toArray, List.set_cons_zero, List.set_cons_succ, i64_w, i32_w]
              rfl
            refine pure_ (i := 2) (N := some 61) (v := ?_) (a' := ?_) #[true, true, true, false, false, false, false, false, false, false, false, false, false] rfl rfl (by kernel_rfl) (fun _ _ _ h => h) (Or.inl ⟨by rfl, ?_⟩) ?_ ?_
            rotate_left
            · intro w'
              go_simp
              with_reducible rfl
            rotate_left
            · simp only [Act.put, List.setIfInBounds_toArray, List.set_cons_zero, List.set_cons_succ, i64_w, i32_w]
              rfl
            refine pure_ (i := 4) (N := some 63) (v := ?_) (a' := ?_) #[true, true, true, false, true, false, false, false, false, false, false, false, false] rfl rfl (by kernel_rfl) (fun _ _ _ h => h) (Or.inl ⟨by rfl, ?_⟩) ?_ ?_
            rotate_left
            · intro w'
              go_simp
              with_reducible rfl
            rotate_left
            · simp only [Act.put, List.setIfInBounds_toArray, List.set_cons_zero, List.set_cons_succ, i64_w, i32_w]
              rfl
            refine pure_ (i := 5) (N := some 64) (v := ?_) (a' := ?_) #[true, true, true, false, true, true, false, false, false, false, false, false, false] rfl rfl (by kernel_rfl) (fun _ _ _ h => h) (Or.inl ⟨by rfl, ?_⟩) ?_ ?_
            rotate_left
            · intro w'
              go_simp
              with_reducible rfl
            rotate_left
            · simp only [Act.put, List.setIfInBounds_toArray, List.set_cons_zero, List.set_cons_succ, i64_w, i32_w]
              rfl
            refine pure_ (i := 6) (N := some 65) (v := ?_) (a' := ?_) #[true, true, true, false, true, true, true, false, false, false, false, false, false] rfl rfl (by kernel_rfl) (fun _ _ _ h => h) (Or.inl ⟨by rfl, ?_⟩) ?_ ?_
            rotate_left
            · intro w'
              go_simp
              with_reducible rfl
            rotate_left
            · simp only [Act.put, List.setIfInBounds_toArray, List.set_cons_zero, List.set_cons_succ, i64_w, i32_w]
              rfl
            refine take_ (i := 3) (N := some 62) (v := ?_) (a' := ?_) #[true, true, true, true, true, true, true, false, false, false, false, false, false] rfl rfl (by kernel_rfl) (fun _ _ _ h => h) (Or.inl ⟨by rfl, ?_⟩) hHeld ?_ ?_
            rotate_left
            · rintro w' ⟨s0, s1, s2, s3⟩
              go_simp
              with_reducible rfl
            rotate_left
            · simp only [Act.put, List.setIfInBounds_toArray, List.set_cons_zero, List.set_cons_succ, i64_w, i32_w]
              rfl
            refine take_ (i := 7) (N := some 66) (v := ?_) (a' := ?_) #[true, true, true, true, true, true, true, true, false, false, false, false, false] rfl rfl (by kernel_rfl) (fun _ _ _ h => h) (Or.inl ⟨by rfl, ?_⟩) hHeld ?_ ?_
            rotate_left
            · rintro w' ⟨s0, s1, s2, s3⟩
              go_simp
              with_reducible rfl
            rotate_left
            · simp only [Act.put, List.setIfInBounds_toArray, List.set_cons_zero, List.set_cons_succ, i64_w, i32_w]
              rfl
            refine pure_ (i := 8) (N := some 67) (v := ?_) (a' := ?_) #[true, true, true, true, true, true, true, true, true, false, false, false, false] rfl rfl (by kernel_rfl) (fun _ _ _ h => h) (Or.inl ⟨by rfl, ?_⟩) ?_ ?_
            rotate_left
            · intro w'
              go_simp
              with_reducible rfl
            rotate_left
            · simp only [Act.put, List.setIfInBounds_toArray, List.set_cons_zero, List.set_cons_succ, i64_w, i32_w]
              rfl
            refine pure_ (i := 9) (N := some 68) (v := ?_) (a' := ?_) #[true, true, true, true, true, true, true, true, true, true, false, false, false] rfl rfl (by kernel_rfl) (fun _ _ _ h => h) (Or.inl ⟨by rfl, ?_⟩) ?_ ?_
            rotate_left
            · intro w'
              go_simp
              with_reducible rfl
            rotate_left
            · simp only [Act.put, List.setIfInBounds_toArray, List.set_cons_zero, List.set_cons_succ, i64_w, i32_w]
              rfl
            refine pure_ (i := 10) (N := some 69) (v := ?_) (a' := ?_) #[true, true, true, true, true, true, true, true, true, true, true, false, false] rfl rfl (by kernel_rfl) (fun _ _ _ h => h) (Or.inl ⟨by rfl, ?_⟩) ?_ ?_
            rotate_left
            · intro w'
              go_simp
              with_reducible rfl
            rotate_left
            · simp only [Act.put, List.setIfInBounds_toArray, List.set_cons_zero, List.set_cons_succ, i64_w, i32_w]
              rfl
            refine one_ (i := 11) (N := some 13) #[true, true, true, true, true, true, true, true, true, true, true, true, false] rfl rfl (by kernel_rfl) (by decide) (fun K hK => ?_)
            refine value_ (w1 := ?_) (v := ?_) (by rfl) rfl ?_ ?_
            rotate_left 2
            · go_simp
              constructor
              · rfl
              · rfl
            refine hK.out _ _ ⟨Nat.lt_of_lt_of_le hHeld.1 (below_alloc (Below.refl _ _) _).size, (Below.cell (below_alloc (Below.refl _ _) _) (p := ⟨bb, off + i, none⟩) hHeld.1).trans hHeld.2.1, (Below.cell (below_alloc (Below.refl _ _) _) (p := ⟨w4.heap.size, 1, none⟩) hHeld.2.2.2).trans hHeld.2.2.1, Nat.lt_of_lt_of_le hHeld.2.2.2 (below_alloc (Below.refl _ _) _).size⟩ (fun hHeld => ?_)
            clear hK K
            refine norm_ (a' := ?_) ?_ ?_
            rotate_left
            · show Act.put _ (some 13) _ = _
              simp only [Act.put, List.setIfInBounds_toArray, List.set_cons_zero, List.set_cons_succ, i64_w, i32_w]
              rfl
            refine last_ (i := 12) (N := none) #[true, true, true, true, true, true, true, true, true, true, true, true, true] rfl rfl (by kernel_rfl) (by decide) (fun K hK => ?_)
            refine skip_ (w1 := ?_) (by rfl) rfl ?_ ?_
            rotate_left
            · go_simp
              rfl
            refine hK.out _ _ ?_
            clear hK K
            refine done_ (by kernel_rfl) ?_

            go_wp2
            obtain ⟨b13, hb13⟩ : ∃ b, w4.heap.size + 1 = b := ⟨_, rfl⟩
            have HR := Lib.hid (show ((w4.alloc (.cells #[.int .u64 (u0 : Int), .bool true, .string u2] 41)).alloc (.cells #[.string k, .bool false, .int .u64 0, .bool false, .string ⟨#[]⟩] 43)).drew.heap[b13]? = some (.cells #[.string k, .bool false, .int .u64 0, .bool false, .string ⟨#[]⟩] 43 (0, 0)) from blk_drew (row_new (w4.alloc (.cells #[.int .u64 (u0 : Int), .bool true, .string u2] 41)) (.cells #[.string k, .bool false, .int .u64 0, .bool false, .string ⟨#[]⟩] 43) (by simp; omega)))
            have HM := Lib.hid (show Mo w ((w4.alloc (.cells #[.int .u64 (u0 : Int), .bool true, .string u2] 41)).alloc (.cells #[.string k, .bool false, .int .u64 0, .bool false, .string ⟨#[]⟩] 43)).drew g st v rds from (HM.out.alloc (.cells #[.string k, .bool false, .int .u64 0, .bool false, .string ⟨#[]⟩] 43)).drew)
            have HN := Lib.hid (show w.heap.size ≤ b13 ∧ v.ownBlock ≠ some b13 by
              refine ⟨?_, fun e => ?_⟩
              · have := HMQ.out.bel.size
                omega
              · have := (HMQ.out.own.block_ge _ e).2
                omega)
            rw [hb13]
            have HRD := Lib.hid (show rdOf l st k = (k, false, (0, false, ⟨#[]⟩)) by rw [HU.out]; rw [if_neg (by simp)])
            have har : (#[.string k, .bool false, .int .u64 0, .bool false, .string ⟨#[]⟩] : Array Value).toList = rdC (k, false, (0, false, ⟨#[]⟩)) := rfl
            have hsz : (#[.string k, .bool false, .int .u64 0, .bool false, .string ⟨#[]⟩] : Array Value).size = 5 := rfl
            generalize hRR : ((k, false, (0, false, ⟨#[]⟩)) : RdT) = r at *
            clear hRR
            generalize ((w4.alloc (.cells #[.int .u64 (u0 : Int), .bool true, .string u2] 41)).alloc (.cells #[.string k, .bool false, .int .u64 0, .bool false, .string ⟨#[]⟩] 43)).drew = W5 at *
            obtain ⟨r0, r1, z, r3, r4, hAR⟩ : ∃ (r0 : ByteArray) (r1 : Bool) (z : Int) (r3 : Bool) (r4 : ByteArray), (#[.string k, .bool false, .int .u64 0, .bool false, .string ⟨#[]⟩] : Array Value) = #[.string r0, .bool r1, .int .u64 z, .bool r3, .string r4] := ⟨_, _, _, _, _, rfl⟩
            rw [hAR] at HR har hsz
            clear hAR
            clear c1 c2 d1 hbw hbw2 hb13 HV HMQ h11
            have HAR := Lib.hid har; clear har
            obtain ⟨hMg, hMv⟩ : W5.cell? ⟨g, 2, none⟩ = some v ∧ True := ⟨(blk_cell HM.out.blk 2).trans rfl, trivial⟩
            refine start_ (n := 11) (S := fun w' => Mo w w' g st v rds ∧ w'.heap[b13]? = some (.cells #[.string r0, .bool r1, .int .u64 z, .bool r3, .string r4] 43 (0, 0)) ∧ w'.cell? ⟨g, 2, none⟩ = some v) (ds := [8, 10]) #[false, false, false, false, false, false, false, false, false, false, false] (by kernel_rfl) rfl rfl ⟨HM.out.drew, (blk_drew HR.out), hMg⟩ (fun hHeld => ?_)
            refine pure_ (i := 0) (N := some 78) (v := ?_) (a' := ?_) #[true, false, false, false, false, false, false, false, false, false, false] rfl rfl (by kernel_rfl) (fun _ _ _ h => h) (Or.inl ⟨by rfl, ?_⟩) ?_ ?_
            rotate_left
            · intro w'
              go_simp
              with_reducible rfl
            rotate_left
            · simp only [Act.put, List.setIfInBounds_toArray, List.set_cons_zero, List.set_cons_succ, i64_w, i32_w]
              rfl
            refine pure_ (i := 1) (N := some 79) (v := ?_) (a' := ?_) #[true, true, false, false, false, false, false, false, false, false, false] rfl rfl (by kernel_rfl) (fun _ _ _ h => h) (Or.inl ⟨by rfl, ?_⟩) ?_ ?_
            rotate_left
            · intro w'
              go_simp
              with_reducible rfl
            rotate_left
            · simp only [Act.put, List.setIfInBounds_toArray, List.set_cons_zero, List.set_cons_succ, i64_w, i32_w]
              rfl
            refine pure_ (i := 3) (N := some 81) (v := ?_) (a' := ?_) #[true, true, false, true, false, false, false, false, false, false, false] rfl rfl (by kernel_rfl) (fun _ _ _ h => h) (Or.inl ⟨by rfl, ?_⟩) ?_ ?_
            rotate_left
            · intro w'
              go_simp
              with_reducible rfl
            rotate_left
            · simp only [Act.put, List.setIfInBounds_toArray, List.set_cons_zero, List.set_cons_succ, i64_w, i32_w]
              rfl
            refine take_ (i := 4) (N := some 82) (v := ?_) (a' := ?_) #[true, true, false, true, true, false, false, false, false, false, false] rfl rfl (by kernel_rfl) (fun _ _ _ h => h) (Or.inl ⟨by rfl, ?_⟩) hHeld ?_ ?_
            rotate_left
            · rintro w' ⟨s0, s1, s2⟩
              go_simp
              with_reducible rfl
            rotate_left
            · simp only [Act.put, List.setIfInBounds_toArray, List.set_cons_zero, List.set_cons_succ, i64_w, i32_w]
              rfl
            refine take_ (i := 6) (N := some 84) (v := ?_) (a' := ?_) #[true, true, false, true, true, false, true, false, false, false, false] rfl rfl (by kernel_rfl) (fun _ _ _ h => h) (Or.inl ⟨by rfl, ?_⟩) hHeld ?_ ?_
            rotate_left
            · rintro w' ⟨s0, s1, s2⟩
              refine run_row 43 (.tmp 13) ?_ b13 ?_ 43 #[.string r0, .bool r1, .int .u64 z, .bool r3, .string r4] (0, 0) _ s1 Try.underlying43 rfl (by kernel_rfl) <;> rfl
            rotate_left
            · simp only [Act.put, List.setIfInBounds_toArray, List.set_cons_zero, List.set_cons_succ, i64_w, i32_w]
              rfl
            refine join_ (σ := Value × Nat × Nat) 3 #[true, true, true, true, true, true, true, true, false, false, false] (fun s => [(80, .slice (some ⟨s.2.2, 0, none⟩) 0 0), (83, s.1), (85, .slice (some ⟨s.2.1, 0, none⟩) 1 1)]) (fun s w' => (Mo w w' g st v rds ∧ w'.heap[b13]? = some (.cells #[.string r0, .bool r1, .int .u64 z, .bool r3, .string r4] 43 (0, 0)) ∧ w'.cell? ⟨g, 2, none⟩ = some v) ∧ OwnF w' w.heap.size 43 5 rdC s.1 rds ∧ w'.heap[s.2.1]? = some (.cells #[.string r0, .bool r1, .int .u64 z, .bool r3, .string r4] 43 (0, 0)) ∧ s.1.ownBlock ≠ some s.2.1) ?_ ?_
            rotate_left
            · intro hCont
              refine two_ (i := 2) (j := 7) (Ni := some 80) (Nj := some 85) #[true, true, true, true, true, false, true, false, false, false, false] #[true, true, false, true, true, false, true, true, false, false, false] rfl rfl rfl rfl (by kernel_rfl) (by decide) (by decide) (fun K hK => ?_) (fun K hK => ?_)
              · skip
                refine value_ (w1 := ?_) (v := ?_) (by rfl) rfl ?_ ?_
                rotate_left 2
                · go_simp
                  constructor
                  · rfl
                  · rfl
                have H80 := Lib.hid (row_new W5.drew (.cells #[] 43) (n := W5.heap.size) (by simp))
                have HL80 := Lib.hid (show v.ownBlock ≠ some (W5.heap.size) from fun e => by have := (HM.out.own.block_ge _ e).2; omega)
                refine hK.out _ _ ⟨hHeld.1.alloc _, blk_alloc hHeld.2.1 _, (blk_cell (hHeld.1.alloc _).blk 2).trans rfl⟩ (fun hHeld => ?_)
                clear hK K
                refine norm_ (a' := ?_) ?_ ?_
                rotate_left
                · show Act.put _ (some 80) _ = _
                  simp only [Act.put, List.setIfInBounds_toArray, List.set_cons_zero, List.set_cons_succ, i64_w, i32_w]
                  rfl
                refine two_ (i := 5) (j := 7) (Ni := some 83) (Nj := some 85) #[true, true, true, true, true, true, true, false, false, false, false] #[true, true, true, true, true, false, true, true, false, false, false] rfl rfl rfl rfl (by kernel_rfl) (by decide) (by decide) (fun K hK => ?_) (fun K hK => ?_)
                · skip
                  obtain ⟨v83, w83, hr83, hm83, ho83, hk83, hb83⟩ := copy_step (g80 := W5.heap.size) 50 hHeld.1 H80.out (by have := HM.out.bel.size; omega) HL80.out hlr
                  have HO83 := Lib.hid ho83; clear ho83
                  have h1383 := hk83.blk hHeld.2.1 (fun e => by have e : b13 = W5.heap.size := e; have := blk_lt HR.out; omega)
                  refine step_app (by rfl) (.tmp 80) (.tmp 82) 50 rfl rfl rfl hr83 ?_
                  refine hK.out _ _ ⟨hm83, h1383, (blk_cell hm83.blk 2).trans rfl⟩ (fun hHeld => ?_)
                  clear hK K
                  refine norm_ (a' := ?_) ?_ ?_
                  rotate_left
                  · show Act.put _ (some 83) _ = _
                    simp only [Act.put, List.setIfInBounds_toArray, List.set_cons_zero, List.set_cons_succ, i64_w, i32_w]
                    rfl
                  refine one_ (i := 7) (N := some 85) #[true, true, true, true, true, true, true, true, false, false, false] rfl rfl (by kernel_rfl) (by decide) (fun K hK => ?_)
                  refine value_ (w1 := ?_) (v := ?_) (by rfl) rfl ?_ ?_
                  rotate_left 2
                  · go_simp
                    constructor
                    · rfl
                    · rfl
                  have H85 := Lib.hid (row_new w83 (.cells #[.string r0, .bool r1, .int .u64 z, .bool r3, .string r4] 43) (n := w83.heap.size) (by simp))
                  have HE := Lib.hid (show v83.ownBlock ≠ some w83.heap.size from fun e => Nat.lt_irrefl _ (HO83.out.block_ge _ e).2)
                  replace HO83 := Lib.hid (HO83.out.below (below_alloc (Below.refl _ _) (.cells #[.string r0, .bool r1, .int .u64 z, .bool r3, .string r4] 43)))
                  refine hK.out _ _ ⟨hHeld.1.alloc _, blk_alloc hHeld.2.1 _, (blk_cell (hHeld.1.alloc _).blk 2).trans rfl⟩ (fun hHeld => ?_)
                  clear hK K
                  refine norm_ (a' := ?_) ?_ ?_
                  rotate_left
                  · show Act.put _ (some 85) _ = _
                    simp only [Act.put, List.setIfInBounds_toArray, List.set_cons_zero, List.set_cons_succ, i64_w, i32_w]
                    rfl
                  exact norm_ (by simp only [putAll, Act.put, List.setIfInBounds_toArray, List.set_cons_zero, List.set_cons_succ]) (hCont (v83, w83.heap.size, W5.heap.size) _ ⟨hHeld, HO83.out, H85.out, HE.out⟩)
                · skip
                  refine value_ (w1 := ?_) (v := ?_) (by rfl) rfl ?_ ?_
                  rotate_left 2
                  · go_simp
                    constructor
                    · rfl
                    · rfl
                  have H85 := Lib.hid (row_new (W5.drew.alloc (.cells #[] 43)) (.cells #[.string r0, .bool r1, .int .u64 z, .bool r3, .string r4] 43) (n := W5.heap.size + 1) (by simp))
                  have H80 := Lib.hid (blk_alloc H80.out (.cells #[.string r0, .bool r1, .int .u64 z, .bool r3, .string r4] 43))
                  refine hK.out _ _ ⟨hHeld.1.alloc _, blk_alloc hHeld.2.1 _, (blk_cell (hHeld.1.alloc _).blk 2).trans rfl⟩ (fun hHeld => ?_)
                  clear hK K
                  refine norm_ (a' := ?_) ?_ ?_
                  rotate_left
                  · show Act.put _ (some 85) _ = _
                    simp only [Act.put, List.setIfInBounds_toArray, List.set_cons_zero, List.set_cons_succ, i64_w, i32_w]
                    rfl
                  refine one_ (i := 5) (N := some 83) #[true, true, true, true, true, true, true, true, false, false, false] rfl rfl (by kernel_rfl) (by decide) (fun K hK => ?_)
                  obtain ⟨v83, w83, hr83, hm83, ho83, hk83, hb83⟩ := copy_step (g80 := W5.heap.size) 50 hHeld.1 H80.out (by have := HM.out.bel.size; omega) HL80.out hlr
                  have HO83 := Lib.hid ho83; clear ho83
                  have HE := Lib.hid (show v83.ownBlock ≠ some (W5.heap.size + 1) from fun e => by rw [e] at hb83; simp at hb83; try omega)
                  replace H85 := Lib.hid (hk83.blk H85.out (fun e => by have e : W5.heap.size + 1 = W5.heap.size := e; omega))
                  have h1383 := hk83.blk hHeld.2.1 (fun e => by have e : b13 = W5.heap.size := e; have := blk_lt HR.out; omega)
                  refine step_app (by rfl) (.tmp 80) (.tmp 82) 50 rfl rfl rfl hr83 ?_
                  refine hK.out _ _ ⟨hm83, h1383, (blk_cell hm83.blk 2).trans rfl⟩ (fun hHeld => ?_)
                  clear hK K
                  refine norm_ (a' := ?_) ?_ ?_
                  rotate_left
                  · show Act.put _ (some 83) _ = _
                    simp only [Act.put, List.setIfInBounds_toArray, List.set_cons_zero, List.set_cons_succ, i64_w, i32_w]
                    rfl
                  exact norm_ (by simp only [putAll, Act.put, List.setIfInBounds_toArray, List.set_cons_zero, List.set_cons_succ]) (hCont (v83, W5.heap.size + 1, W5.heap.size) _ ⟨hHeld, HO83.out, H85.out, HE.out⟩)
              · skip
                refine value_ (w1 := ?_) (v := ?_) (by rfl) rfl ?_ ?_
                rotate_left 2
                · go_simp
                  constructor
                  · rfl
                  · rfl
                have H85 := Lib.hid (row_new W5.drew (.cells #[.string r0, .bool r1, .int .u64 z, .bool r3, .string r4] 43) (n := W5.heap.size) (by simp))
                refine hK.out _ _ ⟨hHeld.1.alloc _, blk_alloc hHeld.2.1 _, (blk_cell (hHeld.1.alloc _).blk 2).trans rfl⟩ (fun hHeld => ?_)
                clear hK K
                refine norm_ (a' := ?_) ?_ ?_
                rotate_left
                · show Act.put _ (some 85) _ = _
                  simp only [Act.put, List.setIfInBounds_toArray, List.set_cons_zero, List.set_cons_succ, i64_w, i32_w]
                  rfl
                refine one_ (i := 2) (N := some 80) #[true, true, true, true, true, false, true, true, false, false, false] rfl rfl (by kernel_rfl) (by decide) (fun K hK => ?_)
                refine value_ (w1 := ?_) (v := ?_) (by rfl) rfl ?_ ?_
                rotate_left 2
                · go_simp
                  constructor
                  · rfl
                  · rfl
                have H80 := Lib.hid (row_new (W5.drew.alloc (.cells #[.string r0, .bool r1, .int .u64 z, .bool r3, .string r4] 43)) (.cells #[] 43) (n := W5.heap.size + 1) (by simp))
                have HL80 := Lib.hid (show v.ownBlock ≠ some (W5.heap.size + 1) from fun e => by have := (HM.out.own.block_ge _ e).2; omega)
                have H85 := Lib.hid (blk_alloc H85.out (.cells #[] 43))
                refine hK.out _ _ ⟨hHeld.1.alloc _, blk_alloc hHeld.2.1 _, (blk_cell (hHeld.1.alloc _).blk 2).trans rfl⟩ (fun hHeld => ?_)
                clear hK K
                refine norm_ (a' := ?_) ?_ ?_
                rotate_left
                · show Act.put _ (some 80) _ = _
                  simp only [Act.put, List.setIfInBounds_toArray, List.set_cons_zero, List.set_cons_succ, i64_w, i32_w]
                  rfl
                refine one_ (i := 5) (N := some 83) #[true, true, true, true, true, true, true, true, false, false, false] rfl rfl (by kernel_rfl) (by decide) (fun K hK => ?_)
                obtain ⟨v83, w83, hr83, hm83, ho83, hk83, hb83⟩ := copy_step (g80 := W5.heap.size + 1) 50 hHeld.1 H80.out (by have := HM.out.bel.size; omega) HL80.out hlr
                have HO83 := Lib.hid ho83; clear ho83
                have HE := Lib.hid (show v83.ownBlock ≠ some (W5.heap.size) from fun e => by rw [e] at hb83; simp at hb83; try omega)
                replace H85 := Lib.hid (hk83.blk H85.out (fun e => by have e : W5.heap.size = W5.heap.size + 1 := e; omega))
                have h1383 := hk83.blk hHeld.2.1 (fun e => by have e : b13 = W5.heap.size + 1 := e; have := blk_lt HR.out; omega)
                refine step_app (by rfl) (.tmp 80) (.tmp 82) 50 rfl rfl rfl hr83 ?_
                refine hK.out _ _ ⟨hm83, h1383, (blk_cell hm83.blk 2).trans rfl⟩ (fun hHeld => ?_)
                clear hK K
                refine norm_ (a' := ?_) ?_ ?_
                rotate_left
                · show Act.put _ (some 83) _ = _
                  simp only [Act.put, List.setIfInBounds_toArray, List.set_cons_zero, List.set_cons_succ, i64_w, i32_w]
                  rfl
                exact norm_ (by simp only [putAll, Act.put, List.setIfInBounds_toArray, List.set_cons_zero, List.set_cons_succ]) (hCont (v83, W5.heap.size, W5.heap.size + 1) _ ⟨hHeld, HO83.out, H85.out, HE.out⟩)
            rintro ⟨v83, g85, g80⟩ w7 ⟨hHeld, ho83, h85, he⟩
            have HO83 := Lib.hid ho83; clear ho83
            have H85 := Lib.hid h85; clear h85
            refine norm_ (a' := ?_) ?_ ?_
            rotate_left
            · simp only [putAll, Act.put, List.setIfInBounds_toArray, List.set_cons_zero, List.set_cons_succ]
              rfl
            refine last_ (i := 8) (N := some 86) #[true, true, true, true, true, true, true, true, true, false, false] rfl rfl (by kernel_rfl) (by decide) (fun K hK => ?_)
            obtain ⟨v86, w86, hr86, hb86, hg86, ho86⟩ := push_step 50 hHeld.1 HO83.out H85.out HAR.out hlr
            obtain ⟨A6, m6, c6, rfl⟩ : ∃ A m c, v86 = .slice A m c := by obtain ⟨A, c, e, _⟩ := ho86.slice_; exact ⟨_, _, _, e⟩
            have HB86 := Lib.hid hb86; clear hb86
            have HG86 := Lib.hid hg86; clear hg86
            have HO86 := Lib.hid ho86; clear ho86
            refine step_app (by rfl) (.tmp 83) (.tmp 85) 50 rfl rfl rfl hr86 ?_
            refine hK.out _ _ ?_
            clear hK K
            refine norm_ (a' := ?_) ?_ ?_
            rotate_left
            · show Act.put _ (some 86) _ = _
              simp only [Act.put, List.setIfInBounds_toArray, List.set_cons_zero, List.set_cons_succ, i64_w, i32_w]
              rfl
            refine pure_ (i := 9) (N := some 87) (v := ?_) (a' := ?_) #[true, true, true, true, true, true, true, true, true, true, false] rfl rfl (by kernel_rfl) (fun _ _ _ h => h) (Or.inl ⟨by rfl, ?_⟩) ?_ ?_
            rotate_left
            · intro w'
              go_simp
              with_reducible rfl
            rotate_left
            · simp only [Act.put, List.setIfInBounds_toArray, List.set_cons_zero, List.set_cons_succ, i64_w, i32_w]
              rfl
            refine last_ (i := 10) (N := none) #[true, true, true, true, true, true, true, true, true, true, true] rfl rfl (by kernel_rfl) (by decide) (fun K hK => ?_)
            refine skip_ (w1 := w86.setRow g #[.int .u64 (st : Int), .int .u64 (st : Int), .slice A6 m6 c6, .slice none 0 0]) (by rfl) rfl (by refine run_strow 68 (.tmp 9) (.tmp 87) ?_ g #[.int .u64 (st : Int), .int .u64 (st : Int), .slice A6 m6 c6, .slice none 0 0] ?_ ?_ 68 _ HG86.out (by kernel_rfl) rfl (by simp [Value.oneCell']) <;> rfl) ?_
            refine hK.out _ _ ?_
            clear hK K
            refine done_ (by kernel_rfl) ?_

            replace HM := Lib.hid (show Mo w (w86.setRow g #[.int .u64 (st : Int), .int .u64 (st : Int), .slice A6 m6 c6, .slice none 0 0]) g st (.slice A6 m6 c6) (rds ++ [r]) from Mo.set_row HB86.out HG86.out HO86.out HM.out.ge)
            clear hHeld
            go_wp2
            go_roundw
            case rel => exact ⟨i + 1, .slice A6 m6 c6, by go_num, hlt, by rw [HT.out, HRD.out]; exact HM.out⟩
            case measure => simp [intOf]; omega
          | false =>
            go_wp2
            refine start_ (n := 13) (S := fun w' => bb < w'.heap.size ∧ w'.cell? ⟨bb, off + i, none⟩ = some (.string k) ∧ w'.cell? ⟨w4.heap.size, 1, none⟩ = some (.bool false) ∧ w4.heap.size < w'.heap.size) (ds := [12]) #[false, false, false, false, false, false, false, false, false, false, false, false, false] (by kernel_rfl) rfl rfl ⟨hbw2, c2, d1, h11⟩ (fun hHeld => ?_)
            refine pure_ (i := 0) (N := some 59) (v := ?_) (a' := ?_) #[true, false, false, false, false, false, false, false, false, false, false, false, false] rfl rfl (by kernel_rfl) (fun _ _ _ h => h) (Or.inl ⟨by rfl, ?_⟩) ?_ ?_
            rotate_left
            · intro w'
              go_simp
              with_reducible rfl
            rotate_left
            · simp only [Act.put, List.setIfInBounds_toArray, List.set_cons_zero, List.set_cons_succ, i64_w, i32_w]
              rfl
            refine pure_ (i := 1) (N := some 60) (v := ?_) (a' := ?_) #[true, true, false, false, false, false, false, false, false, false, false, false, false] rfl rfl (by kernel_rfl) (fun _ _ _ h => h) (Or.inl ⟨by rfl, ?_⟩) ?_ ?_
            rotate_left
            · intro w'
              go_simp
              with_reducible rfl
            rotate_left
            · simp only [Act.put, List.setIfInBounds_toArray, List.set_cons_zero, List.set_cons_succ, i64_w, i32_w]
              rfl
            refine pure_ (i := 2) (N := some 61) (v := ?_) (a' := ?_) #[true, true, true, false, false, false, false, false, false, false, false, false, false] rfl rfl (by kernel_rfl) (fun _ _ _ h => h) (Or.inl ⟨by rfl, ?_⟩) ?_ ?_
            rotate_left
            · intro w'
              go_simp
              with_reducible rfl
            rotate_left
            · simp only [Act.put, List.setIfInBounds_toArray, List.set_cons_zero, List.set_cons_succ, i64_w, i32_w]
              rfl
            refine pure_ (i := 4) (N := some 63) (v := ?_) (a' := ?_) #[true, true, true, false, true, false, false, false, false, false, false, false, false] rfl rfl (by kernel_rfl) (fun _ _ _ h => h) (Or.inl ⟨by rfl, ?_⟩) ?_ ?_
            rotate_left
            · intro w'
              go_simp
              with_reducible rfl
            rotate_left
            · simp only [Act.put, List.setIfInBounds_toArray, List.set_cons_zero, List.set_cons_succ, i64_w, i32_w]
              rfl
            refine pure_ (i := 5) (N := some 64) (v := ?_) (a' := ?_) #[true, true, true, false, true, true, false, false, false, false, false, false, false] rfl rfl (by kernel_rfl) (fun _ _ _ h => h) (Or.inl ⟨by rfl, ?_⟩) ?_ ?_
            rotate_left
            · intro w'
              go_simp
              with_reducible rfl
            rotate_left
            · simp only [Act.put, List.setIfInBounds_toArray, List.set_cons_zero, List.set_cons_succ, i64_w, i32_w]
              rfl
            refine pure_ (i := 6) (N := some 65) (v := ?_) (a' := ?_) #[true, true, true, false, true, true, true, false, false, false, false, false, false] rfl rfl (by kernel_rfl) (fun _ _ _ h => h) (Or.inl ⟨by rfl, ?_⟩) ?_ ?_
            rotate_left
            · intro w'
              go_simp
              with_reducible rfl
            rotate_left
            · simp only [Act.put, List.setIfInBounds_toArray, List.set_cons_zero, List.set_cons_succ, i64_w, i32_w]
              rfl
            refine take_ (i := 3) (N := some 62) (v := ?_) (a' := ?_) #[true, true, true, true, true, true, true, false, false, false, false, false, false] rfl rfl (by kernel_rfl) (fun _ _ _ h => h) (Or.inl ⟨by rfl, ?_⟩) hHeld ?_ ?_
            rotate_left
            · rintro w' ⟨s0, s1, s2, s3⟩
              go_simp
              with_reducible rfl
            rotate_left
            · simp only [Act.put, List.setIfInBounds_toArray, List.set_cons_zero, List.set_cons_succ, i64_w, i32_w]
              rfl
            refine take_ (i := 7) (N := some 66) (v := ?_) (a' := ?_) #[true, true, true, true, true, true, true, true, false, false, false, false, false] rfl rfl (by kernel_rfl) (fun _ _ _ h => h) (Or.inl ⟨by rfl, ?_⟩) hHeld ?_ ?_
            rotate_left
            · rintro w' ⟨s0, s1, s2, s3⟩
              go_simp
              with_reducible rfl
            rotate_left
            · simp only [Act.put, List.setIfInBounds_toArray, List.set_cons_zero, List.set_cons_succ, i64_w, i32_w]
              rfl
            refine pure_ (i := 8) (N := some 67) (v := ?_) (a' := ?_) #[true, true, true, true, true, true, true, true, true, false, false, false, false] rfl rfl (by kernel_rfl) (fun _ _ _ h => h) (Or.inl ⟨by rfl, ?_⟩) ?_ ?_
            rotate_left
            · intro w'
              go_simp
              with_reducible rfl
            rotate_left
            · simp only [Act.put, List.setIfInBounds_toArray, List.set_cons_zero, List.set_cons_succ, i64_w, i32_w]
              rfl
            refine pure_ (i := 9) (N := some 68) (v := ?_) (a' := ?_) #[true, true, true, true, true, true, true, true, true, true, false, false, false] rfl rfl (by kernel_rfl) (fun _ _ _ h => h) (Or.inl ⟨by rfl, ?_⟩) ?_ ?_
            rotate_left
            · intro w'
              go_simp
              with_reducible rfl
            rotate_left
            · simp only [Act.put, List.setIfInBounds_toArray, List.set_cons_zero, List.set_cons_succ, i64_w, i32_w]
              rfl
            refine pure_ (i := 10) (N := some 69) (v := ?_) (a' := ?_) #[true, true, true, true, true, true, true, true, true, true, true, false, false] rfl rfl (by kernel_rfl) (fun _ _ _ h => h) (Or.inl ⟨by rfl, ?_⟩) ?_ ?_
            rotate_left
            · intro w'
              go_simp
              with_reducible rfl
            rotate_left
            · simp only [Act.put, List.setIfInBounds_toArray, List.set_cons_zero, List.set_cons_succ, i64_w, i32_w]
              rfl
            refine one_ (i := 11) (N := some 13) #[true, true, true, true, true, true, true, true, true, true, true, true, false] rfl rfl (by kernel_rfl) (by decide) (fun K hK => ?_)
            refine value_ (w1 := ?_) (v := ?_) (by rfl) rfl ?_ ?_
            rotate_left 2
            · go_simp
              constructor
              · rfl
              · rfl
            refine hK.out _ _ ⟨Nat.lt_of_lt_of_le hHeld.1 (below_alloc (Below.refl _ _) _).size, (Below.cell (below_alloc (Below.refl _ _) _) (p := ⟨bb, off + i, none⟩) hHeld.1).trans hHeld.2.1, (Below.cell (below_alloc (Below.refl _ _) _) (p := ⟨w4.heap.size, 1, none⟩) hHeld.2.2.2).trans hHeld.2.2.1, Nat.lt_of_lt_of_le hHeld.2.2.2 (below_alloc (Below.refl _ _) _).size⟩ (fun hHeld => ?_)
            clear hK K
            refine norm_ (a' := ?_) ?_ ?_
            rotate_left
            · show Act.put _ (some 13) _ = _
              simp only [Act.put, List.setIfInBounds_toArray, List.set_cons_zero, List.set_cons_succ, i64_w, i32_w]
              rfl
            refine last_ (i := 12) (N := none) #[true, true, true, true, true, true, true, true, true, true, true, true, true] rfl rfl (by kernel_rfl) (by decide) (fun K hK => ?_)
            refine skip_ (w1 := ?_) (by rfl) rfl ?_ ?_
            rotate_left
            · go_simp
              rfl
            refine hK.out _ _ ?_
            clear hK K
            refine done_ (by kernel_rfl) ?_

            go_wp2
            obtain ⟨b13, hb13⟩ : ∃ b, w4.heap.size + 1 = b := ⟨_, rfl⟩
            have HR6 := Lib.hid (show ((w4.alloc (.cells #[.int .u64 (u0 : Int), .bool false, .string u2] 41)).alloc (.cells #[.string k, .bool true, .int .u64 0, .bool false, .string ⟨#[]⟩] 43)).drew.heap[b13]? = some (.cells #[.string k, .bool true, .int .u64 0, .bool false, .string ⟨#[]⟩] 43 (0, 0)) from blk_drew (row_new (w4.alloc (.cells #[.int .u64 (u0 : Int), .bool false, .string u2] 41)) (.cells #[.string k, .bool true, .int .u64 0, .bool false, .string ⟨#[]⟩] 43) (by simp; omega)))
            have KV6 : ((w4.alloc (.cells #[.int .u64 (u0 : Int), .bool false, .string u2] 41)).alloc (.cells #[.string k, .bool true, .int .u64 0, .bool false, .string ⟨#[]⟩] 43)).drew.heap[w4.heap.size]? = some (.cells #[.int .u64 (u0 : Int), .bool false, .string u2] 41 (0, 0)) := blk_drew (blk_alloc HV.out _)
            have c6 : ((w4.alloc (.cells #[.int .u64 (u0 : Int), .bool false, .string u2] 41)).alloc (.cells #[.string k, .bool true, .int .u64 0, .bool false, .string ⟨#[]⟩] 43)).drew.cell? ⟨bb, off + i, none⟩ = some (.string k) := (Below.cell (below_drew (below_alloc (Below.refl _ _) _)) (p := ⟨bb, off + i, none⟩) hbw2).trans c2
            have hb6 : bb < ((w4.alloc (.cells #[.int .u64 (u0 : Int), .bool false, .string u2] 41)).alloc (.cells #[.string k, .bool true, .int .u64 0, .bool false, .string ⟨#[]⟩] 43)).drew.heap.size := Nat.lt_of_lt_of_le hbw2 (below_drew (below_alloc (Below.refl _ _) _)).size
            have HM6 := Lib.hid (show Mo w ((w4.alloc (.cells #[.int .u64 (u0 : Int), .bool false, .string u2] 41)).alloc (.cells #[.string k, .bool true, .int .u64 0, .bool false, .string ⟨#[]⟩] 43)).drew g st v rds from (HM.out.alloc (.cells #[.string k, .bool true, .int .u64 0, .bool false, .string ⟨#[]⟩] 43)).drew)
            have HN := Lib.hid (show w.heap.size ≤ b13 ∧ v.ownBlock ≠ some b13 ∧ b13 ≠ g by
              refine ⟨?_, fun e => ?_, ?_⟩
              · have := HMQ.out.bel.size
                omega
              · have := (HMQ.out.own.block_ge _ e).2
                omega
              · have := blk_lt HMQ.out.blk
                omega)
            rw [hb13]
            generalize ((w4.alloc (.cells #[.int .u64 (u0 : Int), .bool false, .string u2] 41)).alloc (.cells #[.string k, .bool true, .int .u64 0, .bool false, .string ⟨#[]⟩] 43)).drew = W6 at *
            have z0 : W6.cell? ⟨w4.heap.size, 0, none⟩ = some (.int .u64 (u0 : Int)) := (blk_cell KV6 0).trans rfl
            have z1 : W6.cell? ⟨w4.heap.size, 1, none⟩ = some (.bool false) := (blk_cell KV6 1).trans rfl
            have z2 : W6.cell? ⟨w4.heap.size, 2, none⟩ = some (.string u2) := (blk_cell KV6 2).trans rfl
            clear KV6
            generalize w4.heap.size = b11 at *
            refine start_ (n := 7) (S := fun w' => w'.cell? ⟨bb, off + i, none⟩ = some (.string k) ∧ w'.cell? ⟨b11, 0, none⟩ = some (.int .u64 (u0 : Int)) ∧ w'.cell? ⟨b11, 1, none⟩ = some (.bool false) ∧ w'.cell? ⟨b11, 2, none⟩ = some (.string u2)) (ds := [6]) #[false, false, false, false, false, false, false] (by kernel_rfl) rfl rfl ⟨c6, z0, z1, z2⟩ (fun hHeld => ?_)
            refine pure_ (i := 0) (N := some 72) (v := ?_) (a' := ?_) #[true, false, false, false, false, false, false] rfl rfl (by kernel_rfl) (fun _ _ _ h => h) (Or.inl ⟨by rfl, ?_⟩) ?_ ?_
            rotate_left
            · intro w'
              go_simp
              with_reducible rfl
            rotate_left
            · simp only [Act.put, List.setIfInBounds_toArray, List.set_cons_zero, List.set_cons_succ, i64_w, i32_w]
              rfl
            refine pure_ (i := 1) (N := some 73) (v := ?_) (a' := ?_) #[true, true, false, false, false, false, false] rfl rfl (by kernel_rfl) (fun _ _ _ h => h) (Or.inl ⟨by rfl, ?_⟩) ?_ ?_
            rotate_left
            · intro w'
              go_simp
              with_reducible rfl
            rotate_left
            · simp only [Act.put, List.setIfInBounds_toArray, List.set_cons_zero, List.set_cons_succ, i64_w, i32_w]
              rfl
            refine pure_ (i := 2) (N := some 74) (v := ?_) (a' := ?_) #[true, true, true, false, false, false, false] rfl rfl (by kernel_rfl) (fun _ _ _ h => h) (Or.inl ⟨by rfl, ?_⟩) ?_ ?_
            rotate_left
            · intro w'
              go_simp
              with_reducible rfl
            rotate_left
            · simp only [Act.put, List.setIfInBounds_toArray, List.set_cons_zero, List.set_cons_succ, i64_w, i32_w]
              rfl
            refine take_ (i := 3) (N := some 75) (v := ?_) (a' := ?_) #[true, true, true, true, false, false, false] rfl rfl (by kernel_rfl) (fun _ _ _ h => h) (Or.inl ⟨by rfl, ?_⟩) hHeld ?_ ?_
            rotate_left
            · rintro w' ⟨s0, s1, s2, s3⟩
              go_simp
              with_reducible rfl
            rotate_left
            · simp only [Act.put, List.setIfInBounds_toArray, List.set_cons_zero, List.set_cons_succ, i64_w, i32_w]
              rfl
            refine take_ (i := 4) (N := some 76) (v := ?_) (a' := ?_) #[true, true, true, true, true, false, false] rfl rfl (by kernel_rfl) (fun _ _ _ h => h) (Or.inl ⟨by rfl, ?_⟩) hHeld ?_ ?_
            rotate_left
            · rintro w' ⟨s0, s1, s2, s3⟩
              go_simp
              with_reducible rfl
            rotate_left
            · simp only [Act.put, List.setIfInBounds_toArray, List.set_cons_zero, List.set_cons_succ, i64_w, i32_w]
              rfl
            refine pure_ (i := 5) (N := some 77) (v := ?_) (a' := ?_) #[true, true, true, true, true, true, false] rfl rfl (by kernel_rfl) (fun _ _ _ h => h) (Or.inl ⟨by rfl, ?_⟩) ?_ ?_
            rotate_left
            · intro w'
              go_simp
              with_reducible rfl
            rotate_left
            · simp only [Act.put, List.setIfInBounds_toArray, List.set_cons_zero, List.set_cons_succ, i64_w, i32_w]
              rfl
            refine last_ (i := 6) (N := none) #[true, true, true, true, true, true, true] rfl rfl (by kernel_rfl) (by decide) (fun K hK => ?_)
            refine skip_ (w1 := W6.drew.setRow b13 #[.string k, .bool true, .int .u64 (u0 : Int), .bool false, .string u2]) (by rfl) rfl (by refine run_strow 43 (.tmp 13) (.tmp 77) ?_ b13 #[.string k, .bool true, .int .u64 (u0 : Int), .bool false, .string u2] ?_ ?_ 43 _ (blk_drew HR6.out) (by kernel_rfl) rfl (by simp [Value.oneCell']) <;> rfl) ?_
            refine hK.out _ _ ?_
            clear hK K
            refine done_ (by kernel_rfl) ?_

            go_wp2
            have HR := Lib.hid (show (W6.drew.setRow b13 #[.string k, .bool true, .int .u64 (u0 : Int), .bool false, .string u2]).heap[b13]? = some (.cells #[.string k, .bool true, .int .u64 (u0 : Int), .bool false, .string u2] 43 (0, 0)) from setRow_heap _ _ _ _ _ _ (blk_drew HR6.out))
            replace HM := Lib.hid (show Mo w (W6.drew.setRow b13 #[.string k, .bool true, .int .u64 (u0 : Int), .bool false, .string u2]) g st v rds from HM6.out.drew.turn (keeps_setRow (Keeps.refl (Only b13) W6.drew) (.inl (Only.self b13)) _) HN.out.1 HN.out.2.2 HN.out.2.1)
            clear HR6 HM6
            have HRD := Lib.hid (show rdOf l st k = (k, true, (u0, false, u2)) by rw [HU.out]; rw [if_pos (by simp [h0])])
            have har : (#[.string k, .bool true, .int .u64 (u0 : Int), .bool false, .string u2] : Array Value).toList = rdC (k, true, (u0, false, u2)) := rfl
            have hsz : (#[.string k, .bool true, .int .u64 (u0 : Int), .bool false, .string u2] : Array Value).size = 5 := rfl
            generalize hRR : ((k, true, (u0, false, u2)) : RdT) = r at *
            clear hRR
            generalize (W6.drew.setRow b13 #[.string k, .bool true, .int .u64 (u0 : Int), .bool false, .string u2]) = W5 at *
            obtain ⟨r0, r1, z, r3, r4, hAR⟩ : ∃ (r0 : ByteArray) (r1 : Bool) (z : Int) (r3 : Bool) (r4 : ByteArray), (#[.string k, .bool true, .int .u64 (u0 : Int), .bool false, .string u2] : Array Value) = #[.string r0, .bool r1, .int .u64 z, .bool r3, .string r4] := ⟨_, _, _, _, _, rfl⟩
            rw [hAR] at HR har hsz
            clear hAR
            clear c1 c2 d1 hbw hbw2 hb13 HV HMQ h11
            have HAR := Lib.hid har; clear har
            obtain ⟨hMg, hMv⟩ : W5.cell? ⟨g, 2, none⟩ = some v ∧ True := ⟨(blk_cell HM.out.blk 2).trans rfl, trivial⟩
            refine start_ (n := 11) (S := fun w' => Mo w w' g st v rds ∧ w'.heap[b13]? = some (.cells #[.string r0, .bool r1, .int .u64 z, .bool r3, .string r4] 43 (0, 0)) ∧ w'.cell? ⟨g, 2, none⟩ = some v) (ds := [8, 10]) #[false, false, false, false, false, false, false, false, false, false, false] (by kernel_rfl) rfl rfl ⟨HM.out.drew, (blk_drew HR.out), hMg⟩ (fun hHeld => ?_)
            refine pure_ (i := 0) (N := some 78) (v := ?_) (a' := ?_) #[true, false, false, false, false, false, false, false, false, false, false] rfl rfl (by kernel_rfl) (fun _ _ _ h => h) (Or.inl ⟨by rfl, ?_⟩) ?_ ?_
            rotate_left
            · intro w'
              go_simp
              with_reducible rfl
            rotate_left
            · simp only [Act.put, List.setIfInBounds_toArray, List.set_cons_zero, List.set_cons_succ, i64_w, i32_w]
              rfl
            refine pure_ (i := 1) (N := some 79) (v := ?_) (a' := ?_) #[true, true, false, false, false, false, false, false, false, false, false] rfl rfl (by kernel_rfl) (fun _ _ _ h => h) (Or.inl ⟨by rfl, ?_⟩) ?_ ?_
            rotate_left
            · intro w'
              go_simp
              with_reducible rfl
            rotate_left
            · simp only [Act.put, List.setIfInBounds_toArray, List.set_cons_zero, List.set_cons_succ, i64_w, i32_w]
              rfl
            refine pure_ (i := 3) (N := some 81) (v := ?_) (a' := ?_) #[true, true, false, true, false, false, false, false, false, false, false] rfl rfl (by kernel_rfl) (fun _ _ _ h => h) (Or.inl ⟨by rfl, ?_⟩) ?_ ?_
            rotate_left
            · intro w'
              go_simp
              with_reducible rfl
            rotate_left
            · simp only [Act.put, List.setIfInBounds_toArray, List.set_cons_zero, List.set_cons_succ, i64_w, i32_w]
              rfl
            refine take_ (i := 4) (N := some 82) (v := ?_) (a' := ?_) #[true, true, false, true, true, false, false, false, false, false, false] rfl rfl (by kernel_rfl) (fun _ _ _ h => h) (Or.inl ⟨by rfl, ?_⟩) hHeld ?_ ?_
            rotate_left
            · rintro w' ⟨s0, s1, s2⟩
              go_simp
              with_reducible rfl
            rotate_left
            · simp only [Act.put, List.setIfInBounds_toArray, List.set_cons_zero, List.set_cons_succ, i64_w, i32_w]
              rfl
            refine take_ (i := 6) (N := some 84) (v := ?_) (a' := ?_) #[true, true, false, true, true, false, true, false, false, false, false] rfl rfl (by kernel_rfl) (fun _ _ _ h => h) (Or.inl ⟨by rfl, ?_⟩) hHeld ?_ ?_
            rotate_left
            · rintro w' ⟨s0, s1, s2⟩
              refine run_row 43 (.tmp 13) ?_ b13 ?_ 43 #[.string r0, .bool r1, .int .u64 z, .bool r3, .string r4] (0, 0) _ s1 Try.underlying43 rfl (by kernel_rfl) <;> rfl
            rotate_left
            · simp only [Act.put, List.setIfInBounds_toArray, List.set_cons_zero, List.set_cons_succ, i64_w, i32_w]
              rfl
            refine join_ (σ := Value × Nat × Nat) 3 #[true, true, true, true, true, true, true, true, false, false, false] (fun s => [(80, .slice (some ⟨s.2.2, 0, none⟩) 0 0), (83, s.1), (85, .slice (some ⟨s.2.1, 0, none⟩) 1 1)]) (fun s w' => (Mo w w' g st v rds ∧ w'.heap[b13]? = some (.cells #[.string r0, .bool r1, .int .u64 z, .bool r3, .string r4] 43 (0, 0)) ∧ w'.cell? ⟨g, 2, none⟩ = some v) ∧ OwnF w' w.heap.size 43 5 rdC s.1 rds ∧ w'.heap[s.2.1]? = some (.cells #[.string r0, .bool r1, .int .u64 z, .bool r3, .string r4] 43 (0, 0)) ∧ s.1.ownBlock ≠ some s.2.1) ?_ ?_
            rotate_left
            · intro hCont
              refine two_ (i := 2) (j := 7) (Ni := some 80) (Nj := some 85) #[true, true, true, true, true, false, true, false, false, false, false] #[true, true, false, true, true, false, true, true, false, false, false] rfl rfl rfl rfl (by kernel_rfl) (by decide) (by decide) (fun K hK => ?_) (fun K hK => ?_)
              · skip
                refine value_ (w1 := ?_) (v := ?_) (by rfl) rfl ?_ ?_
                rotate_left 2
                · go_simp
                  constructor
                  · rfl
                  · rfl
                have H80 := Lib.hid (row_new W5.drew (.cells #[] 43) (n := W5.heap.size) (by simp))
                have HL80 := Lib.hid (show v.ownBlock ≠ some (W5.heap.size) from fun e => by have := (HM.out.own.block_ge _ e).2; omega)
                refine hK.out _ _ ⟨hHeld.1.alloc _, blk_alloc hHeld.2.1 _, (blk_cell (hHeld.1.alloc _).blk 2).trans rfl⟩ (fun hHeld => ?_)
                clear hK K
                refine norm_ (a' := ?_) ?_ ?_
                rotate_left
                · show Act.put _ (some 80) _ = _
                  simp only [Act.put, List.setIfInBounds_toArray, List.set_cons_zero, List.set_cons_succ, i64_w, i32_w]
                  rfl
                refine two_ (i := 5) (j := 7) (Ni := some 83) (Nj := some 85) #[true, true, true, true, true, true, true, false, false, false, false] #[true, true, true, true, true, false, true, true, false, false, false] rfl rfl rfl rfl (by kernel_rfl) (by decide) (by decide) (fun K hK => ?_) (fun K hK => ?_)
                · skip
                  obtain ⟨v83, w83, hr83, hm83, ho83, hk83, hb83⟩ := copy_step (g80 := W5.heap.size) 50 hHeld.1 H80.out (by have := HM.out.bel.size; omega) HL80.out hlr
                  have HO83 := Lib.hid ho83; clear ho83
                  have h1383 := hk83.blk hHeld.2.1 (fun e => by have e : b13 = W5.heap.size := e; have := blk_lt HR.out; omega)
                  refine step_app (by rfl) (.tmp 80) (.tmp 82) 50 rfl rfl rfl hr83 ?_
                  refine hK.out _ _ ⟨hm83, h1383, (blk_cell hm83.blk 2).trans rfl⟩ (fun hHeld => ?_)
                  clear hK K
                  refine norm_ (a' := ?_) ?_ ?_
                  rotate_left
                  · show Act.put _ (some 83) _ = _
                    simp only [Act.put, List.setIfInBounds_toArray, List.set_cons_zero, List.set_cons_succ, i64_w, i32_w]
                    rfl
                  refine one_ (i := 7) (N := some 85) #[true, true, true, true, true, true, true, true, false, false, false] rfl rfl (by kernel_rfl) (by decide) (fun K hK => ?_)
                  refine value_ (w1 := ?_) (v := ?_) (by rfl) rfl ?_ ?_
                  rotate_left 2
                  · go_simp
                    constructor
                    · rfl
                    · rfl
                  have H85 := Lib.hid (row_new w83 (.cells #[.string r0, .bool r1, .int .u64 z, .bool r3, .string r4] 43) (n := w83.heap.size) (by simp))
                  have HE := Lib.hid (show v83.ownBlock ≠ some w83.heap.size from fun e => Nat.lt_irrefl _ (HO83.out.block_ge _ e).2)
                  replace HO83 := Lib.hid (HO83.out.below (below_alloc (Below.refl _ _) (.cells #[.string r0, .bool r1, .int .u64 z, .bool r3, .string r4] 43)))
                  refine hK.out _ _ ⟨hHeld.1.alloc _, blk_alloc hHeld.2.1 _, (blk_cell (hHeld.1.alloc _).blk 2).trans rfl⟩ (fun hHeld => ?_)
                  clear hK K
                  refine norm_ (a' := ?_) ?_ ?_
                  rotate_left
                  · show Act.put _ (some 85) _ = _
                    simp only [Act.put, List.setIfInBounds_toArray, List.set_cons_zero, List.set_cons_succ, i64_w, i32_w]
                    rfl
                  exact norm_ (by simp only [putAll, Act.put, List.setIfInBounds_toArray, List.set_cons_zero, List.set_cons_succ]) (hCont (v83, w83.heap.size, W5.heap.size) _ ⟨hHeld, HO83.out, H85.out, HE.out⟩)
                · skip
                  refine value_ (w1 := ?_) (v := ?_) (by rfl) rfl ?_ ?_
                  rotate_left 2
                  · go_simp
                    constructor
                    · rfl
                    · rfl
                  have H85 := Lib.hid (row_new (W5.drew.alloc (.cells #[] 43)) (.cells #[.string r0, .bool r1, .int .u64 z, .bool r3, .string r4] 43) (n := W5.heap.size + 1) (by simp))
                  have H80 := Lib.hid (blk_alloc H80.out (.cells #[.string r0, .bool r1, .int .u64 z, .bool r3, .string r4] 43))
                  refine hK.out _ _ ⟨hHeld.1.alloc _, blk_alloc hHeld.2.1 _, (blk_cell (hHeld.1.alloc _).blk 2).trans rfl⟩ (fun hHeld => ?_)
                  clear hK K
                  refine norm_ (a' := ?_) ?_ ?_
                  rotate_left
                  · show Act.put _ (some 85) _ = _
                    simp only [Act.put, List.setIfInBounds_toArray, List.set_cons_zero, List.set_cons_succ, i64_w, i32_w]
                    rfl
                  refine one_ (i := 5) (N := some 83) #[true, true, true, true, true, true, true, true, false, false, false] rfl rfl (by kernel_rfl) (by decide) (fun K hK => ?_)
                  obtain ⟨v83, w83, hr83, hm83, ho83, hk83, hb83⟩ := copy_step (g80 := W5.heap.size) 50 hHeld.1 H80.out (by have := HM.out.bel.size; omega) HL80.out hlr
                  have HO83 := Lib.hid ho83; clear ho83
                  have HE := Lib.hid (show v83.ownBlock ≠ some (W5.heap.size + 1) from fun e => by rw [e] at hb83; simp at hb83; try omega)
                  replace H85 := Lib.hid (hk83.blk H85.out (fun e => by have e : W5.heap.size + 1 = W5.heap.size := e; omega))
                  have h1383 := hk83.blk hHeld.2.1 (fun e => by have e : b13 = W5.heap.size := e; have := blk_lt HR.out; omega)
                  refine step_app (by rfl) (.tmp 80) (.tmp 82) 50 rfl rfl rfl hr83 ?_
                  refine hK.out _ _ ⟨hm83, h1383, (blk_cell hm83.blk 2).trans rfl⟩ (fun hHeld => ?_)
                  clear hK K
                  refine norm_ (a' := ?_) ?_ ?_
                  rotate_left
                  · show Act.put _ (some 83) _ = _
                    simp only [Act.put, List.setIfInBounds_toArray, List.set_cons_zero, List.set_cons_succ, i64_w, i32_w]
                    rfl
                  exact norm_ (by simp only [putAll, Act.put, List.setIfInBounds_toArray, List.set_cons_zero, List.set_cons_succ]) (hCont (v83, W5.heap.size + 1, W5.heap.size) _ ⟨hHeld, HO83.out, H85.out, HE.out⟩)
              · skip
                refine value_ (w1 := ?_) (v := ?_) (by rfl) rfl ?_ ?_
                rotate_left 2
                · go_simp
                  constructor
                  · rfl
                  · rfl
                have H85 := Lib.hid (row_new W5.drew (.cells #[.string r0, .bool r1, .int .u64 z, .bool r3, .string r4] 43) (n := W5.heap.size) (by simp))
                refine hK.out _ _ ⟨hHeld.1.alloc _, blk_alloc hHeld.2.1 _, (blk_cell (hHeld.1.alloc _).blk 2).trans rfl⟩ (fun hHeld => ?_)
                clear hK K
                refine norm_ (a' := ?_) ?_ ?_
                rotate_left
                · show Act.put _ (some 85) _ = _
                  simp only [Act.put, List.setIfInBounds_toArray, List.set_cons_zero, List.set_cons_succ, i64_w, i32_w]
                  rfl
                refine one_ (i := 2) (N := some 80) #[true, true, true, true, true, false, true, true, false, false, false] rfl rfl (by kernel_rfl) (by decide) (fun K hK => ?_)
                refine value_ (w1 := ?_) (v := ?_) (by rfl) rfl ?_ ?_
                rotate_left 2
                · go_simp
                  constructor
                  · rfl
                  · rfl
                have H80 := Lib.hid (row_new (W5.drew.alloc (.cells #[.string r0, .bool r1, .int .u64 z, .bool r3, .string r4] 43)) (.cells #[] 43) (n := W5.heap.size + 1) (by simp))
                have HL80 := Lib.hid (show v.ownBlock ≠ some (W5.heap.size + 1) from fun e => by have := (HM.out.own.block_ge _ e).2; omega)
                have H85 := Lib.hid (blk_alloc H85.out (.cells #[] 43))
                refine hK.out _ _ ⟨hHeld.1.alloc _, blk_alloc hHeld.2.1 _, (blk_cell (hHeld.1.alloc _).blk 2).trans rfl⟩ (fun hHeld => ?_)
                clear hK K
                refine norm_ (a' := ?_) ?_ ?_
                rotate_left
                · show Act.put _ (some 80) _ = _
                  simp only [Act.put, List.setIfInBounds_toArray, List.set_cons_zero, List.set_cons_succ, i64_w, i32_w]
                  rfl
                refine one_ (i := 5) (N := some 83) #[true, true, true, true, true, true, true, true, false, false, false] rfl rfl (by kernel_rfl) (by decide) (fun K hK => ?_)
                obtain ⟨v83, w83, hr83, hm83, ho83, hk83, hb83⟩ := copy_step (g80 := W5.heap.size + 1) 50 hHeld.1 H80.out (by have := HM.out.bel.size; omega) HL80.out hlr
                have HO83 := Lib.hid ho83; clear ho83
                have HE := Lib.hid (show v83.ownBlock ≠ some (W5.heap.size) from fun e => by rw [e] at hb83; simp at hb83; try omega)
                replace H85 := Lib.hid (hk83.blk H85.out (fun e => by have e : W5.heap.size = W5.heap.size + 1 := e; omega))
                have h1383 := hk83.blk hHeld.2.1 (fun e => by have e : b13 = W5.heap.size + 1 := e; have := blk_lt HR.out; omega)
                refine step_app (by rfl) (.tmp 80) (.tmp 82) 50 rfl rfl rfl hr83 ?_
                refine hK.out _ _ ⟨hm83, h1383, (blk_cell hm83.blk 2).trans rfl⟩ (fun hHeld => ?_)
                clear hK K
                refine norm_ (a' := ?_) ?_ ?_
                rotate_left
                · show Act.put _ (some 83) _ = _
                  simp only [Act.put, List.setIfInBounds_toArray, List.set_cons_zero, List.set_cons_succ, i64_w, i32_w]
                  rfl
                exact norm_ (by simp only [putAll, Act.put, List.setIfInBounds_toArray, List.set_cons_zero, List.set_cons_succ]) (hCont (v83, W5.heap.size, W5.heap.size + 1) _ ⟨hHeld, HO83.out, H85.out, HE.out⟩)
            rintro ⟨v83, g85, g80⟩ w7 ⟨hHeld, ho83, h85, he⟩
            have HO83 := Lib.hid ho83; clear ho83
            have H85 := Lib.hid h85; clear h85
            refine norm_ (a' := ?_) ?_ ?_
            rotate_left
            · simp only [putAll, Act.put, List.setIfInBounds_toArray, List.set_cons_zero, List.set_cons_succ]
              rfl
            refine last_ (i := 8) (N := some 86) #[true, true, true, true, true, true, true, true, true, false, false] rfl rfl (by kernel_rfl) (by decide) (fun K hK => ?_)
            obtain ⟨v86, w86, hr86, hb86, hg86, ho86⟩ := push_step 50 hHeld.1 HO83.out H85.out HAR.out hlr
            obtain ⟨A6, m6, c6, rfl⟩ : ∃ A m c, v86 = .slice A m c := by obtain ⟨A, c, e, _⟩ := ho86.slice_; exact ⟨_, _, _, e⟩
            have HB86 := Lib.hid hb86; clear hb86
            have HG86 := Lib.hid hg86; clear hg86
            have HO86 := Lib.hid ho86; clear ho86
            refine step_app (by rfl) (.tmp 83) (.tmp 85) 50 rfl rfl rfl hr86 ?_
            refine hK.out _ _ ?_
            clear hK K
            refine norm_ (a' := ?_) ?_ ?_
            rotate_left
            · show Act.put _ (some 86) _ = _
              simp only [Act.put, List.setIfInBounds_toArray, List.set_cons_zero, List.set_cons_succ, i64_w, i32_w]
              rfl
            refine pure_ (i := 9) (N := some 87) (v := ?_) (a' := ?_) #[true, true, true, true, true, true, true, true, true, true, false] rfl rfl (by kernel_rfl) (fun _ _ _ h => h) (Or.inl ⟨by rfl, ?_⟩) ?_ ?_
            rotate_left
            · intro w'
              go_simp
              with_reducible rfl
            rotate_left
            · simp only [Act.put, List.setIfInBounds_toArray, List.set_cons_zero, List.set_cons_succ, i64_w, i32_w]
              rfl
            refine last_ (i := 10) (N := none) #[true, true, true, true, true, true, true, true, true, true, true] rfl rfl (by kernel_rfl) (by decide) (fun K hK => ?_)
            refine skip_ (w1 := w86.setRow g #[.int .u64 (st : Int), .int .u64 (st : Int), .slice A6 m6 c6, .slice none 0 0]) (by rfl) rfl (by refine run_strow 68 (.tmp 9) (.tmp 87) ?_ g #[.int .u64 (st : Int), .int .u64 (st : Int), .slice A6 m6 c6, .slice none 0 0] ?_ ?_ 68 _ HG86.out (by kernel_rfl) rfl (by simp [Value.oneCell']) <;> rfl) ?_
            refine hK.out _ _ ?_
            clear hK K
            refine done_ (by kernel_rfl) ?_

            replace HM := Lib.hid (show Mo w (w86.setRow g #[.int .u64 (st : Int), .int .u64 (st : Int), .slice A6 m6 c6, .slice none 0 0]) g st (.slice A6 m6 c6) (rds ++ [r]) from Mo.set_row HB86.out HG86.out HO86.out HM.out.ge)
            clear hHeld
            go_wp2
            go_roundw
            case rel => exact ⟨i + 1, .slice A6 m6 c6, by go_num, hlt, by rw [HT.out, HRD.out]; exact HM.out⟩
            case measure => simp [intOf]; omega
        · have x4 : decide (0 < (u0 : Int)) = false := by simp; omega
          have x4n := decide_eq_false h0
          go_wp2
          refine start_ (n := 13) (S := fun w' => bb < w'.heap.size ∧ w'.cell? ⟨bb, off + i, none⟩ = some (.string k) ∧ w4.heap.size < w'.heap.size) (ds := [12]) #[false, false, false, false, false, false, false, false, false, false, false, false, false] (by kernel_rfl) rfl rfl ⟨hbw2, c2, h11⟩ (fun hHeld => ?_)
          refine pure_ (i := 0) (N := some 59) (v := ?_) (a' := ?_) #[true, false, false, false, false, false, false, false, false, false, false, false, false] rfl rfl (by kernel_rfl) (fun _ _ _ h => h) (Or.inl ⟨by rfl, ?_⟩) ?_ ?_
          rotate_left
          · intro w'
            go_simp
            with_reducible rfl
          rotate_left
          · simp only [Act.put, List.setIfInBounds_toArray, List.set_cons_zero, List.set_cons_succ, i64_w, i32_w]
            rfl
          refine pure_ (i := 1) (N := some 60) (v := ?_) (a' := ?_) #[true, true, false, false, false, false, false, false, false, false, false, false, false] rfl rfl (by kernel_rfl) (fun _ _ _ h => h) (Or.inl ⟨by rfl, ?_⟩) ?_ ?_
          rotate_left
          · intro w'
            go_simp
            with_reducible rfl
          rotate_left
          · simp only [Act.put, List.setIfInBounds_toArray, List.set_cons_zero, List.set_cons_succ, i64_w, i32_w]
            rfl
          refine pure_ (i := 2) (N := some 61) (v := ?_) (a' := ?_) #[true, true, true, false, false, false, false, false, false, false, false, false, false] rfl rfl (by kernel_rfl) (fun _ _ _ h => h) (Or.inl ⟨by rfl, ?_⟩) ?_ ?_
          rotate_left
          · intro w'
            go_simp
            with_reducible rfl
          rotate_left
          · simp only [Act.put, List.setIfInBounds_toArray, List.set_cons_zero, List.set_cons_succ, i64_w, i32_w]
            rfl
          refine pure_ (i := 4) (N := some 63) (v := ?_) (a' := ?_) #[true, true, true, false, true, false, false, false, false, false, false, false, false] rfl rfl (by kernel_rfl) (fun _ _ _ h => h) (Or.inl ⟨by rfl, ?_⟩) ?_ ?_
          rotate_left
          · intro w'
            go_simp
            with_reducible rfl
          rotate_left
          · simp only [Act.put, List.setIfInBounds_toArray, List.set_cons_zero, List.set_cons_succ, i64_w, i32_w]
            rfl
          refine pure_ (i := 5) (N := some 64) (v := ?_) (a' := ?_) #[true, true, true, false, true, true, false, false, false, false, false, false, false] rfl rfl (by kernel_rfl) (fun _ _ _ h => h) (Or.inl ⟨by rfl, ?_⟩) ?_ ?_
          rotate_left
          · intro w'
            go_simp
            with_reducible rfl
          rotate_left
          · simp only [Act.put, List.setIfInBounds_toArray, List.set_cons_zero, List.set_cons_succ, i64_w, i32_w]
            rfl
          refine pure_ (i := 6) (N := some 65) (v := undef) (a' := ?_) #[true, true, true, false, true, true, true, false, false, false, false, false, false] rfl rfl (by kernel_rfl) (fun _ _ _ h => h) (Or.inr ⟨by rfl, rfl⟩) ?_ ?_
          rotate_left
          · simp only [Act.put, List.setIfInBounds_toArray, List.set_cons_zero, List.set_cons_succ, i64_w, i32_w]
            rfl
          refine pure_ (i := 7) (N := some 66) (v := undef) (a' := ?_) #[true, true, true, false, true, true, true, true, false, false, false, false, false] rfl rfl (by kernel_rfl) (fun _ _ _ h => h) (Or.inr ⟨by rfl, rfl⟩) ?_ ?_
          rotate_left
          · simp only [Act.put, List.setIfInBounds_toArray, List.set_cons_zero, List.set_cons_succ, i64_w, i32_w]
            rfl
          refine pure_ (i := 8) (N := some 67) (v := undef) (a' := ?_) #[true, true, true, false, true, true, true, true, true, false, false, false, false] rfl rfl (by kernel_rfl) (fun _ _ _ h => h) (Or.inr ⟨by rfl, rfl⟩) ?_ ?_
          rotate_left
          · simp only [Act.put, List.setIfInBounds_toArray, List.set_cons_zero, List.set_cons_succ, i64_w, i32_w]
            rfl
          refine pure_ (i := 9) (N := some 68) (v := ?_) (a' := ?_) #[true, true, true, false, true, true, true, true, true, true, false, false, false] rfl rfl (by kernel_rfl) (fun _ _ _ h => h) (Or.inl ⟨by rfl, ?_⟩) ?_ ?_
          rotate_left
          · intro w'
            go_simp
            with_reducible rfl
          rotate_left
          · simp only [Act.put, List.setIfInBounds_toArray, List.set_cons_zero, List.set_cons_succ, i64_w, i32_w]
            rfl
          refine take_ (i := 3) (N := some 62) (v := ?_) (a' := ?_) #[true, true, true, true, true, true, true, true, true, true, false, false, false] rfl rfl (by kernel_rfl) (fun _ _ _ h => h) (Or.inl ⟨by rfl, ?_⟩) hHeld ?_ ?_
          rotate_left
          · rintro w' ⟨s0, s1, s2⟩
            go_simp
            with_reducible rfl
          rotate_left
          · simp only [Act.put, List.setIfInBounds_toArray, List.set_cons_zero, List.set_cons_succ, i64_w, i32_w]
            rfl
          refine pure_ (i := 10) (N := some 69) (v := ?_) (a' := ?_) #[true, true, true, true, true, true, true, true, true, true, true, false, false] rfl rfl (by kernel_rfl) (fun _ _ _ h => h) (Or.inl ⟨by rfl, ?_⟩) ?_ ?_
          rotate_left
          · intro w'
            go_simp
            with_reducible rfl
          rotate_left
          · simp only [Act.put, List.setIfInBounds_toArray, List.set_cons_zero, List.set_cons_succ, i64_w, i32_w]
            rfl
          refine one_ (i := 11) (N := some 13) #[true, true, true, true, true, true, true, true, true, true, true, true, false] rfl rfl (by kernel_rfl) (by decide) (fun K hK => ?_)
          refine value_ (w1 := ?_) (v := ?_) (by rfl) rfl ?_ ?_
          rotate_left 2
          · go_simp
            constructor
            · rfl
            · rfl
          refine hK.out _ _ ⟨Nat.lt_of_lt_of_le hHeld.1 (below_alloc (Below.refl _ _) _).size, (Below.cell (below_alloc (Below.refl _ _) _) (p := ⟨bb, off + i, none⟩) hHeld.1).trans hHeld.2.1, Nat.lt_of_lt_of_le hHeld.2.2 (below_alloc (Below.refl _ _) _).size⟩ (fun hHeld => ?_)
          clear hK K
          refine norm_ (a' := ?_) ?_ ?_
          rotate_left
          · show Act.put _ (some 13) _ = _
            simp only [Act.put, List.setIfInBounds_toArray, List.set_cons_zero, List.set_cons_succ, i64_w, i32_w]
            rfl
          refine last_ (i := 12) (N := none) #[true, true, true, true, true, true, true, true, true, true, true, true, true] rfl rfl (by kernel_rfl) (by decide) (fun K hK => ?_)
          refine skip_ (w1 := ?_) (by rfl) rfl ?_ ?_
          rotate_left
          · go_simp
            rfl
          refine hK.out _ _ ?_
          clear hK K
          refine done_ (by kernel_rfl) ?_

          go_wp2
          obtain ⟨b13, hb13⟩ : ∃ b, w4.heap.size + 1 = b := ⟨_, rfl⟩
          have HR := Lib.hid (show ((w4.alloc (.cells #[.int .u64 (u0 : Int), .bool u1, .string u2] 41)).alloc (.cells #[.string k, .bool false, .int .u64 0, .bool false, .string ⟨#[]⟩] 43)).drew.heap[b13]? = some (.cells #[.string k, .bool false, .int .u64 0, .bool false, .string ⟨#[]⟩] 43 (0, 0)) from blk_drew (row_new (w4.alloc (.cells #[.int .u64 (u0 : Int), .bool u1, .string u2] 41)) (.cells #[.string k, .bool false, .int .u64 0, .bool false, .string ⟨#[]⟩] 43) (by simp; omega)))
          have HM := Lib.hid (show Mo w ((w4.alloc (.cells #[.int .u64 (u0 : Int), .bool u1, .string u2] 41)).alloc (.cells #[.string k, .bool false, .int .u64 0, .bool false, .string ⟨#[]⟩] 43)).drew g st v rds from (HM.out.alloc (.cells #[.string k, .bool false, .int .u64 0, .bool false, .string ⟨#[]⟩] 43)).drew)
          have HN := Lib.hid (show w.heap.size ≤ b13 ∧ v.ownBlock ≠ some b13 by
            refine ⟨?_, fun e => ?_⟩
            · have := HMQ.out.bel.size
              omega
            · have := (HMQ.out.own.block_ge _ e).2
              omega)
          rw [hb13]
          have HRD := Lib.hid (show rdOf l st k = (k, false, (0, false, ⟨#[]⟩)) by rw [HU.out]; rw [if_neg (by omega)])
          have har : (#[.string k, .bool false, .int .u64 0, .bool false, .string ⟨#[]⟩] : Array Value).toList = rdC (k, false, (0, false, ⟨#[]⟩)) := rfl
          have hsz : (#[.string k, .bool false, .int .u64 0, .bool false, .string ⟨#[]⟩] : Array Value).size = 5 := rfl
          generalize hRR : ((k, false, (0, false, ⟨#[]⟩)) : RdT) = r at *
          clear hRR
          generalize ((w4.alloc (.cells #[.int .u64 (u0 : Int), .bool u1, .string u2] 41)).alloc (.cells #[.string k, .bool false, .int .u64 0, .bool false, .string ⟨#[]⟩] 43)).drew = W5 at *
          obtain ⟨r0, r1, z, r3, r4, hAR⟩ : ∃ (r0 : ByteArray) (r1 : Bool) (z : Int) (r3 : Bool) (r4 : ByteArray), (#[.string k, .bool false, .int .u64 0, .bool false, .string ⟨#[]⟩] : Array Value) = #[.string r0, .bool r1, .int .u64 z, .bool r3, .string r4] := ⟨_, _, _, _, _, rfl⟩
          rw [hAR] at HR har hsz
          clear hAR
          clear c1 c2 d1 hbw hbw2 hb13 HV HMQ h11
          have HAR := Lib.hid har; clear har
          obtain ⟨hMg, hMv⟩ : W5.cell? ⟨g, 2, none⟩ = some v ∧ True := ⟨(blk_cell HM.out.blk 2).trans rfl, trivial⟩
          refine start_ (n := 11) (S := fun w' => Mo w w' g st v rds ∧ w'.heap[b13]? = some (.cells #[.string r0, .bool r1, .int .u64 z, .bool r3, .string r4] 43 (0, 0)) ∧ w'.cell? ⟨g, 2, none⟩ = some v) (ds := [8, 10]) #[false, false, false, false, false, false, false, false, false, false, false] (by kernel_rfl) rfl rfl ⟨HM.out.drew, (blk_drew HR.out), hMg⟩ (fun hHeld => ?_)
          refine pure_ (i := 0) (N := some 78) (v := ?_) (a' := ?_) #[true, false, false, false, false, false, false, false, false, false, false] rfl rfl (by kernel_rfl) (fun _ _ _ h => h) (Or.inl ⟨by rfl, ?_⟩) ?_ ?_
          rotate_left
          · intro w'
            go_simp
            with_reducible rfl
          rotate_left
          · simp only [Act.put, List.setIfInBounds_toArray, List.set_cons_zero, List.set_cons_succ, i64_w, i32_w]
            rfl
          refine pure_ (i := 1) (N := some 79) (v := ?_) (a' := ?_) #[true, true, false, false, false, false, false, false, false, false, false] rfl rfl (by kernel_rfl) (fun _ _ _ h => h) (Or.inl ⟨by rfl, ?_⟩) ?_ ?_
          rotate_left
          · intro w'
            go_simp
            with_reducible rfl
          rotate_left
          · simp only [Act.put, List.setIfInBounds_toArray, List.set_cons_zero, List.set_cons_succ, i64_w, i32_w]
            rfl
          refine pure_ (i := 3) (N := some 81) (v := ?_) (a' := ?_) #[true, true, false, true, false, false, false, false, false, false, false] rfl rfl (by kernel_rfl) (fun _ _ _ h => h) (Or.inl ⟨by rfl, ?_⟩) ?_ ?_
          rotate_left
          · intro w'
            go_simp
            with_reducible rfl
          rotate_left
          · simp only [Act.put, List.setIfInBounds_toArray, List.set_cons_zero, List.set_cons_succ, i64_w, i32_w]
            rfl
          refine take_ (i := 4) (N := some 82) (v := ?_) (a' := ?_) #[true, true, false, true, true, false, false, false, false, false, false] rfl rfl (by kernel_rfl) (fun _ _ _ h => h) (Or.inl ⟨by rfl, ?_⟩) hHeld ?_ ?_
          rotate_left
          · rintro w' ⟨s0, s1, s2⟩
            go_simp
            with_reducible rfl
          rotate_left
          · simp only [Act.put, List.setIfInBounds_toArray, List.set_cons_zero, List.set_cons_succ, i64_w, i32_w]
            rfl
          refine take_ (i := 6) (N := some 84) (v := ?_) (a' := ?_) #[true, true, false, true, true, false, true, false, false, false, false] rfl rfl (by kernel_rfl) (fun _ _ _ h => h) (Or.inl ⟨by rfl, ?_⟩) hHeld ?_ ?_
          rotate_left
          · rintro w' ⟨s0, s1, s2⟩
            refine run_row 43 (.tmp 13) ?_ b13 ?_ 43 #[.string r0, .bool r1, .int .u64 z, .bool r3, .string r4] (0, 0) _ s1 Try.underlying43 rfl (by kernel_rfl) <;> rfl
          rotate_left
          · simp only [Act.put, List.setIfInBounds_toArray, List.set_cons_zero, List.set_cons_succ, i64_w, i32_w]
            rfl
          refine join_ (σ := Value × Nat × Nat) 3 #[true, true, true, true, true, true, true, true, false, false, false] (fun s => [(80, .slice (some ⟨s.2.2, 0, none⟩) 0 0), (83, s.1), (85, .slice (some ⟨s.2.1, 0, none⟩) 1 1)]) (fun s w' => (Mo w w' g st v rds ∧ w'.heap[b13]? = some (.cells #[.string r0, .bool r1, .int .u64 z, .bool r3, .string r4] 43 (0, 0)) ∧ w'.cell? ⟨g, 2, none⟩ = some v) ∧ OwnF w' w.heap.size 43 5 rdC s.1 rds ∧ w'.heap[s.2.1]? = some (.cells #[.string r0, .bool r1, .int .u64 z, .bool r3, .string r4] 43 (0, 0)) ∧ s.1.ownBlock ≠ some s.2.1) ?_ ?_
          rotate_left
          · intro hCont
            refine two_ (i := 2) (j := 7) (Ni := some 80) (Nj := some 85) #[true, true, true, true, true, false, true, false, false, false, false] #[true, true, false, true, true, false, true, true, false, false, false] rfl rfl rfl rfl (by kernel_rfl) (by decide) (by decide) (fun K hK => ?_) (fun K hK => ?_)
            · skip
              refine value_ (w1 := ?_) (v := ?_) (by rfl) rfl ?_ ?_
              rotate_left 2
              · go_simp
                constructor
                · rfl
                · rfl
              have H80 := Lib.hid (row_new W5.drew (.cells #[] 43) (n := W5.heap.size) (by simp))
              have HL80 := Lib.hid (show v.ownBlock ≠ some (W5.heap.size) from fun e => by have := (HM.out.own.block_ge _ e).2; omega)
              refine hK.out _ _ ⟨hHeld.1.alloc _, blk_alloc hHeld.2.1 _, (blk_cell (hHeld.1.alloc _).blk 2).trans rfl⟩ (fun hHeld => ?_)
              clear hK K
              refine norm_ (a' := ?_) ?_ ?_
              rotate_left
              · show Act.put _ (some 80) _ = _
                simp only [Act.put, List.setIfInBounds_toArray, List.set_cons_zero, List.set_cons_succ, i64_w, i32_w]
                rfl
              refine two_ (i := 5) (j := 7) (Ni := some 83) (Nj := some 85) #[true, true, true, true, true, true, true, false, false, false, false] #[true, true, true, true, true, false, true, true, false, false, false] rfl rfl rfl rfl (by kernel_rfl) (by decide) (by decide) (fun K hK => ?_) (fun K hK => ?_)
              · skip
                obtain ⟨v83, w83, hr83, hm83, ho83, hk83, hb83⟩ := copy_step (g80 := W5.heap.size) 50 hHeld.1 H80.out (by have := HM.out.bel.size; omega) HL80.out hlr
                have HO83 := Lib.hid ho83; clear ho83
                have h1383 := hk83.blk hHeld.2.1 (fun e => by have e : b13 = W5.heap.size := e; have := blk_lt HR.out; omega)
                refine step_app (by rfl) (.tmp 80) (.tmp 82) 50 rfl rfl rfl hr83 ?_
                refine hK.out _ _ ⟨hm83, h1383, (blk_cell hm83.blk 2).trans rfl⟩ (fun hHeld => ?_)
                clear hK K
                refine norm_ (a' := ?_) ?_ ?_
                rotate_left
                · show Act.put _ (some 83) _ = _
                  simp only [Act.put, List.setIfInBounds_toArray, List.set_cons_zero, List.set_cons_succ, i64_w, i32_w]
                  rfl
                refine one_ (i := 7) (N := some 85) #[true, true, true, true, true, true, true, true, false, false, false] rfl rfl (by kernel_rfl) (by decide) (fun K hK => ?_)
                refine value_ (w1 := ?_) (v := ?_) (by rfl) rfl ?_ ?_
                rotate_left 2
                · go_simp
                  constructor
                  · rfl
                  · rfl
                have H85 := Lib.hid (row_new w83 (.cells #[.string r0, .bool r1, .int .u64 z, .bool r3, .string r4] 43) (n := w83.heap.size) (by simp))
                have HE := Lib.hid (show v83.ownBlock ≠ some w83.heap.size from fun e => Nat.lt_irrefl _ (HO83.out.block_ge _ e).2)
                replace HO83 := Lib.hid (HO83.out.below (below_alloc (Below.refl _ _) (.cells #[.string r0, .bool r1, .int .u64 z, .bool r3, .string r4] 43)))
                refine hK.out _ _ ⟨hHeld.1.alloc _, blk_alloc hHeld.2.1 _, (blk_cell (hHeld.1.alloc _).blk 2).trans rfl⟩ (fun hHeld => ?_)
                clear hK K
                refine norm_ (a' := ?_) ?_ ?_
                rotate_left
                · show Act.put _ (some 85) _ = _
                  simp only [Act.put, List.setIfInBounds_toArray, List.set_cons_zero, List.set_cons_succ, i64_w, i32_w]
                  rfl
                exact norm_ (by simp only [putAll, Act.put, List.setIfInBounds_toArray, List.set_cons_zero, List.set_cons_succ]) (hCont (v83, w83.heap.size, W5.heap.size) _ ⟨hHeld, HO83.out, H85.out, HE.out⟩)
              · skip
                refine value_ (w1 := ?_) (v := ?_) (by rfl) rfl ?_ ?_
                rotate_left 2
                · go_simp
                  constructor
                  · rfl
                  · rfl
                have H85 := Lib.hid (row_new (W5.drew.alloc (.cells #[] 43)) (.cells #[.string r0, .bool r1, .int .u64 z, .bool r3, .string r4] 43) (n := W5.heap.size + 1) (by simp))
                have H80 := Lib.hid (blk_alloc H80.out (.cells #[.string r0, .bool r1, .int .u64 z, .bool r3, .string r4] 43))
                refine hK.out _ _ ⟨hHeld.1.alloc _, blk_alloc hHeld.2.1 _, (blk_cell (hHeld.1.alloc _).blk 2).trans rfl⟩ (fun hHeld => ?_)
                clear hK K
                refine norm_ (a' := ?_) ?_ ?_
                rotate_left
                · show Act.put _ (some 85) _ = _
                  simp only [Act.put, List.setIfInBounds_toArray, List.set_cons_zero, List.set_cons_succ, i64_w, i32_w]
                  rfl
                refine one_ (i := 5) (N := some 83) #[true, true, true, true, true, true, true, true, false, false, false] rfl rfl (by kernel_rfl) (by decide) (fun K hK => ?_)
                obtain ⟨v83, w83, hr83, hm83, ho83, hk83, hb83⟩ := copy_step (g80 := W5.heap.size) 50 hHeld.1 H80.out (by have := HM.out.bel.size; omega) HL80.out hlr
                have HO83 := Lib.hid ho83; clear ho83
                have HE := Lib.hid (show v83.ownBlock ≠ some (W5.heap.size + 1) from fun e => by rw [e] at hb83; simp at hb83; try omega)
                replace H85 := Lib.hid (hk83.blk H85.out (fun e => by have e : W5.heap.size + 1 = W5.heap.size := e; omega))
                have h1383 := hk83.blk hHeld.2.1 (fun e => by have e : b13 = W5.heap.size := e; have := blk_lt HR.out; omega)
                refine step_app (by rfl) (.tmp 80) (.tmp 82) 50 rfl rfl rfl hr83 ?_
                refine hK.out _ _ ⟨hm83, h1383, (blk_cell hm83.blk 2).trans rfl⟩ (fun hHeld => ?_)
                clear hK K
                refine norm_ (a' := ?_) ?_ ?_
                rotate_left
                · show Act.put _ (some 83) _ = _
                  simp only [Act.put, List.setIfInBounds_toArray, List.set_cons_zero, List.set_cons_succ, i64_w, i32_w]
                  rfl
                exact norm_ (by simp only [putAll, Act.put, List.setIfInBounds_toArray, List.set_cons_zero, List.set_cons_succ]) (hCont (v83, W5.heap.size + 1, W5.heap.size) _ ⟨hHeld, HO83.out, H85.out, HE.out⟩)
            · skip
              refine value_ (w1 := ?_) (v := ?_) (by rfl) rfl ?_ ?_
              rotate_left 2
              · go_simp
                constructor
                · rfl
                · rfl
              have H85 := Lib.hid (row_new W5.drew (.cells #[.string r0, .bool r1, .int .u64 z, .bool r3, .string r4] 43) (n := W5.heap.size) (by simp))
              refine hK.out _ _ ⟨hHeld.1.alloc _, blk_alloc hHeld.2.1 _, (blk_cell (hHeld.1.alloc _).blk 2).trans rfl⟩ (fun hHeld => ?_)
              clear hK K
              refine norm_ (a' := ?_) ?_ ?_
              rotate_left
              · show Act.put _ (some 85) _ = _
                simp only [Act.put, List.setIfInBounds_toArray, List.set_cons_zero, List.set_cons_succ, i64_w, i32_w]
                rfl
              refine one_ (i := 2) (N := some 80) #[true, true, true, true, true, false, true, true, false, false, false] rfl rfl (by kernel_rfl) (by decide) (fun K hK => ?_)
              refine value_ (w1 := ?_) (v := ?_) (by rfl) rfl ?_ ?_
              rotate_left 2
              · go_simp
                constructor
                · rfl
                · rfl
              have H80 := Lib.hid (row_new (W5.drew.alloc (.cells #[.string r0, .bool r1, .int .u64 z, .bool r3, .string r4] 43)) (.cells #[] 43) (n := W5.heap.size + 1) (by simp))
              have HL80 := Lib.hid (show v.ownBlock ≠ some (W5.heap.size + 1) from fun e => by have := (HM.out.own.block_ge _ e).2; omega)
              have H85 := Lib.hid (blk_alloc H85.out (.cells #[] 43))
              refine hK.out _ _ ⟨hHeld.1.alloc _, blk_alloc hHeld.2.1 _, (blk_cell (hHeld.1.alloc _).blk 2).trans rfl⟩ (fun hHeld => ?_)
              clear hK K
              refine norm_ (a' := ?_) ?_ ?_
              rotate_left
              · show Act.put _ (some 80) _ = _
                simp only [Act.put, List.setIfInBounds_toArray, List.set_cons_zero, List.set_cons_succ, i64_w, i32_w]
                rfl
              refine one_ (i := 5) (N := some 83) #[true, true, true, true, true, true, true, true, false, false, false] rfl rfl (by kernel_rfl) (by decide) (fun K hK => ?_)
              obtain ⟨v83, w83, hr83, hm83, ho83, hk83, hb83⟩ := copy_step (g80 := W5.heap.size + 1) 50 hHeld.1 H80.out (by have := HM.out.bel.size; omega) HL80.out hlr
              have HO83 := Lib.hid ho83; clear ho83
              have HE := Lib.hid (show v83.ownBlock ≠ some (W5.heap.size) from fun e => by rw [e] at hb83; simp at hb83; try omega)
              replace H85 := Lib.hid (hk83.blk H85.out (fun e => by have e : W5.heap.size = W5.heap.size + 1 := e; omega))
              have h1383 := hk83.blk hHeld.2.1 (fun e => by have e : b13 = W5.heap.size + 1 := e; have := blk_lt HR.out; omega)
              refine step_app (by rfl) (.tmp 80) (.tmp 82) 50 rfl rfl rfl hr83 ?_
              refine hK.out _ _ ⟨hm83, h1383, (blk_cell hm83.blk 2).trans rfl⟩ (fun hHeld => ?_)
              clear hK K
              refine norm_ (a' := ?_) ?_ ?_
              rotate_left
              · show Act.put _ (some 83) _ = _
                simp only [Act.put, List.setIfInBounds_toArray, List.set_cons_zero, List.set_cons_succ, i64_w, i32_w]
                rfl
              exact norm_ (by simp only [putAll, Act.put, List.setIfInBounds_toArray, List.set_cons_zero, List.set_cons_succ]) (hCont (v83, W5.heap.size, W5.heap.size + 1) _ ⟨hHeld, HO83.out, H85.out, HE.out⟩)
          rintro ⟨v83, g85, g80⟩ w7 ⟨hHeld, ho83, h85, he⟩
          have HO83 := Lib.hid ho83; clear ho83
          have H85 := Lib.hid h85; clear h85
          refine norm_ (a' := ?_) ?_ ?_
          rotate_left
          · simp only [putAll, Act.put, List.setIfInBounds_toArray, List.set_cons_zero, List.set_cons_succ]
            rfl
          refine last_ (i := 8) (N := some 86) #[true, true, true, true, true, true, true, true, true, false, false] rfl rfl (by kernel_rfl) (by decide) (fun K hK => ?_)
          obtain ⟨v86, w86, hr86, hb86, hg86, ho86⟩ := push_step 50 hHeld.1 HO83.out H85.out HAR.out hlr
          obtain ⟨A6, m6, c6, rfl⟩ : ∃ A m c, v86 = .slice A m c := by obtain ⟨A, c, e, _⟩ := ho86.slice_; exact ⟨_, _, _, e⟩
          have HB86 := Lib.hid hb86; clear hb86
          have HG86 := Lib.hid hg86; clear hg86
          have HO86 := Lib.hid ho86; clear ho86
          refine step_app (by rfl) (.tmp 83) (.tmp 85) 50 rfl rfl rfl hr86 ?_
          refine hK.out _ _ ?_
          clear hK K
          refine norm_ (a' := ?_) ?_ ?_
          rotate_left
          · show Act.put _ (some 86) _ = _
            simp only [Act.put, List.setIfInBounds_toArray, List.set_cons_zero, List.set_cons_succ, i64_w, i32_w]
            rfl
          refine pure_ (i := 9) (N := some 87) (v := ?_) (a' := ?_) #[true, true, true, true, true, true, true, true, true, true, false] rfl rfl (by kernel_rfl) (fun _ _ _ h => h) (Or.inl ⟨by rfl, ?_⟩) ?_ ?_
          rotate_left
          · intro w'
            go_simp
            with_reducible rfl
          rotate_left
          · simp only [Act.put, List.setIfInBounds_toArray, List.set_cons_zero, List.set_cons_succ, i64_w, i32_w]
            rfl
          refine last_ (i := 10) (N := none) #[true, true, true, true, true, true, true, true, true, true, true] rfl rfl (by kernel_rfl) (by decide) (fun K hK => ?_)
          refine skip_ (w1 := w86.setRow g #[.int .u64 (st : Int), .int .u64 (st : Int), .slice A6 m6 c6, .slice none 0 0]) (by rfl) rfl (by refine run_strow 68 (.tmp 9) (.tmp 87) ?_ g #[.int .u64 (st : Int), .int .u64 (st : Int), .slice A6 m6 c6, .slice none 0 0] ?_ ?_ 68 _ HG86.out (by kernel_rfl) rfl (by simp [Value.oneCell']) <;> rfl) ?_
          refine hK.out _ _ ?_
          clear hK K
          refine done_ (by kernel_rfl) ?_

          replace HM := Lib.hid (show Mo w (w86.setRow g #[.int .u64 (st : Int), .int .u64 (st : Int), .slice A6 m6 c6, .slice none 0 0]) g st (.slice A6 m6 c6) (rds ++ [r]) from Mo.set_row HB86.out HG86.out HO86.out HM.out.ge)
          clear hHeld
          go_wp2
          go_roundw
          case rel => exact ⟨i + 1, .slice A6 m6 c6, by go_num, hlt, by rw [HT.out, HRD.out]; exact HM.out⟩
          case measure => simp [intOf]; omega
      · obtain rfl : i = bn := by omega
        have htk : ks.take i = ks := List.take_of_length_le (by rw [HK.out.1]; exact Nat.le_refl _)
        rw [htk] at HM
        obtain ⟨vA, vc, hv, hvr⟩ := HM.out.row
        have hlr : (ks.map (rdOf l st)).length ≤ 100 := by rw [List.length_map, HK.out.1]; omega
        have hok : ∀ r ∈ ks.map (rdOf l st), readOk l st r = true := fun r hr => by
          obtain ⟨k, _, rfl⟩ := List.mem_map.1 hr
          exact readOk_of l st k
        generalize ks.map (rdOf l st) = rds at *
        have hcv : ∃ vm, vm = rds.length := ⟨_, rfl⟩
        obtain ⟨vm, hvm⟩ := hcv
        have hvc : rds.length ≤ vc := by
          obtain ⟨A', c', e, h⟩ := HM.out.own.slice_
          rw [hv] at e
          injection e with _ _ e
          omega
        rw [← hvm] at hv
        obtain rfl := hv
        have HOK := Lib.hid hok; clear hok
        have HVM := Lib.hid (And.intro hvm hvc); clear hvm hvc hvr htk
        obtain ⟨x, hx⟩ : ∃ x : TxP, x = ⟨st, st, rds, vA, vm, vc, [], none, 0, 0⟩ := ⟨_, rfl⟩
        have HX := Lib.hid hx; clear hx
        have HXA := Lib.hid (show (#[.int .u64 (st : Int), .int .u64 (st : Int), .slice vA vm vc, .slice none 0 0] : Array Value) = x.arr by rw [HX.out]; rfl)
        have hMg := HM.out.blk
        have hll : l.length ≤ 100 := by rw [HL.out]; omega
        go_wp2
        refine start_ (n := 12) (S := fun w' => Mo w w' g st (.slice vA vm vc) rds ∧ w'.heap[g]? = some (.cells #[.int .u64 (st : Int), .int .u64 (st : Int), .slice vA vm vc, .slice none 0 0] 68 (0, 0))) (ds := [5, 6]) #[false, false, false, false, false, false, false, false, false, false, false, false] (by kernel_rfl) rfl rfl ⟨HM.out.drew, (blk_drew hMg)⟩ (fun hHeld => ?_)
        refine pure_ (i := 1) (N := some 90) (v := ?_) (a' := ?_) #[false, true, false, false, false, false, false, false, false, false, false, false] rfl rfl (by kernel_rfl) (fun _ _ _ h => h) (Or.inl ⟨by rfl, ?_⟩) ?_ ?_
        rotate_left
        · intro w'
          go_simp
          with_reducible rfl
        rotate_left
        · simp only [Act.put, List.setIfInBounds_toArray, List.set_cons_zero, List.set_cons_succ, i64_w, i32_w]
          rfl
        refine take_ (i := 3) (N := some 92) (v := ?_) (a' := ?_) #[false, true, false, true, false, false, false, false, false, false, false, false] rfl rfl (by kernel_rfl) (fun _ _ _ h => h) (Or.inl ⟨by rfl, ?_⟩) hHeld ?_ ?_
        rotate_left
        · rintro w' ⟨s0, s1⟩
          refine run_row 68 (.tmp 9) ?_ g ?_ 68 #[.int .u64 (st : Int), .int .u64 (st : Int), .slice vA vm vc, .slice none 0 0] (0, 0) _ s1 Try.underlying68 rfl (by kernel_rfl) <;> rfl
        rotate_left
        · simp only [Act.put, List.setIfInBounds_toArray, List.set_cons_zero, List.set_cons_succ, i64_w, i32_w]
          rfl
        refine join_ (σ := Value × Nat × Nat) 7 #[true, true, true, true, true, false, false, false, false, false, false, false] (fun s => [(89, .slice (some ⟨s.2.2, 0, none⟩) 0 0), (91, s.1), (93, .slice (some ⟨s.2.1, 0, none⟩) 1 1)]) (fun s w' => (Mo w w' g st (.slice vA vm vc) rds ∧ w'.heap[g]? = some (.cells #[.int .u64 (st : Int), .int .u64 (st : Int), .slice vA vm vc, .slice none 0 0] 68 (0, 0))) ∧ OwnF w' w.heap.size 68 4 txC s.1 l ∧ w'.heap[s.2.1]? = some (.cells #[.int .u64 (st : Int), .int .u64 (st : Int), .slice vA vm vc, .slice none 0 0] 68 (0, 0)) ∧ s.1.ownBlock ≠ some g) ?_ ?_
        rotate_left
        · intro hCont
          refine two_ (i := 0) (j := 4) (Ni := some 89) (Nj := some 93) #[true, true, false, true, false, false, false, false, false, false, false, false] #[false, true, false, true, true, false, false, false, false, false, false, false] rfl rfl rfl rfl (by kernel_rfl) (by decide) (by decide) (fun K hK => ?_) (fun K hK => ?_)
          · skip
            refine value_ (w1 := ?_) (v := ?_) (by rfl) rfl ?_ ?_
            rotate_left 2
            · go_simp
              constructor
              · rfl
              · rfl
            have H80 := Lib.hid (row_new wr.drew (.cells #[] 68) (n := wr.heap.size) (by simp))
            have HL80 := Lib.hid (show (Value.slice vA vm vc).ownBlock ≠ some (wr.heap.size) from fun e => by have := (HM.out.own.block_ge _ e).2; omega)
            refine hK.out _ _ ⟨hHeld.1.alloc _, blk_alloc hHeld.2 _⟩ (fun hHeld => ?_)
            clear hK K
            refine norm_ (a' := ?_) ?_ ?_
            rotate_left
            · show Act.put _ (some 89) _ = _
              simp only [Act.put, List.setIfInBounds_toArray, List.set_cons_zero, List.set_cons_succ, i64_w, i32_w]
              rfl
            refine two_ (i := 2) (j := 4) (Ni := some 91) (Nj := some 93) #[true, true, true, true, false, false, false, false, false, false, false, false] #[true, true, false, true, true, false, false, false, false, false, false, false] rfl rfl rfl rfl (by kernel_rfl) (by decide) (by decide) (fun K hK => ?_) (fun K hK => ?_)
            · skip
              obtain ⟨v83, w83, hr83, hm83, ho83, hk83, hb83⟩ := copy_txs (g80 := wr.heap.size) (c := cap) 63 hHeld.1 (HA.out.below hHeld.1.bel).1 H80.out (by have := HM.out.bel.size; omega) (by have := blk_lt HM.out.blk; omega) HL80.out (by omega)
              have HO83 := Lib.hid ho83; clear ho83
              have HE := Lib.hid (show v83.ownBlock ≠ some g from fun e => by rw [e] at hb83; have := blk_lt HM.out.blk; have := hHeld.1.bel.size; simp at hb83; omega)
              refine step_app (by rfl) (.tmp 89) (.tmp 90) 63 rfl rfl rfl hr83 ?_
              refine hK.out _ _ ⟨hm83, hm83.blk⟩ (fun hHeld => ?_)
              clear hK K
              refine norm_ (a' := ?_) ?_ ?_
              rotate_left
              · show Act.put _ (some 91) _ = _
                simp only [Act.put, List.setIfInBounds_toArray, List.set_cons_zero, List.set_cons_succ, i64_w, i32_w]
                rfl
              refine one_ (i := 4) (N := some 93) #[true, true, true, true, true, false, false, false, false, false, false, false] rfl rfl (by kernel_rfl) (by decide) (fun K hK => ?_)
              refine value_ (w1 := ?_) (v := ?_) (by rfl) rfl ?_ ?_
              rotate_left 2
              · go_simp
                constructor
                · rfl
                · rfl
              have H85 := Lib.hid (row_new w83 (.cells #[.int .u64 (st : Int), .int .u64 (st : Int), .slice vA vm vc, .slice none 0 0] 68) (n := w83.heap.size) (by simp))
              replace HO83 := Lib.hid (HO83.out.below (below_alloc (Below.refl _ _) (.cells #[.int .u64 (st : Int), .int .u64 (st : Int), .slice vA vm vc, .slice none 0 0] 68)))
              refine hK.out _ _ ⟨hHeld.1.alloc _, blk_alloc hHeld.2 _⟩ (fun hHeld => ?_)
              clear hK K
              refine norm_ (a' := ?_) ?_ ?_
              rotate_left
              · show Act.put _ (some 93) _ = _
                simp only [Act.put, List.setIfInBounds_toArray, List.set_cons_zero, List.set_cons_succ, i64_w, i32_w]
                rfl
              exact norm_ (by simp only [putAll, Act.put, List.setIfInBounds_toArray, List.set_cons_zero, List.set_cons_succ]) (hCont (v83, w83.heap.size, wr.heap.size) _ ⟨hHeld, HO83.out, H85.out, HE.out⟩)
            · skip
              refine value_ (w1 := ?_) (v := ?_) (by rfl) rfl ?_ ?_
              rotate_left 2
              · go_simp
                constructor
                · rfl
                · rfl
              have H85 := Lib.hid (row_new (wr.drew.alloc (.cells #[] 68)) (.cells #[.int .u64 (st : Int), .int .u64 (st : Int), .slice vA vm vc, .slice none 0 0] 68) (n := wr.heap.size + 1) (by simp))
              have H80 := Lib.hid (blk_alloc H80.out (.cells #[.int .u64 (st : Int), .int .u64 (st : Int), .slice vA vm vc, .slice none 0 0] 68))
              refine hK.out _ _ ⟨hHeld.1.alloc _, blk_alloc hHeld.2 _⟩ (fun hHeld => ?_)
              clear hK K
              refine norm_ (a' := ?_) ?_ ?_
              rotate_left
              · show Act.put _ (some 93) _ = _
                simp only [Act.put, List.setIfInBounds_toArray, List.set_cons_zero, List.set_cons_succ, i64_w, i32_w]
                rfl
              refine one_ (i := 2) (N := some 91) #[true, true, true, true, true, false, false, false, false, false, false, false] rfl rfl (by kernel_rfl) (by decide) (fun K hK => ?_)
              obtain ⟨v83, w83, hr83, hm83, ho83, hk83, hb83⟩ := copy_txs (g80 := wr.heap.size) (c := cap) 63 hHeld.1 (HA.out.below hHeld.1.bel).1 H80.out (by have := HM.out.bel.size; omega) (by have := blk_lt HM.out.blk; omega) HL80.out (by omega)
              have HO83 := Lib.hid ho83; clear ho83
              have HE := Lib.hid (show v83.ownBlock ≠ some g from fun e => by rw [e] at hb83; have := blk_lt HM.out.blk; have := hHeld.1.bel.size; simp at hb83; omega)
              replace H85 := Lib.hid (hk83.blk H85.out (fun e => by have e : wr.heap.size + 1 = wr.heap.size := e; omega))
              refine step_app (by rfl) (.tmp 89) (.tmp 90) 63 rfl rfl rfl hr83 ?_
              refine hK.out _ _ ⟨hm83, hm83.blk⟩ (fun hHeld => ?_)
              clear hK K
              refine norm_ (a' := ?_) ?_ ?_
              rotate_left
              · show Act.put _ (some 91) _ = _
                simp only [Act.put, List.setIfInBounds_toArray, List.set_cons_zero, List.set_cons_succ, i64_w, i32_w]
                rfl
              exact norm_ (by simp only [putAll, Act.put, List.setIfInBounds_toArray, List.set_cons_zero, List.set_cons_succ]) (hCont (v83, wr.heap.size + 1, wr.heap.size) _ ⟨hHeld, HO83.out, H85.out, HE.out⟩)
          · skip
            refine value_ (w1 := ?_) (v := ?_) (by rfl) rfl ?_ ?_
            rotate_left 2
            · go_simp
              constructor
              · rfl
              · rfl
            have H85 := Lib.hid (row_new wr.drew (.cells #[.int .u64 (st : Int), .int .u64 (st : Int), .slice vA vm vc, .slice none 0 0] 68) (n := wr.heap.size) (by simp))
            refine hK.out _ _ ⟨hHeld.1.alloc _, blk_alloc hHeld.2 _⟩ (fun hHeld => ?_)
            clear hK K
            refine norm_ (a' := ?_) ?_ ?_
            rotate_left
            · show Act.put _ (some 93) _ = _
              simp only [Act.put, List.setIfInBounds_toArray, List.set_cons_zero, List.set_cons_succ, i64_w, i32_w]
              rfl
            refine one_ (i := 0) (N := some 89) #[true, true, false, true, true, false, false, false, false, false, false, false] rfl rfl (by kernel_rfl) (by decide) (fun K hK => ?_)
            refine value_ (w1 := ?_) (v := ?_) (by rfl) rfl ?_ ?_
            rotate_left 2
            · go_simp
              constructor
              · rfl
              · rfl
            have H80 := Lib.hid (row_new (wr.drew.alloc (.cells #[.int .u64 (st : Int), .int .u64 (st : Int), .slice vA vm vc, .slice none 0 0] 68)) (.cells #[] 68) (n := wr.heap.size + 1) (by simp))
            have HL80 := Lib.hid (show (Value.slice vA vm vc).ownBlock ≠ some (wr.heap.size + 1) from fun e => by have := (HM.out.own.block_ge _ e).2; omega)
            have H85 := Lib.hid (blk_alloc H85.out (.cells #[] 68))
            refine hK.out _ _ ⟨hHeld.1.alloc _, blk_alloc hHeld.2 _⟩ (fun hHeld => ?_)
            clear hK K
            refine norm_ (a' := ?_) ?_ ?_
            rotate_left
            · show Act.put _ (some 89) _ = _
              simp only [Act.put, List.setIfInBounds_toArray, List.set_cons_zero, List.set_cons_succ, i64_w, i32_w]
              rfl
            refine one_ (i := 2) (N := some 91) #[true, true, true, true, true, false, false, false, false, false, false, false] rfl rfl (by kernel_rfl) (by decide) (fun K hK => ?_)
            obtain ⟨v83, w83, hr83, hm83, ho83, hk83, hb83⟩ := copy_txs (g80 := wr.heap.size + 1) (c := cap) 63 hHeld.1 (HA.out.below hHeld.1.bel).1 H80.out (by have := HM.out.bel.size; omega) (by have := blk_lt HM.out.blk; omega) HL80.out (by omega)
            have HO83 := Lib.hid ho83; clear ho83
            have HE := Lib.hid (show v83.ownBlock ≠ some g from fun e => by rw [e] at hb83; have := blk_lt HM.out.blk; have := hHeld.1.bel.size; simp at hb83; omega)
            replace H85 := Lib.hid (hk83.blk H85.out (fun e => by have e : wr.heap.size = wr.heap.size + 1 := e; omega))
            refine step_app (by rfl) (.tmp 89) (.tmp 90) 63 rfl rfl rfl hr83 ?_
            refine hK.out _ _ ⟨hm83, hm83.blk⟩ (fun hHeld => ?_)
            clear hK K
            refine norm_ (a' := ?_) ?_ ?_
            rotate_left
            · show Act.put _ (some 91) _ = _
              simp only [Act.put, List.setIfInBounds_toArray, List.set_cons_zero, List.set_cons_succ, i64_w, i32_w]
              rfl
            exact norm_ (by simp only [putAll, Act.put, List.setIfInBounds_toArray, List.set_cons_zero, List.set_cons_succ]) (hCont (v83, wr.heap.size, wr.heap.size + 1) _ ⟨hHeld, HO83.out, H85.out, HE.out⟩)
        rintro ⟨v83, g85, g80⟩ w7 ⟨hHeld, ho83, h85, he⟩
        have HO83 := Lib.hid ho83; clear ho83
        have H85 := Lib.hid (show w7.heap[g85]? = some (.cells x.arr 68 (0, 0)) from by rw [← HXA.out]; exact h85); clear h85
        refine norm_ (a' := ?_) ?_ ?_
        rotate_left
        · simp only [putAll, Act.put, List.setIfInBounds_toArray, List.set_cons_zero, List.set_cons_succ]
          rfl
        refine last_ (i := 5) (N := some 94) #[true, true, true, true, true, true, false, false, false, false, false, false] rfl rfl (by kernel_rfl) (by decide) (fun K hK => ?_)
        obtain ⟨v86, w86, hr86, hm86, ho86⟩ := push_txs 63 hHeld.1 HO83.out he H85.out hll
        obtain ⟨A6, c6, e6, hc6⟩ := ho86.slice_
        obtain ⟨m6, hm6⟩ : ∃ m, m = (l ++ [x]).length := ⟨_, rfl⟩
        rw [← hm6] at e6 hc6
        obtain rfl := e6
        have HT6 := Lib.hid (show Txs w86 A6 m6 (l ++ [x]) from ⟨by rw [hm6]; exact (show OwnF w86 w.heap.size 68 4 txC (.slice A6 (l ++ [x]).length c6) (l ++ [x]) from by rw [← hm6]; exact ho86).row txC_len, fun p hp => by
          rcases List.mem_append.1 hp with h | h
          · exact (HA.out.below hm86.bel).2 p h
          · obtain rfl := List.mem_singleton.1 h
            rw [HX.out]
            exact ⟨by simp only; rw [HVM.out.1]; exact (show OwnF w86 w.heap.size 43 5 rdC (.slice vA rds.length vc) rds from by rw [← HVM.out.1]; exact hm86.own).row rdC_len, RowF.nil _ _ _, by simp only; rw [HVM.out.1]; omega, Nat.zero_le _, by simp only; rw [HVM.out.1]; exact HVM.out.2, Nat.le_refl _, fun x hx => by simp at hx⟩⟩)
        have HB86 := Lib.hid hm86.bel
        have hm20 : m6 ≤ 140737488351232 := by rw [hm6, List.length_append, List.length_singleton]; omega
        have HQ6 := Lib.hid (faults_any A6 m6 c6 (l ++ [x]) w86 HT6.out hm20 hc6)
        clear hm6
        refine step_app (by rfl) (.tmp 91) (.tmp 93) 63 rfl rfl rfl hr86 ?_
        refine hK.out _ _ ?_
        clear hK K
        refine norm_ (a' := ?_) ?_ ?_
        rotate_left
        · show Act.put _ (some 94) _ = _
          simp only [Act.put, List.setIfInBounds_toArray, List.set_cons_zero, List.set_cons_succ, i64_w, i32_w]
          rfl
        refine last_ (i := 6) (N := some 95) #[true, true, true, true, true, true, true, false, false, false, false, false] rfl rfl (by kernel_rfl) (by decide) (fun K hK => ?_)
        refine goes_ Try.func27 (by kernel_rfl) rfl #[.slice A6 m6 c6] (by rfl) rfl rfl (by (try simp only [List.map_toArray, List.map_cons, List.map_nil]); first | done | rfl) ?_
        with_reducible refine (HQ6.out).mono ?_
        rintro e w9 ⟨j6, k6, rfl, hj6, hb6⟩
        refine ⟨_, rfl, ?_⟩
        obtain rfl := more_same (by rw [HX.out]) (fun r hr => by rw [HX.out] at hr ⊢; exact HOK.out r hr) HF0.out hj6
        have HB9 := Lib.hid (HB86.out.trans (hb6.mono HB86.out.size))
        refine hK.out _ _ ?_
        clear hK K
        refine norm_ (a' := ?_) ?_ ?_
        rotate_left
        · show Act.put _ (some 95) _ = _
          simp only [Act.put, List.setIfInBounds_toArray, List.set_cons_zero, List.set_cons_succ, i64_w, i32_w]
          rfl
        refine pure_ (i := 7) (N := some 88) (v := ?_) (a' := ?_) #[true, true, true, true, true, true, true, true, false, false, false, false] rfl rfl (by kernel_rfl) (fun _ _ _ h => h) (Or.inl ⟨by rfl, ?_⟩) ?_ ?_
        rotate_left
        · intro w'
          go_simp
          with_reducible rfl
        rotate_left
        · simp only [Act.put, List.setIfInBounds_toArray, List.set_cons_zero, List.set_cons_succ, i64_w, i32_w]
          rfl
        refine pure_ (i := 8) (N := some 96) (v := ?_) (a' := ?_) #[true, true, true, true, true, true, true, true, true, false, false, false] rfl rfl (by kernel_rfl) (fun _ _ _ h => h) (Or.inl ⟨by rfl, ?_⟩) ?_ ?_
        rotate_left
        · intro w'
          go_simp
          with_reducible rfl
        rotate_left
        · simp only [Act.put, List.setIfInBounds_toArray, List.set_cons_zero, List.set_cons_succ, i64_w, i32_w]
          rfl
        refine pure_ (i := 9) (N := some 97) (v := ?_) (a' := ?_) #[true, true, true, true, true, true, true, true, true, true, false, false] rfl rfl (by kernel_rfl) (fun _ _ _ h => h) (Or.inl ⟨by rfl, ?_⟩) ?_ ?_
        rotate_left
        · intro w'
          go_simp
          with_reducible rfl
        rotate_left
        · simp only [Act.put, List.setIfInBounds_toArray, List.set_cons_zero, List.set_cons_succ, i64_w, i32_w]
          rfl
        refine pure_ (i := 10) (N := some 14) (v := ?_) (a' := ?_) #[true, true, true, true, true, true, true, true, true, true, true, false] rfl rfl (by kernel_rfl) (fun _ _ _ h => h) (Or.inl ⟨by rfl, ?_⟩) ?_ ?_
        rotate_left
        · intro w'
          go_simp
          with_reducible rfl
        rotate_left
        · simp only [Act.put, List.setIfInBounds_toArray, List.set_cons_zero, List.set_cons_succ, i64_w, i32_w]
          rfl
        refine pure_ (i := 11) (N := some 15) (v := ?_) (a' := ?_) #[true, true, true, true, true, true, true, true, true, true, true, true] rfl rfl (by kernel_rfl) (fun _ _ _ h => h) (Or.inl ⟨by rfl, ?_⟩) ?_ ?_
        rotate_left
        · intro w'
          go_simp
          with_reducible rfl
        rotate_left
        · simp only [Act.put, List.setIfInBounds_toArray, List.set_cons_zero, List.set_cons_succ, i64_w, i32_w]
          rfl
        refine done_ (by kernel_rfl) ?_

        clear hHeld
        go_wp2
        go_ret
        exact ⟨rfl, HB9.out⟩
section
variable {H : Type} {enc : TypeId × Value → H} {w : World} {base : Nat} {spare : Nat → Bool} {held : Bool}
theorem strs_opens : Opens enc Try.prog w base spare held 22 fun (l : List ByteArray) cs => ∃ A len cap, cs = [.slice A len cap] ∧ len ≤ cap ∧ cap ≤ maxLen ∧ len * Try.prog.bytesOf 9 ≤ 140737488351232 ∧ RowSays w (Try.prog.cellsOf 9) (fun b cs => cs = [.string b] ∧ b.size ≤ 140737488351232) A len l :=
  opens_slice Try.underlying22 (by decide +kernel) (opens_string Try.underlying9)
end
theorem history_more_walk (A0 : Option Addr) (len0 cap0 : Nat) (l0 : List TxP) (A1 : Option Addr) (len1 cap1 : Nat) (l1 : List ByteArray) (a2 : Int) (W : World) (hc : len0 ≤ cap0) (hs : len0 * Try.prog.bytesOf 68 ≤ 140737488351232) (hr : RowSays W (Try.prog.cellsOf 68) (fun p cs => cs = txC p ∧ TxOk W p) A0 len0 l0)
    (hc1 : len1 ≤ cap1) (hs1 : len1 * Try.prog.bytesOf 9 ≤ 140737488351232) (hr1 : RowSays W (Try.prog.cellsOf 9) (fun b cs => cs = [.string b] ∧ b.size ≤ 140737488351232) A1 len1 l1) (hw : (Lit.int .u64 a2).wf = true) :
    Calls Try.prog 6 #[.slice A0 len0 cap0, .slice A1 len1 cap1, .int .u64 a2] W fun e w' => e = .returned (.bool true) ∧ Below W.heap.size W w' := by
  have e1 : Try.prog.cellsOf 68 = 4 := by kernel_rfl
  have e2 : Try.prog.bytesOf 68 = 64 := by kernel_rfl
  have e3 : Try.prog.cellsOf 9 = 1 := by kernel_rfl
  have e4 : Try.prog.bytesOf 9 = 16 := by kernel_rfl
  rw [e1] at hr
  rw [e2] at hs
  rw [e3] at hr1
  rw [e4] at hs1
  have hw := wf_u64 hw
  obtain ⟨a2, rfl⟩ := Int.eq_ofNat_of_zero_le hw.1
  exact history_more A0 len0 cap0 l0 A1 len1 cap1 l1 a2 W (Txs.of_says hr) (by omega) hc (RowF.of_says (f := strC) (hr1.imp fun _ _ h => h.1)) (by omega)
end Go.Proofs.Ytdldnhigejcegaa.My
