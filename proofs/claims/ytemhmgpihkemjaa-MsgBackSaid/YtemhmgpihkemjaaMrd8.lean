/- msg.reader.field. -/
import Derived.Test.YtemhmgpihkemjaaMrd7
import Derived.Test.YtemhmgpihkemjaaMsg4
namespace Go.Proofs.Ytemhmgpihkemjaa.My
set_option linter.unusedSimpArgs false
set_option linter.unusedVariables false
open Go.RowKit Go.Proofs.YtemhmgpihkemjaaW.PrintWords Go.Proofs.YtemhmgpihkemjaaW.PrintLast Go.Proofs.Ytemhmgpihkemjaa.Pm

theorem info_msgL : (Try.prog.info? 29).map (·.size) = some 17 := by kernel_rfl
theorem rm_range {w : World} {g c : Nat} {r : RM} {A : Option Addr} {n : Nat} (h : IsMR w g (r.arr A n c)) : w.rangeAt g 0 (r.m.arr A n c).toList := by
  have hr : ∀ j (hj : j < 17), (r.arr A n c)[j]? = (r.m.arr A n c).toList[j]? := by
    intro j hj
    match j, hj with
    | 0, _ => rfl
    | 1, _ => rfl
    | 2, _ => rfl
    | 3, _ => rfl
    | 4, _ => rfl
    | 5, _ => rfl
    | 6, _ => rfl
    | 7, _ => rfl
    | 8, _ => rfl
    | 9, _ => rfl
    | 10, _ => rfl
    | 11, _ => rfl
    | 12, _ => rfl
    | 13, _ => rfl
    | 14, _ => rfl
    | 15, _ => rfl
    | 16, _ => rfl
    | n + 17, h => exact absurd h (by omega)
  intro j u hu
  have hj : j < 17 := (List.getElem?_eq_some_iff.1 hu).1
  rw [Nat.zero_add]
  exact h.cell ((hr j hj).trans hu)
theorem seen_set (r : RM) (A : Option Addr) (n c : Nat) (b : Bool) : (r.arr A n c).setIfInBounds 19 (.bool b) = (RM.mk r.m r.left r.crit b).arr A n c := rfl
set_option maxRecDepth 100000 in
set_option maxHeartbeats 8000000 in
theorem rd_field_1 (w : World) (base g h last : Nat) (s : ByteArray) (r : RM) (A : Option Addr) (c : Nat) (H : IsRM w base g r A c) (hk : h / 2 = 1) (hl : 1 ≤ last) (hl2 : last ≤ 12) (hh : h < 18446744073709551616) (hs : s.size ≤ 1000000) (hf : (takeS 1 s r).m.Fit) (hb : base ≤ w.heap.size) :
    Calls Try.prog 32 #[.pointer (some ⟨g, 0, none⟩), .int .u64 (h : Int), .string s, .int .i64 (last : Int)] w fun e w' => e = .returned (.tuple #[]) ∧ IsRM w' base g ⟨(takeS 1 s r).m, (takeS 1 s r).left, (takeS 1 s r).crit, seenB 1 h s (takeS 1 s r).m (takeS 1 s r).bad⟩ A c ∧ Keeps (Only g) w w' := by
  have HG := Lib.hid H.blk.lt
  have H0 := Lib.hid H; clear H
  have HBS := Lib.hid hb; clear hb
  have x1 : (h : Int) / 2 = 1 := by omega
  have x2 : Int.tdiv (h : Int) 2 = 1 := by rw [Int.tdiv_eq_ediv_of_nonneg (by omega)]; omega
  have x3 : IntKind.u64.wrap (last : Int) = (last : Int) := wrap_u64_nat (by omega)
  have x4 : decide ((last : Int) < 1) = false := by simp; omega
  have HK0 := Lib.hid (fields_any g w)
  have HHH := Lib.hid hh
  have HHS := Lib.hid hs
  have HFT := Lib.hid hf
  clear hf hs hh
  go_enter Try.func32, Try.ntmps32
  go_wp2_with fail
  refine HK0.out.mono ?_
  rintro e w1 ⟨mb, bx, rfl, hx, hlk, hbx, hB⟩
  replace H0 := Lib.hid (H0.out.below hB)
  have HK := Lib.hid (Keeps.of_below (Only g) hB); clear hB
  have HX := Lib.hid hx; clear hx
  have l1 := hlk 1 (by decide) (by decide)
  rw [show fnV bx g 1 = .func (.func 44) #[] #[.pointer (some ⟨bx, 0, none⟩)] from rfl, show ((1 : Nat) : Int) = 1 from rfl] at l1
  clear hlk hbx HK0
  go_wp2_with fail
  refine (take_1 H0.out HX.out HHS.out).mono ?_
  rintro e w2 ⟨rfl, h2, hk2⟩
  replace HK := Lib.hid (HK.out.trans hk2); clear hk2
  clear H0 HX l1
  obtain ⟨t, ht⟩ : ∃ t, takeS 1 s r = t := ⟨_, rfl⟩
  have HT := Lib.hid ht
  rw [ht] at h2 HFT
  clear ht
  have H2 := Lib.hid h2; clear h2
  obtain ⟨n, hn⟩ : ∃ n, t.m.ws.length = n := ⟨_, rfl⟩
  have HRN := Lib.hid (show IsMR w2 g (t.arr A n c) by rw [← hn]; exact H2.out.blk)
  have HON := Lib.hid (show OwnF w2 base 56 3 wrC (.slice A n c) t.m.ws by rw [← hn]; exact H2.out.own)
  have HWR := Lib.hid (row_wrs (HON.out.row wrC_len))
  have HFO := Lib.hid (fun W (hw : Wrs W A n t.m.ws) => mfield_any t.m A n c W HFT.out hw 1 (by decide) (by decide))
  unfold FieldOf at HFO
  simp only [show ((1 : Nat) : Int) = 1 from rfl] at HFO
  obtain ⟨⟨fv, th⟩, hfl⟩ : ∃ x, fieldS t.m 1 = x := ⟨_, rfl⟩
  simp only [hfl] at HFO
  have HFL := Lib.hid hfl; clear hfl
  have hR := rm_range HRN.out
  obtain ⟨arrM, hM⟩ : ∃ x, t.m.arr A n c = x := ⟨_, rfl⟩
  have hsz : (Try.prog.info? 29).map (·.size) = some arrM.size := by rw [← hM]; exact info_msgL
  rw [hM] at hR HFO
  clear hM
  have HN := Lib.hid hn; clear hn
  have HQ := Lib.hid hR; clear hR
  clear hl hl2
  go_wp2_with (first | refine wpList_load_part rfl 29 _ rfl g 0 rfl arrM _ HQ.out Try.underlying29 rfl hsz ?_ | fail)
  refine (HFO.out _ HWR.out).mono ?_
  rintro e w3 ⟨rfl, hB⟩
  have HK3 := Lib.hid (Keeps.of_below (Only g) hB)
  have HR3 := Lib.hid (HRN.out.below hB)
  have HO3 := Lib.hid (HON.out.below hB)
  replace HK := Lib.hid (HK.out.below hB); clear hB HK3
  have c19 := HR3.out.cell (RM.a19 t A n c)
  have f19 := HR3.out.f 19
  have hgl := HR3.out.lt
  obtain ⟨eb, heb⟩ : ∃ x, (fv.toList == s.toList) = x := ⟨_, rfl⟩
  obtain ⟨hd, hhd⟩ : ∃ x, headS 1 = x := ⟨_, rfl⟩
  have HHD := Lib.hid (head_any 1 w3 (by decide))
  rw [hhd, show ((1 : Nat) : Int) = 1 from rfl] at HHD
  have HEB := Lib.hid heb
  have HHE := Lib.hid hhd
  clear HFO HWR HQ hsz hhd x1 x2 x3 x4
  obtain ⟨q, hq⟩ : ∃ q, t.bad = q := ⟨_, rfl⟩
  rw [hq] at c19
  have HQ2 := Lib.hid hq; clear hq
  cases q with
  | true =>
    go_wp2
    go_end0
    rw [HT.out]
    refine ⟨rfl, ⟨?_, ?_⟩, HK.out.own 19 _⟩
    · show IsMR _ g (RM.arr ⟨t.m, t.left, t.crit, seenB 1 h s t.m t.bad⟩ A t.m.ws.length c)
      rw [HN.out, show seenB 1 h s t.m t.bad = true by unfold seenB; simp [HFL.out, HEB.out, HHE.out, HQ2.out], ← seen_set t]
      exact HR3.out.set 19 _
    · show OwnF _ base 56 3 wrC (.slice A t.m.ws.length c) t.m.ws
      rw [HN.out]
      exact HO3.out.mr HR3.out (by decide) ((Keeps.refl (Only g) _).own 19 _)
  | false =>
    cases th with
    | false =>
      go_wp2
      go_end0
      rw [HT.out]
      refine ⟨rfl, ⟨?_, ?_⟩, HK.out.own 19 _⟩
      · show IsMR _ g (RM.arr ⟨t.m, t.left, t.crit, seenB 1 h s t.m t.bad⟩ A t.m.ws.length c)
        rw [HN.out, show seenB 1 h s t.m t.bad = true by unfold seenB; simp [HFL.out, HEB.out, HHE.out, HQ2.out], ← seen_set t]
        exact HR3.out.set 19 _
      · show OwnF _ base 56 3 wrC (.slice A t.m.ws.length c) t.m.ws
        rw [HN.out]
        exact HO3.out.mr HR3.out (by decide) ((Keeps.refl (Only g) _).own 19 _)
    | true =>
      cases eb with
      | false =>
        go_wp2
        go_end0
        rw [HT.out]
        refine ⟨rfl, ⟨?_, ?_⟩, HK.out.own 19 _⟩
        · show IsMR _ g (RM.arr ⟨t.m, t.left, t.crit, seenB 1 h s t.m t.bad⟩ A t.m.ws.length c)
          rw [HN.out, show seenB 1 h s t.m t.bad = true by unfold seenB; simp [HFL.out, HEB.out, HHE.out, HQ2.out], ← seen_set t]
          exact HR3.out.set 19 _
        · show OwnF _ base 56 3 wrC (.slice A t.m.ws.length c) t.m.ws
          rw [HN.out]
          exact HO3.out.mr HR3.out (by decide) ((Keeps.refl (Only g) _).own 19 _)
      | true =>
        by_cases hq : hd = h
        · have y1 : ((hd : Int) == (h : Int)) = true := beq_iff_eq.2 (by omega)
          have y2 : (hd == h) = true := by simpa using hq
          have y3 : ((hd : Int) != (h : Int)) = false := bne_eq_false_iff_eq.2 (by omega)
          have HHQ := Lib.hid hq; clear hq
          go_wp2_with fail
          refine HHD.out.mono ?_
          rintro e w9 ⟨rfl, rfl⟩
          go_wp2
          go_end0
          rw [HT.out]
          refine ⟨rfl, ⟨?_, ?_⟩, HK.out.own 19 _⟩
          · show IsMR _ g (RM.arr ⟨t.m, t.left, t.crit, seenB 1 h s t.m t.bad⟩ A t.m.ws.length c)
            rw [HN.out, show seenB 1 h s t.m t.bad = false by unfold seenB; simp [HFL.out, HEB.out, HHE.out, HQ2.out, HHQ.out], ← seen_set t]
            exact HR3.out.set 19 _
          · show OwnF _ base 56 3 wrC (.slice A t.m.ws.length c) t.m.ws
            rw [HN.out]
            exact HO3.out.mr HR3.out (by decide) ((Keeps.refl (Only g) _).own 19 _)
        · have y1 : ((hd : Int) == (h : Int)) = false := beq_eq_false_iff_ne.2 (by omega)
          have y2 : (hd == h) = false := by simpa using hq
          have y3 : ((hd : Int) != (h : Int)) = true := bne_iff_ne.2 (by omega)
          have HHQ := Lib.hid hq; clear hq
          go_wp2_with fail
          refine HHD.out.mono ?_
          rintro e w9 ⟨rfl, rfl⟩
          go_wp2
          go_end0
          rw [HT.out]
          refine ⟨rfl, ⟨?_, ?_⟩, HK.out.own 19 _⟩
          · show IsMR _ g (RM.arr ⟨t.m, t.left, t.crit, seenB 1 h s t.m t.bad⟩ A t.m.ws.length c)
            rw [HN.out, show seenB 1 h s t.m t.bad = true by unfold seenB; simp [HFL.out, HEB.out, HHE.out, HQ2.out, HHQ.out], ← seen_set t]
            exact HR3.out.set 19 _
          · show OwnF _ base 56 3 wrC (.slice A t.m.ws.length c) t.m.ws
            rw [HN.out]
            exact HO3.out.mr HR3.out (by decide) ((Keeps.refl (Only g) _).own 19 _)
set_option maxRecDepth 100000 in
set_option maxHeartbeats 8000000 in
theorem rd_field_2 (w : World) (base g h last : Nat) (s : ByteArray) (r : RM) (A : Option Addr) (c : Nat) (H : IsRM w base g r A c) (hk : h / 2 = 2) (hl : 2 ≤ last) (hl2 : last ≤ 12) (hh : h < 18446744073709551616) (hs : s.size ≤ 1000000) (hf : (takeS 2 s r).m.Fit) (hb : base ≤ w.heap.size) :
    Calls Try.prog 32 #[.pointer (some ⟨g, 0, none⟩), .int .u64 (h : Int), .string s, .int .i64 (last : Int)] w fun e w' => e = .returned (.tuple #[]) ∧ IsRM w' base g ⟨(takeS 2 s r).m, (takeS 2 s r).left, (takeS 2 s r).crit, seenB 2 h s (takeS 2 s r).m (takeS 2 s r).bad⟩ A c ∧ Keeps (Only g) w w' := by
  have HG := Lib.hid H.blk.lt
  have H0 := Lib.hid H; clear H
  have HBS := Lib.hid hb; clear hb
  have x1 : (h : Int) / 2 = 2 := by omega
  have x2 : Int.tdiv (h : Int) 2 = 2 := by rw [Int.tdiv_eq_ediv_of_nonneg (by omega)]; omega
  have x3 : IntKind.u64.wrap (last : Int) = (last : Int) := wrap_u64_nat (by omega)
  have x4 : decide ((last : Int) < 2) = false := by simp; omega
  have HK0 := Lib.hid (fields_any g w)
  have HHH := Lib.hid hh
  have HHS := Lib.hid hs
  have HFT := Lib.hid hf
  clear hf hs hh
  go_enter Try.func32, Try.ntmps32
  go_wp2_with fail
  refine HK0.out.mono ?_
  rintro e w1 ⟨mb, bx, rfl, hx, hlk, hbx, hB⟩
  replace H0 := Lib.hid (H0.out.below hB)
  have HK := Lib.hid (Keeps.of_below (Only g) hB); clear hB
  have HX := Lib.hid hx; clear hx
  have l1 := hlk 2 (by decide) (by decide)
  rw [show fnV bx g 2 = .func (.func 46) #[] #[.pointer (some ⟨bx, 0, none⟩)] from rfl, show ((2 : Nat) : Int) = 2 from rfl] at l1
  clear hlk hbx HK0
  go_wp2_with fail
  refine (take_2 H0.out HX.out HHS.out).mono ?_
  rintro e w2 ⟨rfl, h2, hk2⟩
  replace HK := Lib.hid (HK.out.trans hk2); clear hk2
  clear H0 HX l1
  obtain ⟨t, ht⟩ : ∃ t, takeS 2 s r = t := ⟨_, rfl⟩
  have HT := Lib.hid ht
  rw [ht] at h2 HFT
  clear ht
  have H2 := Lib.hid h2; clear h2
  obtain ⟨n, hn⟩ : ∃ n, t.m.ws.length = n := ⟨_, rfl⟩
  have HRN := Lib.hid (show IsMR w2 g (t.arr A n c) by rw [← hn]; exact H2.out.blk)
  have HON := Lib.hid (show OwnF w2 base 56 3 wrC (.slice A n c) t.m.ws by rw [← hn]; exact H2.out.own)
  have HWR := Lib.hid (row_wrs (HON.out.row wrC_len))
  have HFO := Lib.hid (fun W (hw : Wrs W A n t.m.ws) => mfield_any t.m A n c W HFT.out hw 2 (by decide) (by decide))
  unfold FieldOf at HFO
  simp only [show ((2 : Nat) : Int) = 2 from rfl] at HFO
  obtain ⟨⟨fv, th⟩, hfl⟩ : ∃ x, fieldS t.m 2 = x := ⟨_, rfl⟩
  simp only [hfl] at HFO
  have HFL := Lib.hid hfl; clear hfl
  have hR := rm_range HRN.out
  obtain ⟨arrM, hM⟩ : ∃ x, t.m.arr A n c = x := ⟨_, rfl⟩
  have hsz : (Try.prog.info? 29).map (·.size) = some arrM.size := by rw [← hM]; exact info_msgL
  rw [hM] at hR HFO
  clear hM
  have HN := Lib.hid hn; clear hn
  have HQ := Lib.hid hR; clear hR
  clear hl hl2
  go_wp2_with (first | refine wpList_load_part rfl 29 _ rfl g 0 rfl arrM _ HQ.out Try.underlying29 rfl hsz ?_ | fail)
  refine (HFO.out _ HWR.out).mono ?_
  rintro e w3 ⟨rfl, hB⟩
  have HK3 := Lib.hid (Keeps.of_below (Only g) hB)
  have HR3 := Lib.hid (HRN.out.below hB)
  have HO3 := Lib.hid (HON.out.below hB)
  replace HK := Lib.hid (HK.out.below hB); clear hB HK3
  have c19 := HR3.out.cell (RM.a19 t A n c)
  have f19 := HR3.out.f 19
  have hgl := HR3.out.lt
  obtain ⟨eb, heb⟩ : ∃ x, (fv.toList == s.toList) = x := ⟨_, rfl⟩
  obtain ⟨hd, hhd⟩ : ∃ x, headS 2 = x := ⟨_, rfl⟩
  have HHD := Lib.hid (head_any 2 w3 (by decide))
  rw [hhd, show ((2 : Nat) : Int) = 2 from rfl] at HHD
  have HEB := Lib.hid heb
  have HHE := Lib.hid hhd
  clear HFO HWR HQ hsz hhd x1 x2 x3 x4
  obtain ⟨q, hq⟩ : ∃ q, t.bad = q := ⟨_, rfl⟩
  rw [hq] at c19
  have HQ2 := Lib.hid hq; clear hq
  cases q with
  | true =>
    go_wp2
    go_end0
    rw [HT.out]
    refine ⟨rfl, ⟨?_, ?_⟩, HK.out.own 19 _⟩
    · show IsMR _ g (RM.arr ⟨t.m, t.left, t.crit, seenB 2 h s t.m t.bad⟩ A t.m.ws.length c)
      rw [HN.out, show seenB 2 h s t.m t.bad = true by unfold seenB; simp [HFL.out, HEB.out, HHE.out, HQ2.out], ← seen_set t]
      exact HR3.out.set 19 _
    · show OwnF _ base 56 3 wrC (.slice A t.m.ws.length c) t.m.ws
      rw [HN.out]
      exact HO3.out.mr HR3.out (by decide) ((Keeps.refl (Only g) _).own 19 _)
  | false =>
    cases th with
    | false =>
      go_wp2
      go_end0
      rw [HT.out]
      refine ⟨rfl, ⟨?_, ?_⟩, HK.out.own 19 _⟩
      · show IsMR _ g (RM.arr ⟨t.m, t.left, t.crit, seenB 2 h s t.m t.bad⟩ A t.m.ws.length c)
        rw [HN.out, show seenB 2 h s t.m t.bad = true by unfold seenB; simp [HFL.out, HEB.out, HHE.out, HQ2.out], ← seen_set t]
        exact HR3.out.set 19 _
      · show OwnF _ base 56 3 wrC (.slice A t.m.ws.length c) t.m.ws
        rw [HN.out]
        exact HO3.out.mr HR3.out (by decide) ((Keeps.refl (Only g) _).own 19 _)
    | true =>
      cases eb with
      | false =>
        go_wp2
        go_end0
        rw [HT.out]
        refine ⟨rfl, ⟨?_, ?_⟩, HK.out.own 19 _⟩
        · show IsMR _ g (RM.arr ⟨t.m, t.left, t.crit, seenB 2 h s t.m t.bad⟩ A t.m.ws.length c)
          rw [HN.out, show seenB 2 h s t.m t.bad = true by unfold seenB; simp [HFL.out, HEB.out, HHE.out, HQ2.out], ← seen_set t]
          exact HR3.out.set 19 _
        · show OwnF _ base 56 3 wrC (.slice A t.m.ws.length c) t.m.ws
          rw [HN.out]
          exact HO3.out.mr HR3.out (by decide) ((Keeps.refl (Only g) _).own 19 _)
      | true =>
        by_cases hq : hd = h
        · have y1 : ((hd : Int) == (h : Int)) = true := beq_iff_eq.2 (by omega)
          have y2 : (hd == h) = true := by simpa using hq
          have y3 : ((hd : Int) != (h : Int)) = false := bne_eq_false_iff_eq.2 (by omega)
          have HHQ := Lib.hid hq; clear hq
          go_wp2_with fail
          refine HHD.out.mono ?_
          rintro e w9 ⟨rfl, rfl⟩
          go_wp2
          go_end0
          rw [HT.out]
          refine ⟨rfl, ⟨?_, ?_⟩, HK.out.own 19 _⟩
          · show IsMR _ g (RM.arr ⟨t.m, t.left, t.crit, seenB 2 h s t.m t.bad⟩ A t.m.ws.length c)
            rw [HN.out, show seenB 2 h s t.m t.bad = false by unfold seenB; simp [HFL.out, HEB.out, HHE.out, HQ2.out, HHQ.out], ← seen_set t]
            exact HR3.out.set 19 _
          · show OwnF _ base 56 3 wrC (.slice A t.m.ws.length c) t.m.ws
            rw [HN.out]
            exact HO3.out.mr HR3.out (by decide) ((Keeps.refl (Only g) _).own 19 _)
        · have y1 : ((hd : Int) == (h : Int)) = false := beq_eq_false_iff_ne.2 (by omega)
          have y2 : (hd == h) = false := by simpa using hq
          have y3 : ((hd : Int) != (h : Int)) = true := bne_iff_ne.2 (by omega)
          have HHQ := Lib.hid hq; clear hq
          go_wp2_with fail
          refine HHD.out.mono ?_
          rintro e w9 ⟨rfl, rfl⟩
          go_wp2
          go_end0
          rw [HT.out]
          refine ⟨rfl, ⟨?_, ?_⟩, HK.out.own 19 _⟩
          · show IsMR _ g (RM.arr ⟨t.m, t.left, t.crit, seenB 2 h s t.m t.bad⟩ A t.m.ws.length c)
            rw [HN.out, show seenB 2 h s t.m t.bad = true by unfold seenB; simp [HFL.out, HEB.out, HHE.out, HQ2.out, HHQ.out], ← seen_set t]
            exact HR3.out.set 19 _
          · show OwnF _ base 56 3 wrC (.slice A t.m.ws.length c) t.m.ws
            rw [HN.out]
            exact HO3.out.mr HR3.out (by decide) ((Keeps.refl (Only g) _).own 19 _)
set_option maxRecDepth 100000 in
set_option maxHeartbeats 8000000 in
theorem rd_field_3 (w : World) (base g h last : Nat) (s : ByteArray) (r : RM) (A : Option Addr) (c : Nat) (H : IsRM w base g r A c) (hk : h / 2 = 3) (hl : 3 ≤ last) (hl2 : last ≤ 12) (hh : h < 18446744073709551616) (hs : s.size ≤ 1000000) (hf : (takeS 3 s r).m.Fit) (hb : base ≤ w.heap.size) :
    Calls Try.prog 32 #[.pointer (some ⟨g, 0, none⟩), .int .u64 (h : Int), .string s, .int .i64 (last : Int)] w fun e w' => e = .returned (.tuple #[]) ∧ IsRM w' base g ⟨(takeS 3 s r).m, (takeS 3 s r).left, (takeS 3 s r).crit, seenB 3 h s (takeS 3 s r).m (takeS 3 s r).bad⟩ A c ∧ Keeps (Only g) w w' := by
  have HG := Lib.hid H.blk.lt
  have H0 := Lib.hid H; clear H
  have HBS := Lib.hid hb; clear hb
  have x1 : (h : Int) / 2 = 3 := by omega
  have x2 : Int.tdiv (h : Int) 2 = 3 := by rw [Int.tdiv_eq_ediv_of_nonneg (by omega)]; omega
  have x3 : IntKind.u64.wrap (last : Int) = (last : Int) := wrap_u64_nat (by omega)
  have x4 : decide ((last : Int) < 3) = false := by simp; omega
  have HK0 := Lib.hid (fields_any g w)
  have HHH := Lib.hid hh
  have HHS := Lib.hid hs
  have HFT := Lib.hid hf
  clear hf hs hh
  go_enter Try.func32, Try.ntmps32
  go_wp2_with fail
  refine HK0.out.mono ?_
  rintro e w1 ⟨mb, bx, rfl, hx, hlk, hbx, hB⟩
  replace H0 := Lib.hid (H0.out.below hB)
  have HK := Lib.hid (Keeps.of_below (Only g) hB); clear hB
  have HX := Lib.hid hx; clear hx
  have l1 := hlk 3 (by decide) (by decide)
  rw [show fnV bx g 3 = .func (.func 47) #[.pointer (some ⟨g, 0, none⟩)] #[] from rfl, show ((3 : Nat) : Int) = 3 from rfl] at l1
  clear hlk hbx HK0
  go_wp2_with fail
  refine (take_3 H0.out HX.out HHS.out).mono ?_
  rintro e w2 ⟨rfl, h2, hk2⟩
  replace HK := Lib.hid (HK.out.trans hk2); clear hk2
  clear H0 HX l1
  obtain ⟨t, ht⟩ : ∃ t, takeS 3 s r = t := ⟨_, rfl⟩
  have HT := Lib.hid ht
  rw [ht] at h2 HFT
  clear ht
  have H2 := Lib.hid h2; clear h2
  obtain ⟨n, hn⟩ : ∃ n, t.m.ws.length = n := ⟨_, rfl⟩
  have HRN := Lib.hid (show IsMR w2 g (t.arr A n c) by rw [← hn]; exact H2.out.blk)
  have HON := Lib.hid (show OwnF w2 base 56 3 wrC (.slice A n c) t.m.ws by rw [← hn]; exact H2.out.own)
  have HWR := Lib.hid (row_wrs (HON.out.row wrC_len))
  have HFO := Lib.hid (fun W (hw : Wrs W A n t.m.ws) => mfield_any t.m A n c W HFT.out hw 3 (by decide) (by decide))
  unfold FieldOf at HFO
  simp only [show ((3 : Nat) : Int) = 3 from rfl] at HFO
  obtain ⟨⟨fv, th⟩, hfl⟩ : ∃ x, fieldS t.m 3 = x := ⟨_, rfl⟩
  simp only [hfl] at HFO
  have HFL := Lib.hid hfl; clear hfl
  have hR := rm_range HRN.out
  obtain ⟨arrM, hM⟩ : ∃ x, t.m.arr A n c = x := ⟨_, rfl⟩
  have hsz : (Try.prog.info? 29).map (·.size) = some arrM.size := by rw [← hM]; exact info_msgL
  rw [hM] at hR HFO
  clear hM
  have HN := Lib.hid hn; clear hn
  have HQ := Lib.hid hR; clear hR
  clear hl hl2
  go_wp2_with (first | refine wpList_load_part rfl 29 _ rfl g 0 rfl arrM _ HQ.out Try.underlying29 rfl hsz ?_ | fail)
  refine (HFO.out _ HWR.out).mono ?_
  rintro e w3 ⟨rfl, hB⟩
  have HK3 := Lib.hid (Keeps.of_below (Only g) hB)
  have HR3 := Lib.hid (HRN.out.below hB)
  have HO3 := Lib.hid (HON.out.below hB)
  replace HK := Lib.hid (HK.out.below hB); clear hB HK3
  have c19 := HR3.out.cell (RM.a19 t A n c)
  have f19 := HR3.out.f 19
  have hgl := HR3.out.lt
  obtain ⟨eb, heb⟩ : ∃ x, (fv.toList == s.toList) = x := ⟨_, rfl⟩
  obtain ⟨hd, hhd⟩ : ∃ x, headS 3 = x := ⟨_, rfl⟩
  have HHD := Lib.hid (head_any 3 w3 (by decide))
  rw [hhd, show ((3 : Nat) : Int) = 3 from rfl] at HHD
  have HEB := Lib.hid heb
  have HHE := Lib.hid hhd
  clear HFO HWR HQ hsz hhd x1 x2 x3 x4
  obtain ⟨q, hq⟩ : ∃ q, t.bad = q := ⟨_, rfl⟩
  rw [hq] at c19
  have HQ2 := Lib.hid hq; clear hq
  cases q with
  | true =>
    go_wp2
    go_end0
    rw [HT.out]
    refine ⟨rfl, ⟨?_, ?_⟩, HK.out.own 19 _⟩
    · show IsMR _ g (RM.arr ⟨t.m, t.left, t.crit, seenB 3 h s t.m t.bad⟩ A t.m.ws.length c)
      rw [HN.out, show seenB 3 h s t.m t.bad = true by unfold seenB; simp [HFL.out, HEB.out, HHE.out, HQ2.out], ← seen_set t]
      exact HR3.out.set 19 _
    · show OwnF _ base 56 3 wrC (.slice A t.m.ws.length c) t.m.ws
      rw [HN.out]
      exact HO3.out.mr HR3.out (by decide) ((Keeps.refl (Only g) _).own 19 _)
  | false =>
    cases th with
    | false =>
      go_wp2
      go_end0
      rw [HT.out]
      refine ⟨rfl, ⟨?_, ?_⟩, HK.out.own 19 _⟩
      · show IsMR _ g (RM.arr ⟨t.m, t.left, t.crit, seenB 3 h s t.m t.bad⟩ A t.m.ws.length c)
        rw [HN.out, show seenB 3 h s t.m t.bad = true by unfold seenB; simp [HFL.out, HEB.out, HHE.out, HQ2.out], ← seen_set t]
        exact HR3.out.set 19 _
      · show OwnF _ base 56 3 wrC (.slice A t.m.ws.length c) t.m.ws
        rw [HN.out]
        exact HO3.out.mr HR3.out (by decide) ((Keeps.refl (Only g) _).own 19 _)
    | true =>
      cases eb with
      | false =>
        go_wp2
        go_end0
        rw [HT.out]
        refine ⟨rfl, ⟨?_, ?_⟩, HK.out.own 19 _⟩
        · show IsMR _ g (RM.arr ⟨t.m, t.left, t.crit, seenB 3 h s t.m t.bad⟩ A t.m.ws.length c)
          rw [HN.out, show seenB 3 h s t.m t.bad = true by unfold seenB; simp [HFL.out, HEB.out, HHE.out, HQ2.out], ← seen_set t]
          exact HR3.out.set 19 _
        · show OwnF _ base 56 3 wrC (.slice A t.m.ws.length c) t.m.ws
          rw [HN.out]
          exact HO3.out.mr HR3.out (by decide) ((Keeps.refl (Only g) _).own 19 _)
      | true =>
        by_cases hq : hd = h
        · have y1 : ((hd : Int) == (h : Int)) = true := beq_iff_eq.2 (by omega)
          have y2 : (hd == h) = true := by simpa using hq
          have y3 : ((hd : Int) != (h : Int)) = false := bne_eq_false_iff_eq.2 (by omega)
          have HHQ := Lib.hid hq; clear hq
          go_wp2_with fail
          refine HHD.out.mono ?_
          rintro e w9 ⟨rfl, rfl⟩
          go_wp2
          go_end0
          rw [HT.out]
          refine ⟨rfl, ⟨?_, ?_⟩, HK.out.own 19 _⟩
          · show IsMR _ g (RM.arr ⟨t.m, t.left, t.crit, seenB 3 h s t.m t.bad⟩ A t.m.ws.length c)
            rw [HN.out, show seenB 3 h s t.m t.bad = false by unfold seenB; simp [HFL.out, HEB.out, HHE.out, HQ2.out, HHQ.out], ← seen_set t]
            exact HR3.out.set 19 _
          · show OwnF _ base 56 3 wrC (.slice A t.m.ws.length c) t.m.ws
            rw [HN.out]
            exact HO3.out.mr HR3.out (by decide) ((Keeps.refl (Only g) _).own 19 _)
        · have y1 : ((hd : Int) == (h : Int)) = false := beq_eq_false_iff_ne.2 (by omega)
          have y2 : (hd == h) = false := by simpa using hq
          have y3 : ((hd : Int) != (h : Int)) = true := bne_iff_ne.2 (by omega)
          have HHQ := Lib.hid hq; clear hq
          go_wp2_with fail
          refine HHD.out.mono ?_
          rintro e w9 ⟨rfl, rfl⟩
          go_wp2
          go_end0
          rw [HT.out]
          refine ⟨rfl, ⟨?_, ?_⟩, HK.out.own 19 _⟩
          · show IsMR _ g (RM.arr ⟨t.m, t.left, t.crit, seenB 3 h s t.m t.bad⟩ A t.m.ws.length c)
            rw [HN.out, show seenB 3 h s t.m t.bad = true by unfold seenB; simp [HFL.out, HEB.out, HHE.out, HQ2.out, HHQ.out], ← seen_set t]
            exact HR3.out.set 19 _
          · show OwnF _ base 56 3 wrC (.slice A t.m.ws.length c) t.m.ws
            rw [HN.out]
            exact HO3.out.mr HR3.out (by decide) ((Keeps.refl (Only g) _).own 19 _)
set_option maxRecDepth 100000 in
set_option maxHeartbeats 8000000 in
theorem rd_field_4 (w : World) (base g h last : Nat) (s : ByteArray) (r : RM) (A : Option Addr) (c : Nat) (H : IsRM w base g r A c) (hk : h / 2 = 4) (hl : 4 ≤ last) (hl2 : last ≤ 12) (hh : h < 18446744073709551616) (hs : s.size ≤ 1000000) (hf : (takeS 4 s r).m.Fit) (hb : base ≤ w.heap.size) :
    Calls Try.prog 32 #[.pointer (some ⟨g, 0, none⟩), .int .u64 (h : Int), .string s, .int .i64 (last : Int)] w fun e w' => e = .returned (.tuple #[]) ∧ IsRM w' base g ⟨(takeS 4 s r).m, (takeS 4 s r).left, (takeS 4 s r).crit, seenB 4 h s (takeS 4 s r).m (takeS 4 s r).bad⟩ A c ∧ Keeps (Only g) w w' := by
  have HG := Lib.hid H.blk.lt
  have H0 := Lib.hid H; clear H
  have HBS := Lib.hid hb; clear hb
  have x1 : (h : Int) / 2 = 4 := by omega
  have x2 : Int.tdiv (h : Int) 2 = 4 := by rw [Int.tdiv_eq_ediv_of_nonneg (by omega)]; omega
  have x3 : IntKind.u64.wrap (last : Int) = (last : Int) := wrap_u64_nat (by omega)
  have x4 : decide ((last : Int) < 4) = false := by simp; omega
  have HK0 := Lib.hid (fields_any g w)
  have HHH := Lib.hid hh
  have HHS := Lib.hid hs
  have HFT := Lib.hid hf
  clear hf hs hh
  go_enter Try.func32, Try.ntmps32
  go_wp2_with fail
  refine HK0.out.mono ?_
  rintro e w1 ⟨mb, bx, rfl, hx, hlk, hbx, hB⟩
  replace H0 := Lib.hid (H0.out.below hB)
  have HK := Lib.hid (Keeps.of_below (Only g) hB); clear hB
  have HX := Lib.hid hx; clear hx
  have l1 := hlk 4 (by decide) (by decide)
  rw [show fnV bx g 4 = .func (.func 48) #[] #[.pointer (some ⟨bx, 0, none⟩)] from rfl, show ((4 : Nat) : Int) = 4 from rfl] at l1
  clear hlk hbx HK0
  go_wp2_with fail
  refine (take_4 H0.out HX.out HHS.out).mono ?_
  rintro e w2 ⟨rfl, h2, hk2⟩
  replace HK := Lib.hid (HK.out.trans hk2); clear hk2
  clear H0 HX l1
  obtain ⟨t, ht⟩ : ∃ t, takeS 4 s r = t := ⟨_, rfl⟩
  have HT := Lib.hid ht
  rw [ht] at h2 HFT
  clear ht
  have H2 := Lib.hid h2; clear h2
  obtain ⟨n, hn⟩ : ∃ n, t.m.ws.length = n := ⟨_, rfl⟩
  have HRN := Lib.hid (show IsMR w2 g (t.arr A n c) by rw [← hn]; exact H2.out.blk)
  have HON := Lib.hid (show OwnF w2 base 56 3 wrC (.slice A n c) t.m.ws by rw [← hn]; exact H2.out.own)
  have HWR := Lib.hid (row_wrs (HON.out.row wrC_len))
  have HFO := Lib.hid (fun W (hw : Wrs W A n t.m.ws) => mfield_any t.m A n c W HFT.out hw 4 (by decide) (by decide))
  unfold FieldOf at HFO
  simp only [show ((4 : Nat) : Int) = 4 from rfl] at HFO
  obtain ⟨⟨fv, th⟩, hfl⟩ : ∃ x, fieldS t.m 4 = x := ⟨_, rfl⟩
  simp only [hfl] at HFO
  have HFL := Lib.hid hfl; clear hfl
  have hR := rm_range HRN.out
  obtain ⟨arrM, hM⟩ : ∃ x, t.m.arr A n c = x := ⟨_, rfl⟩
  have hsz : (Try.prog.info? 29).map (·.size) = some arrM.size := by rw [← hM]; exact info_msgL
  rw [hM] at hR HFO
  clear hM
  have HN := Lib.hid hn; clear hn
  have HQ := Lib.hid hR; clear hR
  clear hl hl2
  go_wp2_with (first | refine wpList_load_part rfl 29 _ rfl g 0 rfl arrM _ HQ.out Try.underlying29 rfl hsz ?_ | fail)
  refine (HFO.out _ HWR.out).mono ?_
  rintro e w3 ⟨rfl, hB⟩
  have HK3 := Lib.hid (Keeps.of_below (Only g) hB)
  have HR3 := Lib.hid (HRN.out.below hB)
  have HO3 := Lib.hid (HON.out.below hB)
  replace HK := Lib.hid (HK.out.below hB); clear hB HK3
  have c19 := HR3.out.cell (RM.a19 t A n c)
  have f19 := HR3.out.f 19
  have hgl := HR3.out.lt
  obtain ⟨eb, heb⟩ : ∃ x, (fv.toList == s.toList) = x := ⟨_, rfl⟩
  obtain ⟨hd, hhd⟩ : ∃ x, headS 4 = x := ⟨_, rfl⟩
  have HHD := Lib.hid (head_any 4 w3 (by decide))
  rw [hhd, show ((4 : Nat) : Int) = 4 from rfl] at HHD
  have HEB := Lib.hid heb
  have HHE := Lib.hid hhd
  clear HFO HWR HQ hsz hhd x1 x2 x3 x4
  obtain ⟨q, hq⟩ : ∃ q, t.bad = q := ⟨_, rfl⟩
  rw [hq] at c19
  have HQ2 := Lib.hid hq; clear hq
  cases q with
  | true =>
    go_wp2
    go_end0
    rw [HT.out]
    refine ⟨rfl, ⟨?_, ?_⟩, HK.out.own 19 _⟩
    · show IsMR _ g (RM.arr ⟨t.m, t.left, t.crit, seenB 4 h s t.m t.bad⟩ A t.m.ws.length c)
      rw [HN.out, show seenB 4 h s t.m t.bad = true by unfold seenB; simp [HFL.out, HEB.out, HHE.out, HQ2.out], ← seen_set t]
      exact HR3.out.set 19 _
    · show OwnF _ base 56 3 wrC (.slice A t.m.ws.length c) t.m.ws
      rw [HN.out]
      exact HO3.out.mr HR3.out (by decide) ((Keeps.refl (Only g) _).own 19 _)
  | false =>
    cases th with
    | false =>
      go_wp2
      go_end0
      rw [HT.out]
      refine ⟨rfl, ⟨?_, ?_⟩, HK.out.own 19 _⟩
      · show IsMR _ g (RM.arr ⟨t.m, t.left, t.crit, seenB 4 h s t.m t.bad⟩ A t.m.ws.length c)
        rw [HN.out, show seenB 4 h s t.m t.bad = true by unfold seenB; simp [HFL.out, HEB.out, HHE.out, HQ2.out], ← seen_set t]
        exact HR3.out.set 19 _
      · show OwnF _ base 56 3 wrC (.slice A t.m.ws.length c) t.m.ws
        rw [HN.out]
        exact HO3.out.mr HR3.out (by decide) ((Keeps.refl (Only g) _).own 19 _)
    | true =>
      cases eb with
      | false =>
        go_wp2
        go_end0
        rw [HT.out]
        refine ⟨rfl, ⟨?_, ?_⟩, HK.out.own 19 _⟩
        · show IsMR _ g (RM.arr ⟨t.m, t.left, t.crit, seenB 4 h s t.m t.bad⟩ A t.m.ws.length c)
          rw [HN.out, show seenB 4 h s t.m t.bad = true by unfold seenB; simp [HFL.out, HEB.out, HHE.out, HQ2.out], ← seen_set t]
          exact HR3.out.set 19 _
        · show OwnF _ base 56 3 wrC (.slice A t.m.ws.length c) t.m.ws
          rw [HN.out]
          exact HO3.out.mr HR3.out (by decide) ((Keeps.refl (Only g) _).own 19 _)
      | true =>
        by_cases hq : hd = h
        · have y1 : ((hd : Int) == (h : Int)) = true := beq_iff_eq.2 (by omega)
          have y2 : (hd == h) = true := by simpa using hq
          have y3 : ((hd : Int) != (h : Int)) = false := bne_eq_false_iff_eq.2 (by omega)
          have HHQ := Lib.hid hq; clear hq
          go_wp2_with fail
          refine HHD.out.mono ?_
          rintro e w9 ⟨rfl, rfl⟩
          go_wp2
          go_end0
          rw [HT.out]
          refine ⟨rfl, ⟨?_, ?_⟩, HK.out.own 19 _⟩
          · show IsMR _ g (RM.arr ⟨t.m, t.left, t.crit, seenB 4 h s t.m t.bad⟩ A t.m.ws.length c)
            rw [HN.out, show seenB 4 h s t.m t.bad = false by unfold seenB; simp [HFL.out, HEB.out, HHE.out, HQ2.out, HHQ.out], ← seen_set t]
            exact HR3.out.set 19 _
          · show OwnF _ base 56 3 wrC (.slice A t.m.ws.length c) t.m.ws
            rw [HN.out]
            exact HO3.out.mr HR3.out (by decide) ((Keeps.refl (Only g) _).own 19 _)
        · have y1 : ((hd : Int) == (h : Int)) = false := beq_eq_false_iff_ne.2 (by omega)
          have y2 : (hd == h) = false := by simpa using hq
          have y3 : ((hd : Int) != (h : Int)) = true := bne_iff_ne.2 (by omega)
          have HHQ := Lib.hid hq; clear hq
          go_wp2_with fail
          refine HHD.out.mono ?_
          rintro e w9 ⟨rfl, rfl⟩
          go_wp2
          go_end0
          rw [HT.out]
          refine ⟨rfl, ⟨?_, ?_⟩, HK.out.own 19 _⟩
          · show IsMR _ g (RM.arr ⟨t.m, t.left, t.crit, seenB 4 h s t.m t.bad⟩ A t.m.ws.length c)
            rw [HN.out, show seenB 4 h s t.m t.bad = true by unfold seenB; simp [HFL.out, HEB.out, HHE.out, HQ2.out, HHQ.out], ← seen_set t]
            exact HR3.out.set 19 _
          · show OwnF _ base 56 3 wrC (.slice A t.m.ws.length c) t.m.ws
            rw [HN.out]
            exact HO3.out.mr HR3.out (by decide) ((Keeps.refl (Only g) _).own 19 _)
set_option maxRecDepth 100000 in
set_option maxHeartbeats 8000000 in
theorem rd_field_5 (w : World) (base g h last : Nat) (s : ByteArray) (r : RM) (A : Option Addr) (c : Nat) (H : IsRM w base g r A c) (hk : h / 2 = 5) (hl : 5 ≤ last) (hl2 : last ≤ 12) (hh : h < 18446744073709551616) (hs : s.size ≤ 1000000) (hf : (takeS 5 s r).m.Fit) (hb : base ≤ w.heap.size) :
    Calls Try.prog 32 #[.pointer (some ⟨g, 0, none⟩), .int .u64 (h : Int), .string s, .int .i64 (last : Int)] w fun e w' => e = .returned (.tuple #[]) ∧ IsRM w' base g ⟨(takeS 5 s r).m, (takeS 5 s r).left, (takeS 5 s r).crit, seenB 5 h s (takeS 5 s r).m (takeS 5 s r).bad⟩ A c ∧ Keeps (Only g) w w' := by
  have HG := Lib.hid H.blk.lt
  have H0 := Lib.hid H; clear H
  have HBS := Lib.hid hb; clear hb
  have x1 : (h : Int) / 2 = 5 := by omega
  have x2 : Int.tdiv (h : Int) 2 = 5 := by rw [Int.tdiv_eq_ediv_of_nonneg (by omega)]; omega
  have x3 : IntKind.u64.wrap (last : Int) = (last : Int) := wrap_u64_nat (by omega)
  have x4 : decide ((last : Int) < 5) = false := by simp; omega
  have HK0 := Lib.hid (fields_any g w)
  have HHH := Lib.hid hh
  have HHS := Lib.hid hs
  have HFT := Lib.hid hf
  clear hf hs hh
  go_enter Try.func32, Try.ntmps32
  go_wp2_with fail
  refine HK0.out.mono ?_
  rintro e w1 ⟨mb, bx, rfl, hx, hlk, hbx, hB⟩
  replace H0 := Lib.hid (H0.out.below hB)
  have HK := Lib.hid (Keeps.of_below (Only g) hB); clear hB
  have HX := Lib.hid hx; clear hx
  have l1 := hlk 5 (by decide) (by decide)
  rw [show fnV bx g 5 = .func (.func 49) #[] #[.pointer (some ⟨bx, 0, none⟩)] from rfl, show ((5 : Nat) : Int) = 5 from rfl] at l1
  clear hlk hbx HK0
  go_wp2_with fail
  refine (take_5 H0.out HX.out HHS.out).mono ?_
  rintro e w2 ⟨rfl, h2, hk2⟩
  replace HK := Lib.hid (HK.out.trans hk2); clear hk2
  clear H0 HX l1
  obtain ⟨t, ht⟩ : ∃ t, takeS 5 s r = t := ⟨_, rfl⟩
  have HT := Lib.hid ht
  rw [ht] at h2 HFT
  clear ht
  have H2 := Lib.hid h2; clear h2
  obtain ⟨n, hn⟩ : ∃ n, t.m.ws.length = n := ⟨_, rfl⟩
  have HRN := Lib.hid (show IsMR w2 g (t.arr A n c) by rw [← hn]; exact H2.out.blk)
  have HON := Lib.hid (show OwnF w2 base 56 3 wrC (.slice A n c) t.m.ws by rw [← hn]; exact H2.out.own)
  have HWR := Lib.hid (row_wrs (HON.out.row wrC_len))
  have HFO := Lib.hid (fun W (hw : Wrs W A n t.m.ws) => mfield_any t.m A n c W HFT.out hw 5 (by decide) (by decide))
  unfold FieldOf at HFO
  simp only [show ((5 : Nat) : Int) = 5 from rfl] at HFO
  obtain ⟨⟨fv, th⟩, hfl⟩ : ∃ x, fieldS t.m 5 = x := ⟨_, rfl⟩
  simp only [hfl] at HFO
  have HFL := Lib.hid hfl; clear hfl
  have hR := rm_range HRN.out
  obtain ⟨arrM, hM⟩ : ∃ x, t.m.arr A n c = x := ⟨_, rfl⟩
  have hsz : (Try.prog.info? 29).map (·.size) = some arrM.size := by rw [← hM]; exact info_msgL
  rw [hM] at hR HFO
  clear hM
  have HN := Lib.hid hn; clear hn
  have HQ := Lib.hid hR; clear hR
  clear hl hl2
  go_wp2_with (first | refine wpList_load_part rfl 29 _ rfl g 0 rfl arrM _ HQ.out Try.underlying29 rfl hsz ?_ | fail)
  refine (HFO.out _ HWR.out).mono ?_
  rintro e w3 ⟨rfl, hB⟩
  have HK3 := Lib.hid (Keeps.of_below (Only g) hB)
  have HR3 := Lib.hid (HRN.out.below hB)
  have HO3 := Lib.hid (HON.out.below hB)
  replace HK := Lib.hid (HK.out.below hB); clear hB HK3
  have c19 := HR3.out.cell (RM.a19 t A n c)
  have f19 := HR3.out.f 19
  have hgl := HR3.out.lt
  obtain ⟨eb, heb⟩ : ∃ x, (fv.toList == s.toList) = x := ⟨_, rfl⟩
  obtain ⟨hd, hhd⟩ : ∃ x, headS 5 = x := ⟨_, rfl⟩
  have HHD := Lib.hid (head_any 5 w3 (by decide))
  rw [hhd, show ((5 : Nat) : Int) = 5 from rfl] at HHD
  have HEB := Lib.hid heb
  have HHE := Lib.hid hhd
  clear HFO HWR HQ hsz hhd x1 x2 x3 x4
  obtain ⟨q, hq⟩ : ∃ q, t.bad = q := ⟨_, rfl⟩
  rw [hq] at c19
  have HQ2 := Lib.hid hq; clear hq
  cases q with
  | true =>
    go_wp2
    go_end0
    rw [HT.out]
    refine ⟨rfl, ⟨?_, ?_⟩, HK.out.own 19 _⟩
    · show IsMR _ g (RM.arr ⟨t.m, t.left, t.crit, seenB 5 h s t.m t.bad⟩ A t.m.ws.length c)
      rw [HN.out, show seenB 5 h s t.m t.bad = true by unfold seenB; simp [HFL.out, HEB.out, HHE.out, HQ2.out], ← seen_set t]
      exact HR3.out.set 19 _
    · show OwnF _ base 56 3 wrC (.slice A t.m.ws.length c) t.m.ws
      rw [HN.out]
      exact HO3.out.mr HR3.out (by decide) ((Keeps.refl (Only g) _).own 19 _)
  | false =>
    cases th with
    | false =>
      go_wp2
      go_end0
      rw [HT.out]
      refine ⟨rfl, ⟨?_, ?_⟩, HK.out.own 19 _⟩
      · show IsMR _ g (RM.arr ⟨t.m, t.left, t.crit, seenB 5 h s t.m t.bad⟩ A t.m.ws.length c)
        rw [HN.out, show seenB 5 h s t.m t.bad = true by unfold seenB; simp [HFL.out, HEB.out, HHE.out, HQ2.out], ← seen_set t]
        exact HR3.out.set 19 _
      · show OwnF _ base 56 3 wrC (.slice A t.m.ws.length c) t.m.ws
        rw [HN.out]
        exact HO3.out.mr HR3.out (by decide) ((Keeps.refl (Only g) _).own 19 _)
    | true =>
      cases eb with
      | false =>
        go_wp2
        go_end0
        rw [HT.out]
        refine ⟨rfl, ⟨?_, ?_⟩, HK.out.own 19 _⟩
        · show IsMR _ g (RM.arr ⟨t.m, t.left, t.crit, seenB 5 h s t.m t.bad⟩ A t.m.ws.length c)
          rw [HN.out, show seenB 5 h s t.m t.bad = true by unfold seenB; simp [HFL.out, HEB.out, HHE.out, HQ2.out], ← seen_set t]
          exact HR3.out.set 19 _
        · show OwnF _ base 56 3 wrC (.slice A t.m.ws.length c) t.m.ws
          rw [HN.out]
          exact HO3.out.mr HR3.out (by decide) ((Keeps.refl (Only g) _).own 19 _)
      | true =>
        by_cases hq : hd = h
        · have y1 : ((hd : Int) == (h : Int)) = true := beq_iff_eq.2 (by omega)
          have y2 : (hd == h) = true := by simpa using hq
          have y3 : ((hd : Int) != (h : Int)) = false := bne_eq_false_iff_eq.2 (by omega)
          have HHQ := Lib.hid hq; clear hq
          go_wp2_with fail
          refine HHD.out.mono ?_
          rintro e w9 ⟨rfl, rfl⟩
          go_wp2
          go_end0
          rw [HT.out]
          refine ⟨rfl, ⟨?_, ?_⟩, HK.out.own 19 _⟩
          · show IsMR _ g (RM.arr ⟨t.m, t.left, t.crit, seenB 5 h s t.m t.bad⟩ A t.m.ws.length c)
            rw [HN.out, show seenB 5 h s t.m t.bad = false by unfold seenB; simp [HFL.out, HEB.out, HHE.out, HQ2.out, HHQ.out], ← seen_set t]
            exact HR3.out.set 19 _
          · show OwnF _ base 56 3 wrC (.slice A t.m.ws.length c) t.m.ws
            rw [HN.out]
            exact HO3.out.mr HR3.out (by decide) ((Keeps.refl (Only g) _).own 19 _)
        · have y1 : ((hd : Int) == (h : Int)) = false := beq_eq_false_iff_ne.2 (by omega)
          have y2 : (hd == h) = false := by simpa using hq
          have y3 : ((hd : Int) != (h : Int)) = true := bne_iff_ne.2 (by omega)
          have HHQ := Lib.hid hq; clear hq
          go_wp2_with fail
          refine HHD.out.mono ?_
          rintro e w9 ⟨rfl, rfl⟩
          go_wp2
          go_end0
          rw [HT.out]
          refine ⟨rfl, ⟨?_, ?_⟩, HK.out.own 19 _⟩
          · show IsMR _ g (RM.arr ⟨t.m, t.left, t.crit, seenB 5 h s t.m t.bad⟩ A t.m.ws.length c)
            rw [HN.out, show seenB 5 h s t.m t.bad = true by unfold seenB; simp [HFL.out, HEB.out, HHE.out, HQ2.out, HHQ.out], ← seen_set t]
            exact HR3.out.set 19 _
          · show OwnF _ base 56 3 wrC (.slice A t.m.ws.length c) t.m.ws
            rw [HN.out]
            exact HO3.out.mr HR3.out (by decide) ((Keeps.refl (Only g) _).own 19 _)
set_option maxRecDepth 100000 in
set_option maxHeartbeats 8000000 in
theorem rd_field_6 (w : World) (base g h last : Nat) (s : ByteArray) (r : RM) (A : Option Addr) (c : Nat) (H : IsRM w base g r A c) (hk : h / 2 = 6) (hl : 6 ≤ last) (hl2 : last ≤ 12) (hh : h < 18446744073709551616) (hs : s.size ≤ 1000000) (hf : (takeS 6 s r).m.Fit) (hb : base ≤ w.heap.size) :
    Calls Try.prog 32 #[.pointer (some ⟨g, 0, none⟩), .int .u64 (h : Int), .string s, .int .i64 (last : Int)] w fun e w' => e = .returned (.tuple #[]) ∧ IsRM w' base g ⟨(takeS 6 s r).m, (takeS 6 s r).left, (takeS 6 s r).crit, seenB 6 h s (takeS 6 s r).m (takeS 6 s r).bad⟩ A c ∧ Keeps (Only g) w w' := by
  have HG := Lib.hid H.blk.lt
  have H0 := Lib.hid H; clear H
  have HBS := Lib.hid hb; clear hb
  have x1 : (h : Int) / 2 = 6 := by omega
  have x2 : Int.tdiv (h : Int) 2 = 6 := by rw [Int.tdiv_eq_ediv_of_nonneg (by omega)]; omega
  have x3 : IntKind.u64.wrap (last : Int) = (last : Int) := wrap_u64_nat (by omega)
  have x4 : decide ((last : Int) < 6) = false := by simp; omega
  have HK0 := Lib.hid (fields_any g w)
  have HHH := Lib.hid hh
  have HHS := Lib.hid hs
  have HFT := Lib.hid hf
  clear hf hs hh
  go_enter Try.func32, Try.ntmps32
  go_wp2_with fail
  refine HK0.out.mono ?_
  rintro e w1 ⟨mb, bx, rfl, hx, hlk, hbx, hB⟩
  replace H0 := Lib.hid (H0.out.below hB)
  have HK := Lib.hid (Keeps.of_below (Only g) hB); clear hB
  have HX := Lib.hid hx; clear hx
  have l1 := hlk 6 (by decide) (by decide)
  rw [show fnV bx g 6 = .func (.func 50) #[] #[.pointer (some ⟨bx, 0, none⟩)] from rfl, show ((6 : Nat) : Int) = 6 from rfl] at l1
  clear hlk hbx HK0
  go_wp2_with fail
  refine (take_6 H0.out HX.out HHS.out).mono ?_
  rintro e w2 ⟨rfl, h2, hk2⟩
  replace HK := Lib.hid (HK.out.trans hk2); clear hk2
  clear H0 HX l1
  obtain ⟨t, ht⟩ : ∃ t, takeS 6 s r = t := ⟨_, rfl⟩
  have HT := Lib.hid ht
  rw [ht] at h2 HFT
  clear ht
  have H2 := Lib.hid h2; clear h2
  obtain ⟨n, hn⟩ : ∃ n, t.m.ws.length = n := ⟨_, rfl⟩
  have HRN := Lib.hid (show IsMR w2 g (t.arr A n c) by rw [← hn]; exact H2.out.blk)
  have HON := Lib.hid (show OwnF w2 base 56 3 wrC (.slice A n c) t.m.ws by rw [← hn]; exact H2.out.own)
  have HWR := Lib.hid (row_wrs (HON.out.row wrC_len))
  have HFO := Lib.hid (fun W (hw : Wrs W A n t.m.ws) => mfield_any t.m A n c W HFT.out hw 6 (by decide) (by decide))
  unfold FieldOf at HFO
  simp only [show ((6 : Nat) : Int) = 6 from rfl] at HFO
  obtain ⟨⟨fv, th⟩, hfl⟩ : ∃ x, fieldS t.m 6 = x := ⟨_, rfl⟩
  simp only [hfl] at HFO
  have HFL := Lib.hid hfl; clear hfl
  have hR := rm_range HRN.out
  obtain ⟨arrM, hM⟩ : ∃ x, t.m.arr A n c = x := ⟨_, rfl⟩
  have hsz : (Try.prog.info? 29).map (·.size) = some arrM.size := by rw [← hM]; exact info_msgL
  rw [hM] at hR HFO
  clear hM
  have HN := Lib.hid hn; clear hn
  have HQ := Lib.hid hR; clear hR
  clear hl hl2
  go_wp2_with (first | refine wpList_load_part rfl 29 _ rfl g 0 rfl arrM _ HQ.out Try.underlying29 rfl hsz ?_ | fail)
  refine (HFO.out _ HWR.out).mono ?_
  rintro e w3 ⟨rfl, hB⟩
  have HK3 := Lib.hid (Keeps.of_below (Only g) hB)
  have HR3 := Lib.hid (HRN.out.below hB)
  have HO3 := Lib.hid (HON.out.below hB)
  replace HK := Lib.hid (HK.out.below hB); clear hB HK3
  have c19 := HR3.out.cell (RM.a19 t A n c)
  have f19 := HR3.out.f 19
  have hgl := HR3.out.lt
  obtain ⟨eb, heb⟩ : ∃ x, (fv.toList == s.toList) = x := ⟨_, rfl⟩
  obtain ⟨hd, hhd⟩ : ∃ x, headS 6 = x := ⟨_, rfl⟩
  have HHD := Lib.hid (head_any 6 w3 (by decide))
  rw [hhd, show ((6 : Nat) : Int) = 6 from rfl] at HHD
  have HEB := Lib.hid heb
  have HHE := Lib.hid hhd
  clear HFO HWR HQ hsz hhd x1 x2 x3 x4
  obtain ⟨q, hq⟩ : ∃ q, t.bad = q := ⟨_, rfl⟩
  rw [hq] at c19
  have HQ2 := Lib.hid hq; clear hq
  cases q with
  | true =>
    go_wp2
    go_end0
    rw [HT.out]
    refine ⟨rfl, ⟨?_, ?_⟩, HK.out.own 19 _⟩
    · show IsMR _ g (RM.arr ⟨t.m, t.left, t.crit, seenB 6 h s t.m t.bad⟩ A t.m.ws.length c)
      rw [HN.out, show seenB 6 h s t.m t.bad = true by unfold seenB; simp [HFL.out, HEB.out, HHE.out, HQ2.out], ← seen_set t]
      exact HR3.out.set 19 _
    · show OwnF _ base 56 3 wrC (.slice A t.m.ws.length c) t.m.ws
      rw [HN.out]
      exact HO3.out.mr HR3.out (by decide) ((Keeps.refl (Only g) _).own 19 _)
  | false =>
    cases th with
    | false =>
      go_wp2
      go_end0
      rw [HT.out]
      refine ⟨rfl, ⟨?_, ?_⟩, HK.out.own 19 _⟩
      · show IsMR _ g (RM.arr ⟨t.m, t.left, t.crit, seenB 6 h s t.m t.bad⟩ A t.m.ws.length c)
        rw [HN.out, show seenB 6 h s t.m t.bad = true by unfold seenB; simp [HFL.out, HEB.out, HHE.out, HQ2.out], ← seen_set t]
        exact HR3.out.set 19 _
      · show OwnF _ base 56 3 wrC (.slice A t.m.ws.length c) t.m.ws
        rw [HN.out]
        exact HO3.out.mr HR3.out (by decide) ((Keeps.refl (Only g) _).own 19 _)
    | true =>
      cases eb with
      | false =>
        go_wp2
        go_end0
        rw [HT.out]
        refine ⟨rfl, ⟨?_, ?_⟩, HK.out.own 19 _⟩
        · show IsMR _ g (RM.arr ⟨t.m, t.left, t.crit, seenB 6 h s t.m t.bad⟩ A t.m.ws.length c)
          rw [HN.out, show seenB 6 h s t.m t.bad = true by unfold seenB; simp [HFL.out, HEB.out, HHE.out, HQ2.out], ← seen_set t]
          exact HR3.out.set 19 _
        · show OwnF _ base 56 3 wrC (.slice A t.m.ws.length c) t.m.ws
          rw [HN.out]
          exact HO3.out.mr HR3.out (by decide) ((Keeps.refl (Only g) _).own 19 _)
      | true =>
        by_cases hq : hd = h
        · have y1 : ((hd : Int) == (h : Int)) = true := beq_iff_eq.2 (by omega)
          have y2 : (hd == h) = true := by simpa using hq
          have y3 : ((hd : Int) != (h : Int)) = false := bne_eq_false_iff_eq.2 (by omega)
          have HHQ := Lib.hid hq; clear hq
          go_wp2_with fail
          refine HHD.out.mono ?_
          rintro e w9 ⟨rfl, rfl⟩
          go_wp2
          go_end0
          rw [HT.out]
          refine ⟨rfl, ⟨?_, ?_⟩, HK.out.own 19 _⟩
          · show IsMR _ g (RM.arr ⟨t.m, t.left, t.crit, seenB 6 h s t.m t.bad⟩ A t.m.ws.length c)
            rw [HN.out, show seenB 6 h s t.m t.bad = false by unfold seenB; simp [HFL.out, HEB.out, HHE.out, HQ2.out, HHQ.out], ← seen_set t]
            exact HR3.out.set 19 _
          · show OwnF _ base 56 3 wrC (.slice A t.m.ws.length c) t.m.ws
            rw [HN.out]
            exact HO3.out.mr HR3.out (by decide) ((Keeps.refl (Only g) _).own 19 _)
        · have y1 : ((hd : Int) == (h : Int)) = false := beq_eq_false_iff_ne.2 (by omega)
          have y2 : (hd == h) = false := by simpa using hq
          have y3 : ((hd : Int) != (h : Int)) = true := bne_iff_ne.2 (by omega)
          have HHQ := Lib.hid hq; clear hq
          go_wp2_with fail
          refine HHD.out.mono ?_
          rintro e w9 ⟨rfl, rfl⟩
          go_wp2
          go_end0
          rw [HT.out]
          refine ⟨rfl, ⟨?_, ?_⟩, HK.out.own 19 _⟩
          · show IsMR _ g (RM.arr ⟨t.m, t.left, t.crit, seenB 6 h s t.m t.bad⟩ A t.m.ws.length c)
            rw [HN.out, show seenB 6 h s t.m t.bad = true by unfold seenB; simp [HFL.out, HEB.out, HHE.out, HQ2.out, HHQ.out], ← seen_set t]
            exact HR3.out.set 19 _
          · show OwnF _ base 56 3 wrC (.slice A t.m.ws.length c) t.m.ws
            rw [HN.out]
            exact HO3.out.mr HR3.out (by decide) ((Keeps.refl (Only g) _).own 19 _)
set_option maxRecDepth 100000 in
set_option maxHeartbeats 8000000 in
theorem rd_field_7 (w : World) (base g h last : Nat) (s : ByteArray) (r : RM) (A : Option Addr) (c : Nat) (H : IsRM w base g r A c) (hk : h / 2 = 7) (hl : 7 ≤ last) (hl2 : last ≤ 12) (hh : h < 18446744073709551616) (hs : s.size ≤ 1000000) (hf : (takeS 7 s r).m.Fit) (hb : base ≤ w.heap.size) :
    Calls Try.prog 32 #[.pointer (some ⟨g, 0, none⟩), .int .u64 (h : Int), .string s, .int .i64 (last : Int)] w fun e w' => e = .returned (.tuple #[]) ∧ IsRM w' base g ⟨(takeS 7 s r).m, (takeS 7 s r).left, (takeS 7 s r).crit, seenB 7 h s (takeS 7 s r).m (takeS 7 s r).bad⟩ A c ∧ Keeps (Only g) w w' := by
  have HG := Lib.hid H.blk.lt
  have H0 := Lib.hid H; clear H
  have HBS := Lib.hid hb; clear hb
  have x1 : (h : Int) / 2 = 7 := by omega
  have x2 : Int.tdiv (h : Int) 2 = 7 := by rw [Int.tdiv_eq_ediv_of_nonneg (by omega)]; omega
  have x3 : IntKind.u64.wrap (last : Int) = (last : Int) := wrap_u64_nat (by omega)
  have x4 : decide ((last : Int) < 7) = false := by simp; omega
  have HK0 := Lib.hid (fields_any g w)
  have HHH := Lib.hid hh
  have HHS := Lib.hid hs
  have HFT := Lib.hid hf
  clear hf hs hh
  go_enter Try.func32, Try.ntmps32
  go_wp2_with fail
  refine HK0.out.mono ?_
  rintro e w1 ⟨mb, bx, rfl, hx, hlk, hbx, hB⟩
  replace H0 := Lib.hid (H0.out.below hB)
  have HK := Lib.hid (Keeps.of_below (Only g) hB); clear hB
  have HX := Lib.hid hx; clear hx
  have l1 := hlk 7 (by decide) (by decide)
  rw [show fnV bx g 7 = .func (.func 51) #[] #[.pointer (some ⟨bx, 0, none⟩)] from rfl, show ((7 : Nat) : Int) = 7 from rfl] at l1
  clear hlk hbx HK0
  go_wp2_with fail
  refine (take_7 H0.out HX.out HHS.out).mono ?_
  rintro e w2 ⟨rfl, h2, hk2⟩
  replace HK := Lib.hid (HK.out.trans hk2); clear hk2
  clear H0 HX l1
  obtain ⟨t, ht⟩ : ∃ t, takeS 7 s r = t := ⟨_, rfl⟩
  have HT := Lib.hid ht
  rw [ht] at h2 HFT
  clear ht
  have H2 := Lib.hid h2; clear h2
  obtain ⟨n, hn⟩ : ∃ n, t.m.ws.length = n := ⟨_, rfl⟩
  have HRN := Lib.hid (show IsMR w2 g (t.arr A n c) by rw [← hn]; exact H2.out.blk)
  have HON := Lib.hid (show OwnF w2 base 56 3 wrC (.slice A n c) t.m.ws by rw [← hn]; exact H2.out.own)
  have HWR := Lib.hid (row_wrs (HON.out.row wrC_len))
  have HFO := Lib.hid (fun W (hw : Wrs W A n t.m.ws) => mfield_any t.m A n c W HFT.out hw 7 (by decide) (by decide))
  unfold FieldOf at HFO
  simp only [show ((7 : Nat) : Int) = 7 from rfl] at HFO
  obtain ⟨⟨fv, th⟩, hfl⟩ : ∃ x, fieldS t.m 7 = x := ⟨_, rfl⟩
  simp only [hfl] at HFO
  have HFL := Lib.hid hfl; clear hfl
  have hR := rm_range HRN.out
  obtain ⟨arrM, hM⟩ : ∃ x, t.m.arr A n c = x := ⟨_, rfl⟩
  have hsz : (Try.prog.info? 29).map (·.size) = some arrM.size := by rw [← hM]; exact info_msgL
  rw [hM] at hR HFO
  clear hM
  have HN := Lib.hid hn; clear hn
  have HQ := Lib.hid hR; clear hR
  clear hl hl2
  go_wp2_with (first | refine wpList_load_part rfl 29 _ rfl g 0 rfl arrM _ HQ.out Try.underlying29 rfl hsz ?_ | fail)
  refine (HFO.out _ HWR.out).mono ?_
  rintro e w3 ⟨rfl, hB⟩
  have HK3 := Lib.hid (Keeps.of_below (Only g) hB)
  have HR3 := Lib.hid (HRN.out.below hB)
  have HO3 := Lib.hid (HON.out.below hB)
  replace HK := Lib.hid (HK.out.below hB); clear hB HK3
  have c19 := HR3.out.cell (RM.a19 t A n c)
  have f19 := HR3.out.f 19
  have hgl := HR3.out.lt
  obtain ⟨eb, heb⟩ : ∃ x, (fv.toList == s.toList) = x := ⟨_, rfl⟩
  obtain ⟨hd, hhd⟩ : ∃ x, headS 7 = x := ⟨_, rfl⟩
  have HHD := Lib.hid (head_any 7 w3 (by decide))
  rw [hhd, show ((7 : Nat) : Int) = 7 from rfl] at HHD
  have HEB := Lib.hid heb
  have HHE := Lib.hid hhd
  clear HFO HWR HQ hsz hhd x1 x2 x3 x4
  obtain ⟨q, hq⟩ : ∃ q, t.bad = q := ⟨_, rfl⟩
  rw [hq] at c19
  have HQ2 := Lib.hid hq; clear hq
  cases q with
  | true =>
    go_wp2
    go_end0
    rw [HT.out]
    refine ⟨rfl, ⟨?_, ?_⟩, HK.out.own 19 _⟩
    · show IsMR _ g (RM.arr ⟨t.m, t.left, t.crit, seenB 7 h s t.m t.bad⟩ A t.m.ws.length c)
      rw [HN.out, show seenB 7 h s t.m t.bad = true by unfold seenB; simp [HFL.out, HEB.out, HHE.out, HQ2.out], ← seen_set t]
      exact HR3.out.set 19 _
    · show OwnF _ base 56 3 wrC (.slice A t.m.ws.length c) t.m.ws
      rw [HN.out]
      exact HO3.out.mr HR3.out (by decide) ((Keeps.refl (Only g) _).own 19 _)
  | false =>
    cases th with
    | false =>
      go_wp2
      go_end0
      rw [HT.out]
      refine ⟨rfl, ⟨?_, ?_⟩, HK.out.own 19 _⟩
      · show IsMR _ g (RM.arr ⟨t.m, t.left, t.crit, seenB 7 h s t.m t.bad⟩ A t.m.ws.length c)
        rw [HN.out, show seenB 7 h s t.m t.bad = true by unfold seenB; simp [HFL.out, HEB.out, HHE.out, HQ2.out], ← seen_set t]
        exact HR3.out.set 19 _
      · show OwnF _ base 56 3 wrC (.slice A t.m.ws.length c) t.m.ws
        rw [HN.out]
        exact HO3.out.mr HR3.out (by decide) ((Keeps.refl (Only g) _).own 19 _)
    | true =>
      cases eb with
      | false =>
        go_wp2
        go_end0
        rw [HT.out]
        refine ⟨rfl, ⟨?_, ?_⟩, HK.out.own 19 _⟩
        · show IsMR _ g (RM.arr ⟨t.m, t.left, t.crit, seenB 7 h s t.m t.bad⟩ A t.m.ws.length c)
          rw [HN.out, show seenB 7 h s t.m t.bad = true by unfold seenB; simp [HFL.out, HEB.out, HHE.out, HQ2.out], ← seen_set t]
          exact HR3.out.set 19 _
        · show OwnF _ base 56 3 wrC (.slice A t.m.ws.length c) t.m.ws
          rw [HN.out]
          exact HO3.out.mr HR3.out (by decide) ((Keeps.refl (Only g) _).own 19 _)
      | true =>
        by_cases hq : hd = h
        · have y1 : ((hd : Int) == (h : Int)) = true := beq_iff_eq.2 (by omega)
          have y2 : (hd == h) = true := by simpa using hq
          have y3 : ((hd : Int) != (h : Int)) = false := bne_eq_false_iff_eq.2 (by omega)
          have HHQ := Lib.hid hq; clear hq
          go_wp2_with fail
          refine HHD.out.mono ?_
          rintro e w9 ⟨rfl, rfl⟩
          go_wp2
          go_end0
          rw [HT.out]
          refine ⟨rfl, ⟨?_, ?_⟩, HK.out.own 19 _⟩
          · show IsMR _ g (RM.arr ⟨t.m, t.left, t.crit, seenB 7 h s t.m t.bad⟩ A t.m.ws.length c)
            rw [HN.out, show seenB 7 h s t.m t.bad = false by unfold seenB; simp [HFL.out, HEB.out, HHE.out, HQ2.out, HHQ.out], ← seen_set t]
            exact HR3.out.set 19 _
          · show OwnF _ base 56 3 wrC (.slice A t.m.ws.length c) t.m.ws
            rw [HN.out]
            exact HO3.out.mr HR3.out (by decide) ((Keeps.refl (Only g) _).own 19 _)
        · have y1 : ((hd : Int) == (h : Int)) = false := beq_eq_false_iff_ne.2 (by omega)
          have y2 : (hd == h) = false := by simpa using hq
          have y3 : ((hd : Int) != (h : Int)) = true := bne_iff_ne.2 (by omega)
          have HHQ := Lib.hid hq; clear hq
          go_wp2_with fail
          refine HHD.out.mono ?_
          rintro e w9 ⟨rfl, rfl⟩
          go_wp2
          go_end0
          rw [HT.out]
          refine ⟨rfl, ⟨?_, ?_⟩, HK.out.own 19 _⟩
          · show IsMR _ g (RM.arr ⟨t.m, t.left, t.crit, seenB 7 h s t.m t.bad⟩ A t.m.ws.length c)
            rw [HN.out, show seenB 7 h s t.m t.bad = true by unfold seenB; simp [HFL.out, HEB.out, HHE.out, HQ2.out, HHQ.out], ← seen_set t]
            exact HR3.out.set 19 _
          · show OwnF _ base 56 3 wrC (.slice A t.m.ws.length c) t.m.ws
            rw [HN.out]
            exact HO3.out.mr HR3.out (by decide) ((Keeps.refl (Only g) _).own 19 _)
set_option maxRecDepth 100000 in
set_option maxHeartbeats 8000000 in
theorem rd_field_8 (w : World) (base g h last : Nat) (s : ByteArray) (r : RM) (A : Option Addr) (c : Nat) (H : IsRM w base g r A c) (hk : h / 2 = 8) (hl : 8 ≤ last) (hl2 : last ≤ 12) (hh : h < 18446744073709551616) (hs : s.size ≤ 1000000) (hf : (takeS 8 s r).m.Fit) (hb : base ≤ w.heap.size) :
    Calls Try.prog 32 #[.pointer (some ⟨g, 0, none⟩), .int .u64 (h : Int), .string s, .int .i64 (last : Int)] w fun e w' => e = .returned (.tuple #[]) ∧ IsRM w' base g ⟨(takeS 8 s r).m, (takeS 8 s r).left, (takeS 8 s r).crit, seenB 8 h s (takeS 8 s r).m (takeS 8 s r).bad⟩ A c ∧ Keeps (Only g) w w' := by
  have HG := Lib.hid H.blk.lt
  have H0 := Lib.hid H; clear H
  have HBS := Lib.hid hb; clear hb
  have x1 : (h : Int) / 2 = 8 := by omega
  have x2 : Int.tdiv (h : Int) 2 = 8 := by rw [Int.tdiv_eq_ediv_of_nonneg (by omega)]; omega
  have x3 : IntKind.u64.wrap (last : Int) = (last : Int) := wrap_u64_nat (by omega)
  have x4 : decide ((last : Int) < 8) = false := by simp; omega
  have HK0 := Lib.hid (fields_any g w)
  have HHH := Lib.hid hh
  have HHS := Lib.hid hs
  have HFT := Lib.hid hf
  clear hf hs hh
  go_enter Try.func32, Try.ntmps32
  go_wp2_with fail
  refine HK0.out.mono ?_
  rintro e w1 ⟨mb, bx, rfl, hx, hlk, hbx, hB⟩
  replace H0 := Lib.hid (H0.out.below hB)
  have HK := Lib.hid (Keeps.of_below (Only g) hB); clear hB
  have HX := Lib.hid hx; clear hx
  have l1 := hlk 8 (by decide) (by decide)
  rw [show fnV bx g 8 = .func (.func 52) #[.pointer (some ⟨g, 0, none⟩)] #[] from rfl, show ((8 : Nat) : Int) = 8 from rfl] at l1
  clear hlk hbx HK0
  go_wp2_with fail
  refine (take_8 H0.out HX.out HHS.out).mono ?_
  rintro e w2 ⟨rfl, h2, hk2⟩
  replace HK := Lib.hid (HK.out.trans hk2); clear hk2
  clear H0 HX l1
  obtain ⟨t, ht⟩ : ∃ t, takeS 8 s r = t := ⟨_, rfl⟩
  have HT := Lib.hid ht
  rw [ht] at h2 HFT
  clear ht
  have H2 := Lib.hid h2; clear h2
  obtain ⟨n, hn⟩ : ∃ n, t.m.ws.length = n := ⟨_, rfl⟩
  have HRN := Lib.hid (show IsMR w2 g (t.arr A n c) by rw [← hn]; exact H2.out.blk)
  have HON := Lib.hid (show OwnF w2 base 56 3 wrC (.slice A n c) t.m.ws by rw [← hn]; exact H2.out.own)
  have HWR := Lib.hid (row_wrs (HON.out.row wrC_len))
  have HFO := Lib.hid (fun W (hw : Wrs W A n t.m.ws) => mfield_any t.m A n c W HFT.out hw 8 (by decide) (by decide))
  unfold FieldOf at HFO
  simp only [show ((8 : Nat) : Int) = 8 from rfl] at HFO
  obtain ⟨⟨fv, th⟩, hfl⟩ : ∃ x, fieldS t.m 8 = x := ⟨_, rfl⟩
  simp only [hfl] at HFO
  have HFL := Lib.hid hfl; clear hfl
  have hR := rm_range HRN.out
  obtain ⟨arrM, hM⟩ : ∃ x, t.m.arr A n c = x := ⟨_, rfl⟩
  have hsz : (Try.prog.info? 29).map (·.size) = some arrM.size := by rw [← hM]; exact info_msgL
  rw [hM] at hR HFO
  clear hM
  have HN := Lib.hid hn; clear hn
  have HQ := Lib.hid hR; clear hR
  clear hl hl2
  go_wp2_with (first | refine wpList_load_part rfl 29 _ rfl g 0 rfl arrM _ HQ.out Try.underlying29 rfl hsz ?_ | fail)
  refine (HFO.out _ HWR.out).mono ?_
  rintro e w3 ⟨rfl, hB⟩
  have HK3 := Lib.hid (Keeps.of_below (Only g) hB)
  have HR3 := Lib.hid (HRN.out.below hB)
  have HO3 := Lib.hid (HON.out.below hB)
  replace HK := Lib.hid (HK.out.below hB); clear hB HK3
  have c19 := HR3.out.cell (RM.a19 t A n c)
  have f19 := HR3.out.f 19
  have hgl := HR3.out.lt
  obtain ⟨eb, heb⟩ : ∃ x, (fv.toList == s.toList) = x := ⟨_, rfl⟩
  obtain ⟨hd, hhd⟩ : ∃ x, headS 8 = x := ⟨_, rfl⟩
  have HHD := Lib.hid (head_any 8 w3 (by decide))
  rw [hhd, show ((8 : Nat) : Int) = 8 from rfl] at HHD
  have HEB := Lib.hid heb
  have HHE := Lib.hid hhd
  clear HFO HWR HQ hsz hhd x1 x2 x3 x4
  obtain ⟨q, hq⟩ : ∃ q, t.bad = q := ⟨_, rfl⟩
  rw [hq] at c19
  have HQ2 := Lib.hid hq; clear hq
  cases q with
  | true =>
    go_wp2
    go_end0
    rw [HT.out]
    refine ⟨rfl, ⟨?_, ?_⟩, HK.out.own 19 _⟩
    · show IsMR _ g (RM.arr ⟨t.m, t.left, t.crit, seenB 8 h s t.m t.bad⟩ A t.m.ws.length c)
      rw [HN.out, show seenB 8 h s t.m t.bad = true by unfold seenB; simp [HFL.out, HEB.out, HHE.out, HQ2.out], ← seen_set t]
      exact HR3.out.set 19 _
    · show OwnF _ base 56 3 wrC (.slice A t.m.ws.length c) t.m.ws
      rw [HN.out]
      exact HO3.out.mr HR3.out (by decide) ((Keeps.refl (Only g) _).own 19 _)
  | false =>
    cases th with
    | false =>
      go_wp2
      go_end0
      rw [HT.out]
      refine ⟨rfl, ⟨?_, ?_⟩, HK.out.own 19 _⟩
      · show IsMR _ g (RM.arr ⟨t.m, t.left, t.crit, seenB 8 h s t.m t.bad⟩ A t.m.ws.length c)
        rw [HN.out, show seenB 8 h s t.m t.bad = true by unfold seenB; simp [HFL.out, HEB.out, HHE.out, HQ2.out], ← seen_set t]
        exact HR3.out.set 19 _
      · show OwnF _ base 56 3 wrC (.slice A t.m.ws.length c) t.m.ws
        rw [HN.out]
        exact HO3.out.mr HR3.out (by decide) ((Keeps.refl (Only g) _).own 19 _)
    | true =>
      cases eb with
      | false =>
        go_wp2
        go_end0
        rw [HT.out]
        refine ⟨rfl, ⟨?_, ?_⟩, HK.out.own 19 _⟩
        · show IsMR _ g (RM.arr ⟨t.m, t.left, t.crit, seenB 8 h s t.m t.bad⟩ A t.m.ws.length c)
          rw [HN.out, show seenB 8 h s t.m t.bad = true by unfold seenB; simp [HFL.out, HEB.out, HHE.out, HQ2.out], ← seen_set t]
          exact HR3.out.set 19 _
        · show OwnF _ base 56 3 wrC (.slice A t.m.ws.length c) t.m.ws
          rw [HN.out]
          exact HO3.out.mr HR3.out (by decide) ((Keeps.refl (Only g) _).own 19 _)
      | true =>
        by_cases hq : hd = h
        · have y1 : ((hd : Int) == (h : Int)) = true := beq_iff_eq.2 (by omega)
          have y2 : (hd == h) = true := by simpa using hq
          have y3 : ((hd : Int) != (h : Int)) = false := bne_eq_false_iff_eq.2 (by omega)
          have HHQ := Lib.hid hq; clear hq
          go_wp2_with fail
          refine HHD.out.mono ?_
          rintro e w9 ⟨rfl, rfl⟩
          go_wp2
          go_end0
          rw [HT.out]
          refine ⟨rfl, ⟨?_, ?_⟩, HK.out.own 19 _⟩
          · show IsMR _ g (RM.arr ⟨t.m, t.left, t.crit, seenB 8 h s t.m t.bad⟩ A t.m.ws.length c)
            rw [HN.out, show seenB 8 h s t.m t.bad = false by unfold seenB; simp [HFL.out, HEB.out, HHE.out, HQ2.out, HHQ.out], ← seen_set t]
            exact HR3.out.set 19 _
          · show OwnF _ base 56 3 wrC (.slice A t.m.ws.length c) t.m.ws
            rw [HN.out]
            exact HO3.out.mr HR3.out (by decide) ((Keeps.refl (Only g) _).own 19 _)
        · have y1 : ((hd : Int) == (h : Int)) = false := beq_eq_false_iff_ne.2 (by omega)
          have y2 : (hd == h) = false := by simpa using hq
          have y3 : ((hd : Int) != (h : Int)) = true := bne_iff_ne.2 (by omega)
          have HHQ := Lib.hid hq; clear hq
          go_wp2_with fail
          refine HHD.out.mono ?_
          rintro e w9 ⟨rfl, rfl⟩
          go_wp2
          go_end0
          rw [HT.out]
          refine ⟨rfl, ⟨?_, ?_⟩, HK.out.own 19 _⟩
          · show IsMR _ g (RM.arr ⟨t.m, t.left, t.crit, seenB 8 h s t.m t.bad⟩ A t.m.ws.length c)
            rw [HN.out, show seenB 8 h s t.m t.bad = true by unfold seenB; simp [HFL.out, HEB.out, HHE.out, HQ2.out, HHQ.out], ← seen_set t]
            exact HR3.out.set 19 _
          · show OwnF _ base 56 3 wrC (.slice A t.m.ws.length c) t.m.ws
            rw [HN.out]
            exact HO3.out.mr HR3.out (by decide) ((Keeps.refl (Only g) _).own 19 _)
set_option maxRecDepth 100000 in
set_option maxHeartbeats 8000000 in
theorem rd_field_9 (w : World) (base g h last : Nat) (s : ByteArray) (r : RM) (H : IsRM w base g r none 0) (hk : h / 2 = 9) (hl : 9 ≤ last) (hl2 : last ≤ 12) (hh : h < 18446744073709551616) (hs : s.size ≤ 1000000) (hf : (takeS 9 s r).m.Fit) (hb : base ≤ w.heap.size) (h9 : r.m.ws = []) :
    Calls Try.prog 32 #[.pointer (some ⟨g, 0, none⟩), .int .u64 (h : Int), .string s, .int .i64 (last : Int)] w fun e w' => ∃ A' c', e = .returned (.tuple #[]) ∧ IsRM w' base g ⟨(takeS 9 s r).m, (takeS 9 s r).left, (takeS 9 s r).crit, seenB 9 h s (takeS 9 s r).m (takeS 9 s r).bad⟩ A' c' ∧ Keeps (Only g) w w' := by
  have HG := Lib.hid H.blk.lt
  have H0 := Lib.hid H; clear H
  have HBS := Lib.hid hb; clear hb
  have x1 : (h : Int) / 2 = 9 := by omega
  have x2 : Int.tdiv (h : Int) 2 = 9 := by rw [Int.tdiv_eq_ediv_of_nonneg (by omega)]; omega
  have x3 : IntKind.u64.wrap (last : Int) = (last : Int) := wrap_u64_nat (by omega)
  have x4 : decide ((last : Int) < 9) = false := by simp; omega
  have HK0 := Lib.hid (fields_any g w)
  have HHH := Lib.hid hh
  have HHS := Lib.hid hs
  have HFT := Lib.hid hf
  clear hf hs hh
  go_enter Try.func32, Try.ntmps32
  go_wp2_with fail
  refine HK0.out.mono ?_
  rintro e w1 ⟨mb, bx, rfl, hx, hlk, hbx, hB⟩
  replace H0 := Lib.hid (H0.out.below hB)
  have HK := Lib.hid (Keeps.of_below (Only g) hB); clear hB
  have HX := Lib.hid hx; clear hx
  have l1 := hlk 9 (by decide) (by decide)
  rw [show fnV bx g 9 = .func (.func 53) #[.pointer (some ⟨g, 0, none⟩)] #[] from rfl, show ((9 : Nat) : Int) = 9 from rfl] at l1
  clear hlk hbx HK0
  go_wp2_with fail
  refine (take_9 H0.out h9 (Nat.le_trans HBS.out HK.out.size) HHS.out).mono ?_
  rintro e w2 ⟨A, c, rfl, h2, hk2⟩
  replace HK := Lib.hid (HK.out.trans hk2); clear hk2
  clear H0 HX l1
  obtain ⟨t, ht⟩ : ∃ t, takeS 9 s r = t := ⟨_, rfl⟩
  have HT := Lib.hid ht
  rw [ht] at h2 HFT
  clear ht
  have H2 := Lib.hid h2; clear h2
  obtain ⟨n, hn⟩ : ∃ n, t.m.ws.length = n := ⟨_, rfl⟩
  have HRN := Lib.hid (show IsMR w2 g (t.arr A n c) by rw [← hn]; exact H2.out.blk)
  have HON := Lib.hid (show OwnF w2 base 56 3 wrC (.slice A n c) t.m.ws by rw [← hn]; exact H2.out.own)
  have HWR := Lib.hid (row_wrs (HON.out.row wrC_len))
  have HFO := Lib.hid (fun W (hw : Wrs W A n t.m.ws) => mfield_any t.m A n c W HFT.out hw 9 (by decide) (by decide))
  unfold FieldOf at HFO
  simp only [show ((9 : Nat) : Int) = 9 from rfl] at HFO
  obtain ⟨⟨fv, th⟩, hfl⟩ : ∃ x, fieldS t.m 9 = x := ⟨_, rfl⟩
  simp only [hfl] at HFO
  have HFL := Lib.hid hfl; clear hfl
  have hR := rm_range HRN.out
  obtain ⟨arrM, hM⟩ : ∃ x, t.m.arr A n c = x := ⟨_, rfl⟩
  have hsz : (Try.prog.info? 29).map (·.size) = some arrM.size := by rw [← hM]; exact info_msgL
  rw [hM] at hR HFO
  clear hM
  have HN := Lib.hid hn; clear hn
  have HQ := Lib.hid hR; clear hR
  clear hl hl2
  go_wp2_with (first | refine wpList_load_part rfl 29 _ rfl g 0 rfl arrM _ HQ.out Try.underlying29 rfl hsz ?_ | fail)
  refine (HFO.out _ HWR.out).mono ?_
  rintro e w3 ⟨rfl, hB⟩
  have HK3 := Lib.hid (Keeps.of_below (Only g) hB)
  have HR3 := Lib.hid (HRN.out.below hB)
  have HO3 := Lib.hid (HON.out.below hB)
  replace HK := Lib.hid (HK.out.below hB); clear hB HK3
  have c19 := HR3.out.cell (RM.a19 t A n c)
  have f19 := HR3.out.f 19
  have hgl := HR3.out.lt
  obtain ⟨eb, heb⟩ : ∃ x, (fv.toList == s.toList) = x := ⟨_, rfl⟩
  obtain ⟨hd, hhd⟩ : ∃ x, headS 9 = x := ⟨_, rfl⟩
  have HHD := Lib.hid (head_any 9 w3 (by decide))
  rw [hhd, show ((9 : Nat) : Int) = 9 from rfl] at HHD
  have HEB := Lib.hid heb
  have HHE := Lib.hid hhd
  clear HFO HWR HQ hsz hhd x1 x2 x3 x4
  obtain ⟨q, hq⟩ : ∃ q, t.bad = q := ⟨_, rfl⟩
  rw [hq] at c19
  have HQ2 := Lib.hid hq; clear hq
  cases q with
  | true =>
    go_wp2
    go_end0
    rw [HT.out]
    refine ⟨A, c, rfl, ⟨?_, ?_⟩, HK.out.own 19 _⟩
    · show IsMR _ g (RM.arr ⟨t.m, t.left, t.crit, seenB 9 h s t.m t.bad⟩ A t.m.ws.length c)
      rw [HN.out, show seenB 9 h s t.m t.bad = true by unfold seenB; simp [HFL.out, HEB.out, HHE.out, HQ2.out], ← seen_set t]
      exact HR3.out.set 19 _
    · show OwnF _ base 56 3 wrC (.slice A t.m.ws.length c) t.m.ws
      rw [HN.out]
      exact HO3.out.mr HR3.out (by decide) ((Keeps.refl (Only g) _).own 19 _)
  | false =>
    cases th with
    | false =>
      go_wp2
      go_end0
      rw [HT.out]
      refine ⟨A, c, rfl, ⟨?_, ?_⟩, HK.out.own 19 _⟩
      · show IsMR _ g (RM.arr ⟨t.m, t.left, t.crit, seenB 9 h s t.m t.bad⟩ A t.m.ws.length c)
        rw [HN.out, show seenB 9 h s t.m t.bad = true by unfold seenB; simp [HFL.out, HEB.out, HHE.out, HQ2.out], ← seen_set t]
        exact HR3.out.set 19 _
      · show OwnF _ base 56 3 wrC (.slice A t.m.ws.length c) t.m.ws
        rw [HN.out]
        exact HO3.out.mr HR3.out (by decide) ((Keeps.refl (Only g) _).own 19 _)
    | true =>
      cases eb with
      | false =>
        go_wp2
        go_end0
        rw [HT.out]
        refine ⟨A, c, rfl, ⟨?_, ?_⟩, HK.out.own 19 _⟩
        · show IsMR _ g (RM.arr ⟨t.m, t.left, t.crit, seenB 9 h s t.m t.bad⟩ A t.m.ws.length c)
          rw [HN.out, show seenB 9 h s t.m t.bad = true by unfold seenB; simp [HFL.out, HEB.out, HHE.out, HQ2.out], ← seen_set t]
          exact HR3.out.set 19 _
        · show OwnF _ base 56 3 wrC (.slice A t.m.ws.length c) t.m.ws
          rw [HN.out]
          exact HO3.out.mr HR3.out (by decide) ((Keeps.refl (Only g) _).own 19 _)
      | true =>
        by_cases hq : hd = h
        · have y1 : ((hd : Int) == (h : Int)) = true := beq_iff_eq.2 (by omega)
          have y2 : (hd == h) = true := by simpa using hq
          have y3 : ((hd : Int) != (h : Int)) = false := bne_eq_false_iff_eq.2 (by omega)
          have HHQ := Lib.hid hq; clear hq
          go_wp2_with fail
          refine HHD.out.mono ?_
          rintro e w9 ⟨rfl, rfl⟩
          go_wp2
          go_end0
          rw [HT.out]
          refine ⟨A, c, rfl, ⟨?_, ?_⟩, HK.out.own 19 _⟩
          · show IsMR _ g (RM.arr ⟨t.m, t.left, t.crit, seenB 9 h s t.m t.bad⟩ A t.m.ws.length c)
            rw [HN.out, show seenB 9 h s t.m t.bad = false by unfold seenB; simp [HFL.out, HEB.out, HHE.out, HQ2.out, HHQ.out], ← seen_set t]
            exact HR3.out.set 19 _
          · show OwnF _ base 56 3 wrC (.slice A t.m.ws.length c) t.m.ws
            rw [HN.out]
            exact HO3.out.mr HR3.out (by decide) ((Keeps.refl (Only g) _).own 19 _)
        · have y1 : ((hd : Int) == (h : Int)) = false := beq_eq_false_iff_ne.2 (by omega)
          have y2 : (hd == h) = false := by simpa using hq
          have y3 : ((hd : Int) != (h : Int)) = true := bne_iff_ne.2 (by omega)
          have HHQ := Lib.hid hq; clear hq
          go_wp2_with fail
          refine HHD.out.mono ?_
          rintro e w9 ⟨rfl, rfl⟩
          go_wp2
          go_end0
          rw [HT.out]
          refine ⟨A, c, rfl, ⟨?_, ?_⟩, HK.out.own 19 _⟩
          · show IsMR _ g (RM.arr ⟨t.m, t.left, t.crit, seenB 9 h s t.m t.bad⟩ A t.m.ws.length c)
            rw [HN.out, show seenB 9 h s t.m t.bad = true by unfold seenB; simp [HFL.out, HEB.out, HHE.out, HQ2.out, HHQ.out], ← seen_set t]
            exact HR3.out.set 19 _
          · show OwnF _ base 56 3 wrC (.slice A t.m.ws.length c) t.m.ws
            rw [HN.out]
            exact HO3.out.mr HR3.out (by decide) ((Keeps.refl (Only g) _).own 19 _)
set_option maxRecDepth 100000 in
set_option maxHeartbeats 8000000 in
theorem rd_field_10 (w : World) (base g h last : Nat) (s : ByteArray) (r : RM) (A : Option Addr) (c : Nat) (H : IsRM w base g r A c) (hk : h / 2 = 10) (hl : 10 ≤ last) (hl2 : last ≤ 12) (hh : h < 18446744073709551616) (hs : s.size ≤ 1000000) (hf : (takeS 10 s r).m.Fit) (hb : base ≤ w.heap.size) :
    Calls Try.prog 32 #[.pointer (some ⟨g, 0, none⟩), .int .u64 (h : Int), .string s, .int .i64 (last : Int)] w fun e w' => e = .returned (.tuple #[]) ∧ IsRM w' base g ⟨(takeS 10 s r).m, (takeS 10 s r).left, (takeS 10 s r).crit, seenB 10 h s (takeS 10 s r).m (takeS 10 s r).bad⟩ A c ∧ Keeps (Only g) w w' := by
  have HG := Lib.hid H.blk.lt
  have H0 := Lib.hid H; clear H
  have HBS := Lib.hid hb; clear hb
  have x1 : (h : Int) / 2 = 10 := by omega
  have x2 : Int.tdiv (h : Int) 2 = 10 := by rw [Int.tdiv_eq_ediv_of_nonneg (by omega)]; omega
  have x3 : IntKind.u64.wrap (last : Int) = (last : Int) := wrap_u64_nat (by omega)
  have x4 : decide ((last : Int) < 10) = false := by simp; omega
  have HK0 := Lib.hid (fields_any g w)
  have HHH := Lib.hid hh
  have HHS := Lib.hid hs
  have HFT := Lib.hid hf
  clear hf hs hh
  go_enter Try.func32, Try.ntmps32
  go_wp2_with fail
  refine HK0.out.mono ?_
  rintro e w1 ⟨mb, bx, rfl, hx, hlk, hbx, hB⟩
  replace H0 := Lib.hid (H0.out.below hB)
  have HK := Lib.hid (Keeps.of_below (Only g) hB); clear hB
  have HX := Lib.hid hx; clear hx
  have l1 := hlk 10 (by decide) (by decide)
  rw [show fnV bx g 10 = .func (.func 54) #[] #[.pointer (some ⟨bx, 0, none⟩)] from rfl, show ((10 : Nat) : Int) = 10 from rfl] at l1
  clear hlk hbx HK0
  go_wp2_with fail
  refine (take_10 H0.out HX.out HHS.out).mono ?_
  rintro e w2 ⟨rfl, h2, hk2⟩
  replace HK := Lib.hid (HK.out.trans hk2); clear hk2
  clear H0 HX l1
  obtain ⟨t, ht⟩ : ∃ t, takeS 10 s r = t := ⟨_, rfl⟩
  have HT := Lib.hid ht
  rw [ht] at h2 HFT
  clear ht
  have H2 := Lib.hid h2; clear h2
  obtain ⟨n, hn⟩ : ∃ n, t.m.ws.length = n := ⟨_, rfl⟩
  have HRN := Lib.hid (show IsMR w2 g (t.arr A n c) by rw [← hn]; exact H2.out.blk)
  have HON := Lib.hid (show OwnF w2 base 56 3 wrC (.slice A n c) t.m.ws by rw [← hn]; exact H2.out.own)
  have HWR := Lib.hid (row_wrs (HON.out.row wrC_len))
  have HFO := Lib.hid (fun W (hw : Wrs W A n t.m.ws) => mfield_any t.m A n c W HFT.out hw 10 (by decide) (by decide))
  unfold FieldOf at HFO
  simp only [show ((10 : Nat) : Int) = 10 from rfl] at HFO
  obtain ⟨⟨fv, th⟩, hfl⟩ : ∃ x, fieldS t.m 10 = x := ⟨_, rfl⟩
  simp only [hfl] at HFO
  have HFL := Lib.hid hfl; clear hfl
  have hR := rm_range HRN.out
  obtain ⟨arrM, hM⟩ : ∃ x, t.m.arr A n c = x := ⟨_, rfl⟩
  have hsz : (Try.prog.info? 29).map (·.size) = some arrM.size := by rw [← hM]; exact info_msgL
  rw [hM] at hR HFO
  clear hM
  have HN := Lib.hid hn; clear hn
  have HQ := Lib.hid hR; clear hR
  clear hl hl2
  go_wp2_with (first | refine wpList_load_part rfl 29 _ rfl g 0 rfl arrM _ HQ.out Try.underlying29 rfl hsz ?_ | fail)
  refine (HFO.out _ HWR.out).mono ?_
  rintro e w3 ⟨rfl, hB⟩
  have HK3 := Lib.hid (Keeps.of_below (Only g) hB)
  have HR3 := Lib.hid (HRN.out.below hB)
  have HO3 := Lib.hid (HON.out.below hB)
  replace HK := Lib.hid (HK.out.below hB); clear hB HK3
  have c19 := HR3.out.cell (RM.a19 t A n c)
  have f19 := HR3.out.f 19
  have hgl := HR3.out.lt
  obtain ⟨eb, heb⟩ : ∃ x, (fv.toList == s.toList) = x := ⟨_, rfl⟩
  obtain ⟨hd, hhd⟩ : ∃ x, headS 10 = x := ⟨_, rfl⟩
  have HHD := Lib.hid (head_any 10 w3 (by decide))
  rw [hhd, show ((10 : Nat) : Int) = 10 from rfl] at HHD
  have HEB := Lib.hid heb
  have HHE := Lib.hid hhd
  clear HFO HWR HQ hsz hhd x1 x2 x3 x4
  obtain ⟨q, hq⟩ : ∃ q, t.bad = q := ⟨_, rfl⟩
  rw [hq] at c19
  have HQ2 := Lib.hid hq; clear hq
  cases q with
  | true =>
    go_wp2
    go_end0
    rw [HT.out]
    refine ⟨rfl, ⟨?_, ?_⟩, HK.out.own 19 _⟩
    · show IsMR _ g (RM.arr ⟨t.m, t.left, t.crit, seenB 10 h s t.m t.bad⟩ A t.m.ws.length c)
      rw [HN.out, show seenB 10 h s t.m t.bad = true by unfold seenB; simp [HFL.out, HEB.out, HHE.out, HQ2.out], ← seen_set t]
      exact HR3.out.set 19 _
    · show OwnF _ base 56 3 wrC (.slice A t.m.ws.length c) t.m.ws
      rw [HN.out]
      exact HO3.out.mr HR3.out (by decide) ((Keeps.refl (Only g) _).own 19 _)
  | false =>
    cases th with
    | false =>
      go_wp2
      go_end0
      rw [HT.out]
      refine ⟨rfl, ⟨?_, ?_⟩, HK.out.own 19 _⟩
      · show IsMR _ g (RM.arr ⟨t.m, t.left, t.crit, seenB 10 h s t.m t.bad⟩ A t.m.ws.length c)
        rw [HN.out, show seenB 10 h s t.m t.bad = true by unfold seenB; simp [HFL.out, HEB.out, HHE.out, HQ2.out], ← seen_set t]
        exact HR3.out.set 19 _
      · show OwnF _ base 56 3 wrC (.slice A t.m.ws.length c) t.m.ws
        rw [HN.out]
        exact HO3.out.mr HR3.out (by decide) ((Keeps.refl (Only g) _).own 19 _)
    | true =>
      cases eb with
      | false =>
        go_wp2
        go_end0
        rw [HT.out]
        refine ⟨rfl, ⟨?_, ?_⟩, HK.out.own 19 _⟩
        · show IsMR _ g (RM.arr ⟨t.m, t.left, t.crit, seenB 10 h s t.m t.bad⟩ A t.m.ws.length c)
          rw [HN.out, show seenB 10 h s t.m t.bad = true by unfold seenB; simp [HFL.out, HEB.out, HHE.out, HQ2.out], ← seen_set t]
          exact HR3.out.set 19 _
        · show OwnF _ base 56 3 wrC (.slice A t.m.ws.length c) t.m.ws
          rw [HN.out]
          exact HO3.out.mr HR3.out (by decide) ((Keeps.refl (Only g) _).own 19 _)
      | true =>
        by_cases hq : hd = h
        · have y1 : ((hd : Int) == (h : Int)) = true := beq_iff_eq.2 (by omega)
          have y2 : (hd == h) = true := by simpa using hq
          have y3 : ((hd : Int) != (h : Int)) = false := bne_eq_false_iff_eq.2 (by omega)
          have HHQ := Lib.hid hq; clear hq
          go_wp2_with fail
          refine HHD.out.mono ?_
          rintro e w9 ⟨rfl, rfl⟩
          go_wp2
          go_end0
          rw [HT.out]
          refine ⟨rfl, ⟨?_, ?_⟩, HK.out.own 19 _⟩
          · show IsMR _ g (RM.arr ⟨t.m, t.left, t.crit, seenB 10 h s t.m t.bad⟩ A t.m.ws.length c)
            rw [HN.out, show seenB 10 h s t.m t.bad = false by unfold seenB; simp [HFL.out, HEB.out, HHE.out, HQ2.out, HHQ.out], ← seen_set t]
            exact HR3.out.set 19 _
          · show OwnF _ base 56 3 wrC (.slice A t.m.ws.length c) t.m.ws
            rw [HN.out]
            exact HO3.out.mr HR3.out (by decide) ((Keeps.refl (Only g) _).own 19 _)
        · have y1 : ((hd : Int) == (h : Int)) = false := beq_eq_false_iff_ne.2 (by omega)
          have y2 : (hd == h) = false := by simpa using hq
          have y3 : ((hd : Int) != (h : Int)) = true := bne_iff_ne.2 (by omega)
          have HHQ := Lib.hid hq; clear hq
          go_wp2_with fail
          refine HHD.out.mono ?_
          rintro e w9 ⟨rfl, rfl⟩
          go_wp2
          go_end0
          rw [HT.out]
          refine ⟨rfl, ⟨?_, ?_⟩, HK.out.own 19 _⟩
          · show IsMR _ g (RM.arr ⟨t.m, t.left, t.crit, seenB 10 h s t.m t.bad⟩ A t.m.ws.length c)
            rw [HN.out, show seenB 10 h s t.m t.bad = true by unfold seenB; simp [HFL.out, HEB.out, HHE.out, HQ2.out, HHQ.out], ← seen_set t]
            exact HR3.out.set 19 _
          · show OwnF _ base 56 3 wrC (.slice A t.m.ws.length c) t.m.ws
            rw [HN.out]
            exact HO3.out.mr HR3.out (by decide) ((Keeps.refl (Only g) _).own 19 _)
set_option maxRecDepth 100000 in
set_option maxHeartbeats 8000000 in
theorem rd_field_11 (w : World) (base g h last : Nat) (s : ByteArray) (r : RM) (A : Option Addr) (c : Nat) (H : IsRM w base g r A c) (hk : h / 2 = 11) (hl : 11 ≤ last) (hl2 : last ≤ 12) (hh : h < 18446744073709551616) (hs : s.size ≤ 1000000) (hf : (takeS 11 s r).m.Fit) (hb : base ≤ w.heap.size) :
    Calls Try.prog 32 #[.pointer (some ⟨g, 0, none⟩), .int .u64 (h : Int), .string s, .int .i64 (last : Int)] w fun e w' => e = .returned (.tuple #[]) ∧ IsRM w' base g ⟨(takeS 11 s r).m, (takeS 11 s r).left, (takeS 11 s r).crit, seenB 11 h s (takeS 11 s r).m (takeS 11 s r).bad⟩ A c ∧ Keeps (Only g) w w' := by
  have HG := Lib.hid H.blk.lt
  have H0 := Lib.hid H; clear H
  have HBS := Lib.hid hb; clear hb
  have x1 : (h : Int) / 2 = 11 := by omega
  have x2 : Int.tdiv (h : Int) 2 = 11 := by rw [Int.tdiv_eq_ediv_of_nonneg (by omega)]; omega
  have x3 : IntKind.u64.wrap (last : Int) = (last : Int) := wrap_u64_nat (by omega)
  have x4 : decide ((last : Int) < 11) = false := by simp; omega
  have HK0 := Lib.hid (fields_any g w)
  have HHH := Lib.hid hh
  have HHS := Lib.hid hs
  have HFT := Lib.hid hf
  clear hf hs hh
  go_enter Try.func32, Try.ntmps32
  go_wp2_with fail
  refine HK0.out.mono ?_
  rintro e w1 ⟨mb, bx, rfl, hx, hlk, hbx, hB⟩
  replace H0 := Lib.hid (H0.out.below hB)
  have HK := Lib.hid (Keeps.of_below (Only g) hB); clear hB
  have HX := Lib.hid hx; clear hx
  have l1 := hlk 11 (by decide) (by decide)
  rw [show fnV bx g 11 = .func (.func 55) #[] #[.pointer (some ⟨bx, 0, none⟩)] from rfl, show ((11 : Nat) : Int) = 11 from rfl] at l1
  clear hlk hbx HK0
  go_wp2_with fail
  refine (take_11 H0.out HX.out HHS.out).mono ?_
  rintro e w2 ⟨rfl, h2, hk2⟩
  replace HK := Lib.hid (HK.out.trans hk2); clear hk2
  clear H0 HX l1
  obtain ⟨t, ht⟩ : ∃ t, takeS 11 s r = t := ⟨_, rfl⟩
  have HT := Lib.hid ht
  rw [ht] at h2 HFT
  clear ht
  have H2 := Lib.hid h2; clear h2
  obtain ⟨n, hn⟩ : ∃ n, t.m.ws.length = n := ⟨_, rfl⟩
  have HRN := Lib.hid (show IsMR w2 g (t.arr A n c) by rw [← hn]; exact H2.out.blk)
  have HON := Lib.hid (show OwnF w2 base 56 3 wrC (.slice A n c) t.m.ws by rw [← hn]; exact H2.out.own)
  have HWR := Lib.hid (row_wrs (HON.out.row wrC_len))
  have HFO := Lib.hid (fun W (hw : Wrs W A n t.m.ws) => mfield_any t.m A n c W HFT.out hw 11 (by decide) (by decide))
  unfold FieldOf at HFO
  simp only [show ((11 : Nat) : Int) = 11 from rfl] at HFO
  obtain ⟨⟨fv, th⟩, hfl⟩ : ∃ x, fieldS t.m 11 = x := ⟨_, rfl⟩
  simp only [hfl] at HFO
  have HFL := Lib.hid hfl; clear hfl
  have hR := rm_range HRN.out
  obtain ⟨arrM, hM⟩ : ∃ x, t.m.arr A n c = x := ⟨_, rfl⟩
  have hsz : (Try.prog.info? 29).map (·.size) = some arrM.size := by rw [← hM]; exact info_msgL
  rw [hM] at hR HFO
  clear hM
  have HN := Lib.hid hn; clear hn
  have HQ := Lib.hid hR; clear hR
  clear hl hl2
  go_wp2_with (first | refine wpList_load_part rfl 29 _ rfl g 0 rfl arrM _ HQ.out Try.underlying29 rfl hsz ?_ | fail)
  refine (HFO.out _ HWR.out).mono ?_
  rintro e w3 ⟨rfl, hB⟩
  have HK3 := Lib.hid (Keeps.of_below (Only g) hB)
  have HR3 := Lib.hid (HRN.out.below hB)
  have HO3 := Lib.hid (HON.out.below hB)
  replace HK := Lib.hid (HK.out.below hB); clear hB HK3
  have c19 := HR3.out.cell (RM.a19 t A n c)
  have f19 := HR3.out.f 19
  have hgl := HR3.out.lt
  obtain ⟨eb, heb⟩ : ∃ x, (fv.toList == s.toList) = x := ⟨_, rfl⟩
  obtain ⟨hd, hhd⟩ : ∃ x, headS 11 = x := ⟨_, rfl⟩
  have HHD := Lib.hid (head_any 11 w3 (by decide))
  rw [hhd, show ((11 : Nat) : Int) = 11 from rfl] at HHD
  have HEB := Lib.hid heb
  have HHE := Lib.hid hhd
  clear HFO HWR HQ hsz hhd x1 x2 x3 x4
  obtain ⟨q, hq⟩ : ∃ q, t.bad = q := ⟨_, rfl⟩
  rw [hq] at c19
  have HQ2 := Lib.hid hq; clear hq
  cases q with
  | true =>
    go_wp2
    go_end0
    rw [HT.out]
    refine ⟨rfl, ⟨?_, ?_⟩, HK.out.own 19 _⟩
    · show IsMR _ g (RM.arr ⟨t.m, t.left, t.crit, seenB 11 h s t.m t.bad⟩ A t.m.ws.length c)
      rw [HN.out, show seenB 11 h s t.m t.bad = true by unfold seenB; simp [HFL.out, HEB.out, HHE.out, HQ2.out], ← seen_set t]
      exact HR3.out.set 19 _
    · show OwnF _ base 56 3 wrC (.slice A t.m.ws.length c) t.m.ws
      rw [HN.out]
      exact HO3.out.mr HR3.out (by decide) ((Keeps.refl (Only g) _).own 19 _)
  | false =>
    cases th with
    | false =>
      go_wp2
      go_end0
      rw [HT.out]
      refine ⟨rfl, ⟨?_, ?_⟩, HK.out.own 19 _⟩
      · show IsMR _ g (RM.arr ⟨t.m, t.left, t.crit, seenB 11 h s t.m t.bad⟩ A t.m.ws.length c)
        rw [HN.out, show seenB 11 h s t.m t.bad = true by unfold seenB; simp [HFL.out, HEB.out, HHE.out, HQ2.out], ← seen_set t]
        exact HR3.out.set 19 _
      · show OwnF _ base 56 3 wrC (.slice A t.m.ws.length c) t.m.ws
        rw [HN.out]
        exact HO3.out.mr HR3.out (by decide) ((Keeps.refl (Only g) _).own 19 _)
    | true =>
      cases eb with
      | false =>
        go_wp2
        go_end0
        rw [HT.out]
        refine ⟨rfl, ⟨?_, ?_⟩, HK.out.own 19 _⟩
        · show IsMR _ g (RM.arr ⟨t.m, t.left, t.crit, seenB 11 h s t.m t.bad⟩ A t.m.ws.length c)
          rw [HN.out, show seenB 11 h s t.m t.bad = true by unfold seenB; simp [HFL.out, HEB.out, HHE.out, HQ2.out], ← seen_set t]
          exact HR3.out.set 19 _
        · show OwnF _ base 56 3 wrC (.slice A t.m.ws.length c) t.m.ws
          rw [HN.out]
          exact HO3.out.mr HR3.out (by decide) ((Keeps.refl (Only g) _).own 19 _)
      | true =>
        by_cases hq : hd = h
        · have y1 : ((hd : Int) == (h : Int)) = true := beq_iff_eq.2 (by omega)
          have y2 : (hd == h) = true := by simpa using hq
          have y3 : ((hd : Int) != (h : Int)) = false := bne_eq_false_iff_eq.2 (by omega)
          have HHQ := Lib.hid hq; clear hq
          go_wp2_with fail
          refine HHD.out.mono ?_
          rintro e w9 ⟨rfl, rfl⟩
          go_wp2
          go_end0
          rw [HT.out]
          refine ⟨rfl, ⟨?_, ?_⟩, HK.out.own 19 _⟩
          · show IsMR _ g (RM.arr ⟨t.m, t.left, t.crit, seenB 11 h s t.m t.bad⟩ A t.m.ws.length c)
            rw [HN.out, show seenB 11 h s t.m t.bad = false by unfold seenB; simp [HFL.out, HEB.out, HHE.out, HQ2.out, HHQ.out], ← seen_set t]
            exact HR3.out.set 19 _
          · show OwnF _ base 56 3 wrC (.slice A t.m.ws.length c) t.m.ws
            rw [HN.out]
            exact HO3.out.mr HR3.out (by decide) ((Keeps.refl (Only g) _).own 19 _)
        · have y1 : ((hd : Int) == (h : Int)) = false := beq_eq_false_iff_ne.2 (by omega)
          have y2 : (hd == h) = false := by simpa using hq
          have y3 : ((hd : Int) != (h : Int)) = true := bne_iff_ne.2 (by omega)
          have HHQ := Lib.hid hq; clear hq
          go_wp2_with fail
          refine HHD.out.mono ?_
          rintro e w9 ⟨rfl, rfl⟩
          go_wp2
          go_end0
          rw [HT.out]
          refine ⟨rfl, ⟨?_, ?_⟩, HK.out.own 19 _⟩
          · show IsMR _ g (RM.arr ⟨t.m, t.left, t.crit, seenB 11 h s t.m t.bad⟩ A t.m.ws.length c)
            rw [HN.out, show seenB 11 h s t.m t.bad = true by unfold seenB; simp [HFL.out, HEB.out, HHE.out, HQ2.out, HHQ.out], ← seen_set t]
            exact HR3.out.set 19 _
          · show OwnF _ base 56 3 wrC (.slice A t.m.ws.length c) t.m.ws
            rw [HN.out]
            exact HO3.out.mr HR3.out (by decide) ((Keeps.refl (Only g) _).own 19 _)
set_option maxRecDepth 100000 in
set_option maxHeartbeats 8000000 in
theorem rd_field_12 (w : World) (base g h last : Nat) (s : ByteArray) (r : RM) (A : Option Addr) (c : Nat) (H : IsRM w base g r A c) (hk : h / 2 = 12) (hl : 12 ≤ last) (hl2 : last ≤ 12) (hh : h < 18446744073709551616) (hs : s.size ≤ 1000000) (hf : (takeS 12 s r).m.Fit) (hb : base ≤ w.heap.size) :
    Calls Try.prog 32 #[.pointer (some ⟨g, 0, none⟩), .int .u64 (h : Int), .string s, .int .i64 (last : Int)] w fun e w' => e = .returned (.tuple #[]) ∧ IsRM w' base g ⟨(takeS 12 s r).m, (takeS 12 s r).left, (takeS 12 s r).crit, seenB 12 h s (takeS 12 s r).m (takeS 12 s r).bad⟩ A c ∧ Keeps (Only g) w w' := by
  have HG := Lib.hid H.blk.lt
  have H0 := Lib.hid H; clear H
  have HBS := Lib.hid hb; clear hb
  have x1 : (h : Int) / 2 = 12 := by omega
  have x2 : Int.tdiv (h : Int) 2 = 12 := by rw [Int.tdiv_eq_ediv_of_nonneg (by omega)]; omega
  have x3 : IntKind.u64.wrap (last : Int) = (last : Int) := wrap_u64_nat (by omega)
  have x4 : decide ((last : Int) < 12) = false := by simp; omega
  have HK0 := Lib.hid (fields_any g w)
  have HHH := Lib.hid hh
  have HHS := Lib.hid hs
  have HFT := Lib.hid hf
  clear hf hs hh
  go_enter Try.func32, Try.ntmps32
  go_wp2_with fail
  refine HK0.out.mono ?_
  rintro e w1 ⟨mb, bx, rfl, hx, hlk, hbx, hB⟩
  replace H0 := Lib.hid (H0.out.below hB)
  have HK := Lib.hid (Keeps.of_below (Only g) hB); clear hB
  have HX := Lib.hid hx; clear hx
  have l1 := hlk 12 (by decide) (by decide)
  rw [show fnV bx g 12 = .func (.func 56) #[] #[.pointer (some ⟨bx, 0, none⟩)] from rfl, show ((12 : Nat) : Int) = 12 from rfl] at l1
  clear hlk hbx HK0
  go_wp2_with fail
  refine (take_12 H0.out HX.out HHS.out).mono ?_
  rintro e w2 ⟨rfl, h2, hk2⟩
  replace HK := Lib.hid (HK.out.trans hk2); clear hk2
  clear H0 HX l1
  obtain ⟨t, ht⟩ : ∃ t, takeS 12 s r = t := ⟨_, rfl⟩
  have HT := Lib.hid ht
  rw [ht] at h2 HFT
  clear ht
  have H2 := Lib.hid h2; clear h2
  obtain ⟨n, hn⟩ : ∃ n, t.m.ws.length = n := ⟨_, rfl⟩
  have HRN := Lib.hid (show IsMR w2 g (t.arr A n c) by rw [← hn]; exact H2.out.blk)
  have HON := Lib.hid (show OwnF w2 base 56 3 wrC (.slice A n c) t.m.ws by rw [← hn]; exact H2.out.own)
  have HWR := Lib.hid (row_wrs (HON.out.row wrC_len))
  have HFO := Lib.hid (fun W (hw : Wrs W A n t.m.ws) => mfield_any t.m A n c W HFT.out hw 12 (by decide) (by decide))
  unfold FieldOf at HFO
  simp only [show ((12 : Nat) : Int) = 12 from rfl] at HFO
  obtain ⟨⟨fv, th⟩, hfl⟩ : ∃ x, fieldS t.m 12 = x := ⟨_, rfl⟩
  simp only [hfl] at HFO
  have HFL := Lib.hid hfl; clear hfl
  have hR := rm_range HRN.out
  obtain ⟨arrM, hM⟩ : ∃ x, t.m.arr A n c = x := ⟨_, rfl⟩
  have hsz : (Try.prog.info? 29).map (·.size) = some arrM.size := by rw [← hM]; exact info_msgL
  rw [hM] at hR HFO
  clear hM
  have HN := Lib.hid hn; clear hn
  have HQ := Lib.hid hR; clear hR
  clear hl hl2
  go_wp2_with (first | refine wpList_load_part rfl 29 _ rfl g 0 rfl arrM _ HQ.out Try.underlying29 rfl hsz ?_ | fail)
  refine (HFO.out _ HWR.out).mono ?_
  rintro e w3 ⟨rfl, hB⟩
  have HK3 := Lib.hid (Keeps.of_below (Only g) hB)
  have HR3 := Lib.hid (HRN.out.below hB)
  have HO3 := Lib.hid (HON.out.below hB)
  replace HK := Lib.hid (HK.out.below hB); clear hB HK3
  have c19 := HR3.out.cell (RM.a19 t A n c)
  have f19 := HR3.out.f 19
  have hgl := HR3.out.lt
  obtain ⟨eb, heb⟩ : ∃ x, (fv.toList == s.toList) = x := ⟨_, rfl⟩
  obtain ⟨hd, hhd⟩ : ∃ x, headS 12 = x := ⟨_, rfl⟩
  have HHD := Lib.hid (head_any 12 w3 (by decide))
  rw [hhd, show ((12 : Nat) : Int) = 12 from rfl] at HHD
  have HEB := Lib.hid heb
  have HHE := Lib.hid hhd
  clear HFO HWR HQ hsz hhd x1 x2 x3 x4
  obtain ⟨q, hq⟩ : ∃ q, t.bad = q := ⟨_, rfl⟩
  rw [hq] at c19
  have HQ2 := Lib.hid hq; clear hq
  cases q with
  | true =>
    go_wp2
    go_end0
    rw [HT.out]
    refine ⟨rfl, ⟨?_, ?_⟩, HK.out.own 19 _⟩
    · show IsMR _ g (RM.arr ⟨t.m, t.left, t.crit, seenB 12 h s t.m t.bad⟩ A t.m.ws.length c)
      rw [HN.out, show seenB 12 h s t.m t.bad = true by unfold seenB; simp [HFL.out, HEB.out, HHE.out, HQ2.out], ← seen_set t]
      exact HR3.out.set 19 _
    · show OwnF _ base 56 3 wrC (.slice A t.m.ws.length c) t.m.ws
      rw [HN.out]
      exact HO3.out.mr HR3.out (by decide) ((Keeps.refl (Only g) _).own 19 _)
  | false =>
    cases th with
    | false =>
      go_wp2
      go_end0
      rw [HT.out]
      refine ⟨rfl, ⟨?_, ?_⟩, HK.out.own 19 _⟩
      · show IsMR _ g (RM.arr ⟨t.m, t.left, t.crit, seenB 12 h s t.m t.bad⟩ A t.m.ws.length c)
        rw [HN.out, show seenB 12 h s t.m t.bad = true by unfold seenB; simp [HFL.out, HEB.out, HHE.out, HQ2.out], ← seen_set t]
        exact HR3.out.set 19 _
      · show OwnF _ base 56 3 wrC (.slice A t.m.ws.length c) t.m.ws
        rw [HN.out]
        exact HO3.out.mr HR3.out (by decide) ((Keeps.refl (Only g) _).own 19 _)
    | true =>
      cases eb with
      | false =>
        go_wp2
        go_end0
        rw [HT.out]
        refine ⟨rfl, ⟨?_, ?_⟩, HK.out.own 19 _⟩
        · show IsMR _ g (RM.arr ⟨t.m, t.left, t.crit, seenB 12 h s t.m t.bad⟩ A t.m.ws.length c)
          rw [HN.out, show seenB 12 h s t.m t.bad = true by unfold seenB; simp [HFL.out, HEB.out, HHE.out, HQ2.out], ← seen_set t]
          exact HR3.out.set 19 _
        · show OwnF _ base 56 3 wrC (.slice A t.m.ws.length c) t.m.ws
          rw [HN.out]
          exact HO3.out.mr HR3.out (by decide) ((Keeps.refl (Only g) _).own 19 _)
      | true =>
        by_cases hq : hd = h
        · have y1 : ((hd : Int) == (h : Int)) = true := beq_iff_eq.2 (by omega)
          have y2 : (hd == h) = true := by simpa using hq
          have y3 : ((hd : Int) != (h : Int)) = false := bne_eq_false_iff_eq.2 (by omega)
          have HHQ := Lib.hid hq; clear hq
          go_wp2_with fail
          refine HHD.out.mono ?_
          rintro e w9 ⟨rfl, rfl⟩
          go_wp2
          go_end0
          rw [HT.out]
          refine ⟨rfl, ⟨?_, ?_⟩, HK.out.own 19 _⟩
          · show IsMR _ g (RM.arr ⟨t.m, t.left, t.crit, seenB 12 h s t.m t.bad⟩ A t.m.ws.length c)
            rw [HN.out, show seenB 12 h s t.m t.bad = false by unfold seenB; simp [HFL.out, HEB.out, HHE.out, HQ2.out, HHQ.out], ← seen_set t]
            exact HR3.out.set 19 _
          · show OwnF _ base 56 3 wrC (.slice A t.m.ws.length c) t.m.ws
            rw [HN.out]
            exact HO3.out.mr HR3.out (by decide) ((Keeps.refl (Only g) _).own 19 _)
        · have y1 : ((hd : Int) == (h : Int)) = false := beq_eq_false_iff_ne.2 (by omega)
          have y2 : (hd == h) = false := by simpa using hq
          have y3 : ((hd : Int) != (h : Int)) = true := bne_iff_ne.2 (by omega)
          have HHQ := Lib.hid hq; clear hq
          go_wp2_with fail
          refine HHD.out.mono ?_
          rintro e w9 ⟨rfl, rfl⟩
          go_wp2
          go_end0
          rw [HT.out]
          refine ⟨rfl, ⟨?_, ?_⟩, HK.out.own 19 _⟩
          · show IsMR _ g (RM.arr ⟨t.m, t.left, t.crit, seenB 12 h s t.m t.bad⟩ A t.m.ws.length c)
            rw [HN.out, show seenB 12 h s t.m t.bad = true by unfold seenB; simp [HFL.out, HEB.out, HHE.out, HQ2.out, HHQ.out], ← seen_set t]
            exact HR3.out.set 19 _
          · show OwnF _ base 56 3 wrC (.slice A t.m.ws.length c) t.m.ws
            rw [HN.out]
            exact HO3.out.mr HR3.out (by decide) ((Keeps.refl (Only g) _).own 19 _)
end Go.Proofs.Ytemhmgpihkemjaa.My
