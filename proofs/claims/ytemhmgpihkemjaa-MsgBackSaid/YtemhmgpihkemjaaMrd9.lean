/- msg.reader.field, whatever the tag. -/
import Derived.Test.YtemhmgpihkemjaaMrd8
namespace Go.Proofs.Ytemhmgpihkemjaa.My
set_option linter.unusedSimpArgs false
set_option linter.unusedVariables false
open Go.RowKit Go.Proofs.YtemhmgpihkemjaaW.PrintWords Go.Proofs.YtemhmgpihkemjaaW.PrintLast Go.Proofs.Ytemhmgpihkemjaa.Pm

set_option maxRecDepth 100000 in
set_option maxHeartbeats 8000000 in
theorem rd_left (w : World) (base g h last : Nat) (s : ByteArray) (r : RM) (A : Option Addr) (c : Nat) (H : IsRM w base g r A c) (hl : last < h / 2) (hl2 : last ≤ 12) (hh : h < 18446744073709551616) (hlf : r.left ≤ 1000000000) :
    Calls Try.prog 32 #[.pointer (some ⟨g, 0, none⟩), .int .u64 (h : Int), .string s, .int .i64 (last : Int)] w fun e w' => e = .returned (.tuple #[]) ∧ IsRM w' base g ⟨r.m, r.left + 1, r.crit || decide (h % 2 = 1), r.bad⟩ A c ∧ Keeps (Only g) w w' := by
  obtain ⟨t, ht⟩ : ∃ t, h / 2 = t := ⟨_, rfl⟩
  have x1 : (h : Int) / 2 = (t : Int) := by omega
  have x2 : Int.tdiv (h : Int) 2 = (t : Int) := by rw [Int.tdiv_eq_ediv_of_nonneg (by omega)]; omega
  have x3 : IntKind.u64.wrap (last : Int) = (last : Int) := wrap_u64_nat (by omega)
  have x9 : IntKind.u64.wrap (t : Int) = (t : Int) := wrap_u64_nat (by omega)
  have x4 : decide ((last : Int) < (t : Int)) = true := by simp; omega
  have x4n : decide (last < t) = true := by simp; omega
  obtain ⟨p, hp⟩ : ∃ p, h % 2 = p := ⟨_, rfl⟩
  have x5 : (h : Int) % 2 = (p : Int) := by omega
  have x6 : Int.tmod (h : Int) 2 = (p : Int) := by rw [Int.tmod_eq_emod_of_nonneg (by omega)]; omega
  obtain ⟨d, hd⟩ : ∃ d, decide (p = 1) = d := ⟨_, rfl⟩
  have x7 : ((p : Int) == 1) = d := by
    rw [← hd]
    by_cases e : p = 1
    · subst e; rfl
    · rw [decide_eq_false e]; exact beq_eq_false_iff_ne.2 (by omega)
  have x7n : (p == 1) = d := by
    rw [← hd]
    by_cases e : p = 1
    · subst e; rfl
    · rw [decide_eq_false e]; exact beq_eq_false_iff_ne.2 e
  have x8 : wrap64 ((r.left : Int) + 1) = ((r.left + 1 : Nat) : Int) := wrap64_id (by omega) (by omega)
  have HP := Lib.hid (show decide (h % 2 = 1) = d by rw [hp]; exact hd)
  have H0 := Lib.hid H; clear H
  obtain ⟨lf, hlf2⟩ : ∃ x, r.left = x := ⟨_, rfl⟩
  obtain ⟨lf1, hlf3⟩ : ∃ x, lf + 1 = x := ⟨_, rfl⟩
  obtain ⟨cr, hcr⟩ : ∃ x, r.crit = x := ⟨_, rfl⟩
  obtain ⟨n, hn⟩ : ∃ n, r.m.ws.length = n := ⟨_, rfl⟩
  have HRN := Lib.hid (show IsMR w g (r.arr A n c) by rw [← hn]; exact H0.out.blk)
  have HON := Lib.hid (show OwnF w base 56 3 wrC (.slice A n c) r.m.ws by rw [← hn]; exact H0.out.own)
  have c17 := HRN.out.cell (show (r.arr A n c)[17]? = some (.int .i64 (lf : Int)) by rw [← hlf2]; rfl)
  have c18 := HRN.out.cell (show (r.arr A n c)[18]? = some (.bool cr) by rw [← hcr]; rfl)
  have f17 := HRN.out.f 17
  have f18 := HRN.out.f 18
  have hgl := HRN.out.lt
  rw [hlf2, hlf3] at x8
  have HN := Lib.hid hn; have HLF := Lib.hid hlf2; have HL3 := Lib.hid hlf3; have HCR := Lib.hid hcr
  clear ht hl hl2 hh hlf hp hd hn hlf2 hlf3 hcr
  cases cr with
  | true =>
    go_enter Try.func32, Try.ntmps32
    go_wp2
    first | go_end0 | ((try simp only [Exit.inBlock, Exit.then]); refine bodyPost_ret (results_none rfl _ _ _) rfl ?_)
    refine ⟨rfl, ⟨?_, ?_⟩, ((Keeps.refl _ _).own 17 _).own 18 _⟩
    · show IsMR _ g (RM.arr ⟨r.m, r.left + 1, r.crit || decide (h % 2 = 1), r.bad⟩ A r.m.ws.length c)
      rw [HN.out, HP.out, HCR.out, HLF.out, HL3.out]
      exact (HRN.out.set 17 _).set 18 _
    · show OwnF _ base 56 3 wrC (.slice A r.m.ws.length c) r.m.ws
      rw [HN.out]
      exact (HON.out.mr HRN.out (by decide) ((Keeps.refl (Only g) _).own 17 _)).mr (HRN.out.set 17 _) (by decide) ((Keeps.refl (Only g) _).own 18 _)
  | false =>
    go_enter Try.func32, Try.ntmps32
    go_wp2
    first | go_end0 | ((try simp only [Exit.inBlock, Exit.then]); refine bodyPost_ret (results_none rfl _ _ _) rfl ?_)
    refine ⟨rfl, ⟨?_, ?_⟩, ((Keeps.refl _ _).own 17 _).own 18 _⟩
    · show IsMR _ g (RM.arr ⟨r.m, r.left + 1, r.crit || decide (h % 2 = 1), r.bad⟩ A r.m.ws.length c)
      rw [HN.out, HP.out, HCR.out, HLF.out, HL3.out]
      exact (HRN.out.set 17 _).set 18 _
    · show OwnF _ base 56 3 wrC (.slice A r.m.ws.length c) r.m.ws
      rw [HN.out]
      exact (HON.out.mr HRN.out (by decide) ((Keeps.refl (Only g) _).own 17 _)).mr (HRN.out.set 17 _) (by decide) ((Keeps.refl (Only g) _).own 18 _)
theorem rd_field (w : World) (base g h last : Nat) (s : ByteArray) (r : RM) (A : Option Addr) (c : Nat) (H : IsRM w base g r A c) (h1 : 1 ≤ h / 2) (hl2 : last ≤ 12) (hh : h < 18446744073709551616) (hs : s.size ≤ 1000000) (hf : h / 2 ≤ last → (takeS (h / 2) s r).m.Fit) (h9 : h / 2 = 9 → r.m.ws = [] ∧ A = none ∧ c = 0) (hb : base ≤ w.heap.size) (hlf : r.left ≤ 1000000000) :
    Calls Try.prog 32 #[.pointer (some ⟨g, 0, none⟩), .int .u64 (h : Int), .string s, .int .i64 (last : Int)] w fun e w' => ∃ A' c', e = .returned (.tuple #[]) ∧ IsRM w' base g (fldM h s last r) A' c' ∧ (h / 2 ≠ 9 → A' = A ∧ c' = c) ∧ Keeps (Only g) w w' := by
  by_cases hl : last < h / 2
  · refine (rd_left w base g h last s r A c H hl hl2 hh hlf).mono ?_
    rintro e w' ⟨rfl, h2, hk⟩
    refine ⟨A, c, rfl, ?_, fun _ => ⟨rfl, rfl⟩, hk⟩
    unfold fldM
    rw [if_pos hl]
    exact h2
  · unfold fldM
    rw [if_neg hl]
    have hle : h / 2 ≤ last := by omega
    replace hf := hf hle
    obtain ⟨k, hk⟩ : ∃ k, h / 2 = k := ⟨_, rfl⟩
    rw [hk] at hf h9 h1 hle ⊢
    have hk12 : k ≤ 12 := by omega
    clear hl
    by_cases e1 : k = 1
    · subst e1
      refine (rd_field_1 w base g h last s r A c H hk hle hl2 hh hs hf hb).mono ?_
      rintro e w' ⟨rfl, h2, hk2⟩
      exact ⟨A, c, rfl, h2, fun _ => ⟨rfl, rfl⟩, hk2⟩
    by_cases e2 : k = 2
    · subst e2
      refine (rd_field_2 w base g h last s r A c H hk hle hl2 hh hs hf hb).mono ?_
      rintro e w' ⟨rfl, h2, hk2⟩
      exact ⟨A, c, rfl, h2, fun _ => ⟨rfl, rfl⟩, hk2⟩
    by_cases e3 : k = 3
    · subst e3
      refine (rd_field_3 w base g h last s r A c H hk hle hl2 hh hs hf hb).mono ?_
      rintro e w' ⟨rfl, h2, hk2⟩
      exact ⟨A, c, rfl, h2, fun _ => ⟨rfl, rfl⟩, hk2⟩
    by_cases e4 : k = 4
    · subst e4
      refine (rd_field_4 w base g h last s r A c H hk hle hl2 hh hs hf hb).mono ?_
      rintro e w' ⟨rfl, h2, hk2⟩
      exact ⟨A, c, rfl, h2, fun _ => ⟨rfl, rfl⟩, hk2⟩
    by_cases e5 : k = 5
    · subst e5
      refine (rd_field_5 w base g h last s r A c H hk hle hl2 hh hs hf hb).mono ?_
      rintro e w' ⟨rfl, h2, hk2⟩
      exact ⟨A, c, rfl, h2, fun _ => ⟨rfl, rfl⟩, hk2⟩
    by_cases e6 : k = 6
    · subst e6
      refine (rd_field_6 w base g h last s r A c H hk hle hl2 hh hs hf hb).mono ?_
      rintro e w' ⟨rfl, h2, hk2⟩
      exact ⟨A, c, rfl, h2, fun _ => ⟨rfl, rfl⟩, hk2⟩
    by_cases e7 : k = 7
    · subst e7
      refine (rd_field_7 w base g h last s r A c H hk hle hl2 hh hs hf hb).mono ?_
      rintro e w' ⟨rfl, h2, hk2⟩
      exact ⟨A, c, rfl, h2, fun _ => ⟨rfl, rfl⟩, hk2⟩
    by_cases e8 : k = 8
    · subst e8
      refine (rd_field_8 w base g h last s r A c H hk hle hl2 hh hs hf hb).mono ?_
      rintro e w' ⟨rfl, h2, hk2⟩
      exact ⟨A, c, rfl, h2, fun _ => ⟨rfl, rfl⟩, hk2⟩
    by_cases e9 : k = 9
    · subst e9
      obtain ⟨h0, rfl, rfl⟩ := h9 rfl
      refine (rd_field_9 w base g h last s r H hk hle hl2 hh hs hf hb h0).mono ?_
      rintro e w' ⟨A', c', rfl, h2, hk2⟩
      exact ⟨A', c', rfl, h2, fun e => absurd rfl e, hk2⟩
    by_cases e10 : k = 10
    · subst e10
      refine (rd_field_10 w base g h last s r A c H hk hle hl2 hh hs hf hb).mono ?_
      rintro e w' ⟨rfl, h2, hk2⟩
      exact ⟨A, c, rfl, h2, fun _ => ⟨rfl, rfl⟩, hk2⟩
    by_cases e11 : k = 11
    · subst e11
      refine (rd_field_11 w base g h last s r A c H hk hle hl2 hh hs hf hb).mono ?_
      rintro e w' ⟨rfl, h2, hk2⟩
      exact ⟨A, c, rfl, h2, fun _ => ⟨rfl, rfl⟩, hk2⟩
    by_cases e12 : k = 12
    · subst e12
      refine (rd_field_12 w base g h last s r A c H hk hle hl2 hh hs hf hb).mono ?_
      rintro e w' ⟨rfl, h2, hk2⟩
      exact ⟨A, c, rfl, h2, fun _ => ⟨rfl, rfl⟩, hk2⟩
    omega
end Go.Proofs.Ytemhmgpihkemjaa.My
