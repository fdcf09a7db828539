/- The law PrimBack walked. -/
import Derived.Test.YtdiocapnoinmlaaLaw01
import Derived.Test.YtdiocapnoinmlaaCode
namespace Go.Proofs.Ytdiocapnoinmlaa.My
open Go.RowKit Go.Proofs.YtdiocapnoinmlaaW.PrintWords Go.Proofs.YtdiocapnoinmlaaW.PrintLast Go.Proofs.Ytdiocapnoinmlaa.Pm

theorem prim_back_big (n : Nat) (s t : ByteArray) (w : World) (h : 200 < s.size ∨ 100 < t.size) (hs : s.size ≤ 140737488351232) (ht : t.size ≤ 140737488351232) :
    Calls Try.prog 9 #[.int .u64 n, .string s, .string t] w fun e w' => e = .returned (.bool true) ∧ Below w.heap.size w w' := by
  have HB := Lib.hid (Below.refl w.heap.size w)
  by_cases h1 : 200 < s.size
  · have b1 : decide (200 < (s.size : Int)) = true := by simp; omega
    clear h
    go_enter Try.func9, Try.ntmps9
    go_wp2_with fail
    refine (awake01 _).mono ?_
    rintro e wq1 ⟨rfl, hb⟩
    have HB := Lib.hid (HB.out.trans (hb.mono HB.out.size)); clear hb
    go_wp2_with fail
    refine (awake01 _).mono ?_
    rintro e wq2 ⟨rfl, hb⟩
    have HB := Lib.hid (HB.out.trans (hb.mono HB.out.size)); clear hb
    go_wp2
    go_ret
    exact ⟨rfl, HB.out⟩
  · have b1 : decide (200 < (s.size : Int)) = false := by simp; omega
    have b2 : decide (100 < (t.size : Int)) = true := by simp; omega
    clear h
    go_enter Try.func9, Try.ntmps9
    go_wp2_with fail
    refine (awake01 _).mono ?_
    rintro e wq3 ⟨rfl, hb⟩
    have HB := Lib.hid (HB.out.trans (hb.mono HB.out.size)); clear hb
    go_wp2_with fail
    refine (awake01 _).mono ?_
    rintro e wq4 ⟨rfl, hb⟩
    have HB := Lib.hid (HB.out.trans (hb.mono HB.out.size)); clear hb
    go_wp2
    go_ret
    exact ⟨rfl, HB.out⟩

set_option maxHeartbeats 4000000 in
theorem prim_back (n : Nat) (s t : ByteArray) (w : World) (hn : n < 18446744073709551616) (hs : s.size ≤ 200) (ht : t.size ≤ 100) :
    Calls Try.prog 9 #[.int .u64 n, .string s, .string t] w fun e w' => e = .returned (.bool true) ∧ Below w.heap.size w w' := by
  have HB := Lib.hid (Below.refl w.heap.size w)
  have b1 : decide (200 < (s.size : Int)) = false := by simp; omega
  have b2 : decide (100 < (t.size : Int)) = false := by simp; omega
  have e1 := curUint_ub n (textS s ++ (fixedS n (8 : Int) true ++ (fixedS n (3 : Int) false ++ t))) hn
  have e2 := curText_app s (fixedS n (8 : Int) true ++ (fixedS n (3 : Int) false ++ t)) (by omega)
  have e3 : curFixed (fixedS n 8 true ++ (fixedS n (3 : Int) false ++ t)) false 8 true = (n % 256 ^ 8, fixedS n (3 : Int) false ++ t, false) := curFixed_app n 8 true (fixedS n (3 : Int) false ++ t) (by omega) (by omega)
  have e4 : curFixed (fixedS n 3 false ++ t) false 3 false = (n % 256 ^ 3, t, false) := curFixed_app n 3 false t (by omega) (by omega)
  have e5 : curBytes t false t.size = (t, ⟨#[]⟩, false) := by
    have := curBytes_app t ⟨#[]⟩ t.size rfl
    rwa [show t ++ (⟨#[]⟩ : ByteArray) = t from bl_ext (by rw [bl_append, bl_empty, List.append_nil])] at this
  have l1 := uvS_size n
  have l1' := uv_len10 hn
  have l2 : (textS s).size ≤ 210 := by
    unfold textS; rw [ByteArray.size_append, uvS_size]; have := uv_len10 (show s.size < 18446744073709551616 by omega); omega
  have l3 : (fixedS n 8 true).size = 8 := fixedS_size n 8 true (by omega) (by omega)
  have l4 : (fixedS n 3 false).size = 3 := fixedS_size n 3 false (by omega) (by omega)
  have l1'' : (uvS n).size ≤ 10 := by omega
  clear l1 l1'
  rw [show n % 256 ^ 8 = n from Nat.mod_eq_of_lt hn] at e3
  rw [show n % 256 ^ 3 = n % 16777216 from rfl] at e4
  have U1 := Lib.hid (fun w => uint_any n w hn)
  have U2 := Lib.hid (fun w => text_any s w (by omega))
  have U3 := Lib.hid (fun w => fixed_any n 8 true w)
  have U4 := Lib.hid (fun w => fixed_any n 3 false w)
  generalize uvS n = s1 at *
  generalize textS s = s2 at *
  generalize fixedS n 8 true = s3 at *
  generalize fixedS n 3 false = s4 at *
  have e0 : s1 ++ s2 ++ s3 ++ s4 ++ t = s1 ++ (s2 ++ (s3 ++ (s4 ++ t))) := by simp only [ByteArray.append_assoc]
  have z3 : s3.size ≤ 8 := by omega
  have z4 : s4.size ≤ 3 := by omega
  clear l3 l4
  have y2 : (s2 ++ (s3 ++ (s4 ++ t))).size ≤ 140737488355328 := by simp only [ByteArray.size_append]; omega
  have y1 : (s1 ++ (s2 ++ (s3 ++ (s4 ++ t)))).size ≤ 140737488355328 := by simp only [ByteArray.size_append] at y2 ⊢; omega
  have Y1 := Lib.hid y1; clear y1
  have Y2 := Lib.hid y2; clear y2
  have E0 := Lib.hid e0; clear e0
  have E1 := Lib.hid e1; clear e1
  have E2 := Lib.hid e2; clear e2
  have E3 := Lib.hid e3; clear e3
  have E4 := Lib.hid e4; clear e4
  have E5 := Lib.hid e5; clear e5
  go_enter Try.func9, Try.ntmps9
  go_wp2_with fail
  refine (awake01 _).mono ?_
  rintro e wq5 ⟨rfl, hb⟩
  have HB := Lib.hid (HB.out.trans (hb.mono HB.out.size)); clear hb
  go_wp2_with fail
  refine (U1.out _).mono ?_
  rintro e wq6 ⟨rfl, hb⟩
  have HB := Lib.hid (HB.out.trans (hb.mono HB.out.size)); clear hb
  go_wp2_with fail
  refine (U2.out _).mono ?_
  rintro e wq7 ⟨rfl, hb⟩
  have HB := Lib.hid (HB.out.trans (hb.mono HB.out.size)); clear hb
  go_wp2_with fail
  refine (U3.out _).mono ?_
  rintro e wq8 ⟨rfl, hb⟩
  have HB := Lib.hid (HB.out.trans (hb.mono HB.out.size)); clear hb
  go_wp2_with fail
  refine (U4.out _).mono ?_
  rintro e wq9 ⟨rfl, hb⟩
  have HB := Lib.hid (HB.out.trans (hb.mono HB.out.size)); clear hb
  go_wp2_with fail
  refine (cur_made _ _).mono ?_
  rintro e w1 ⟨g, rfl, hg, hc, hb⟩
  rw [E0.out] at hc
  have hg := Nat.le_trans HB.out.size hg
  have HB := Lib.hid (HB.out.trans (hb.mono HB.out.size)); clear hb
  have HC := Lib.hid hc; clear hc
  go_wp2_with fail
  refine (cur_uint _ _ _ _ HC.out Y1.out).mono ?_
  rintro e wq10 ⟨rfl, hc, hk⟩
  have HC := Lib.hid hc; clear hc
  have HB := Lib.hid (below_keeps HB.out hk HB.out.size (fun i hi => by cases hi; exact hg)); clear hk
  rw [E1.out] at HC ⊢
  go_wp2_with fail
  refine (cur_text _ _ _ _ HC.out Y2.out).mono ?_
  rintro e wq11 ⟨rfl, hc, hk⟩
  have HC := Lib.hid hc; clear hc
  have HB := Lib.hid (below_keeps HB.out hk HB.out.size (fun i hi => by cases hi; exact hg)); clear hk
  rw [E2.out] at HC ⊢
  go_wp2_with fail
  refine (cur_fixed _ _ _ _ _ _ HC.out).mono ?_
  rintro e wq12 ⟨rfl, hc, hk⟩
  have HC := Lib.hid hc; clear hc
  have HB := Lib.hid (below_keeps HB.out hk HB.out.size (fun i hi => by cases hi; exact hg)); clear hk
  rw [E3.out] at HC ⊢
  go_wp2_with fail
  refine (cur_fixed _ _ _ _ _ _ HC.out).mono ?_
  rintro e wq13 ⟨rfl, hc, hk⟩
  have HC := Lib.hid hc; clear hc
  have HB := Lib.hid (below_keeps HB.out hk HB.out.size (fun i hi => by cases hi; exact hg)); clear hk
  rw [E4.out] at HC ⊢
  go_wp2_with fail
  refine (cur_left _ _ _ _ HC.out).mono ?_
  rintro e wq14 ⟨rfl, rfl⟩
  go_wp2_with fail
  refine (cur_bad _ _ _ _ HC.out).mono ?_
  rintro e wq15 ⟨rfl, rfl⟩
  go_wp2_with fail
  refine (cur_bytes _ _ _ _ _ HC.out).mono ?_
  rintro e wq16 ⟨rfl, hc, hk⟩
  have HC := Lib.hid hc; clear hc
  have HB := Lib.hid (below_keeps HB.out hk HB.out.size (fun i hi => by cases hi; exact hg)); clear hk
  rw [E5.out] at HC ⊢
  go_wp2_with fail
  refine (cur_done _ _ _ _ HC.out).mono ?_
  rintro e wq17 ⟨rfl, rfl⟩
  go_wp2
  go_ret
  exact ⟨rfl, HB.out⟩

theorem prim_back_walk (a0 : Int) (a1 a2 : ByteArray) (W : World) (h0 : (Lit.int .u64 a0).wf = true) (h1 : a1.size ≤ 140737488351232) (h2 : a2.size ≤ 140737488351232) :
    Calls Try.prog 9 #[.int .u64 a0, .string a1, .string a2] W fun e w' => e = .returned (.bool true) ∧ Below W.heap.size W w' := by
  have h := wf_u64 h0
  obtain ⟨n, rfl⟩ := Int.eq_ofNat_of_zero_le h.1
  by_cases hb : 200 < a1.size ∨ 100 < a2.size
  · exact prim_back_big n a1 a2 W hb h1 h2
  · exact prim_back n a1 a2 W (by omega) (by omega) (by omega)
end Go.Proofs.Ytdiocapnoinmlaa.My
