/- isoglosslaw08.awake. -/
import Derived.Test.YtoandabafkdgjaaLog12
namespace Go.Proofs.Ytoandabafkdgjaa.My
set_option linter.unusedSimpArgs false
set_option linter.unusedVariables false
open Go.RowKit Go.Proofs.YtoandabafkdgjaaW.PrintWords Go.Proofs.YtoandabafkdgjaaW.PrintLast Go.Proofs.Ytoandabafkdgjaa.Pm

theorem new_open (n : Int) : (standS (openB (newS n))).1 = [] ∧ openE (newS n) = 0 := by
  have h := open_recs (d := newS n) (want := []) (m := 64 * newN n) (fun r hr => by cases hr) (by rw [newS_len, allL_new n _ (Nat.le_refl _)]; rfl)
  exact h
/-- A new disk, opened. -/
theorem new_opened (n : Int) : (openS (newS n)).Ok ∧ (openS (newS n)).fuse = -1 ∧ (openS (newS n)).gone = false ∧ (openS (newS n)).sure.length = newN n ∧ (openS (newS n)).waits = [] ∧ allL (openS (newS n)) (newN n) = List.replicate (64 * newN n) 0 := by
  have hE := (new_open n).2
  have h := open_plain (newS_ok n) rfl rfl (by rw [hE]; exact Nat.zero_le _)
  rw [hE, newS_len, allL_new n _ (Nat.le_refl _), List.take_zero, List.nil_append, Nat.sub_zero] at h
  exact h
set_option maxRecDepth 100000 in
set_option maxHeartbeats 8000000 in
theorem awake08 (w : World) : Calls Try.prog 21 #[] w fun e w' => e = .returned (.bool true) ∧ Below w.heap.size w w' := by
  have CM := Lib.hid (fun w => crc_make w)
  have DN := Lib.hid (fun w => dk_new 3 w)
  obtain ⟨n1, n2, n3, n4, n5, n6⟩ := new_opened 3
  have HE := Lib.hid (new_open 3).2
  have OP := Lib.hid (fun (w : World) (base h : Nat) (V W : Value) (k : Dk w base h V W (newS 3)) (hb : base ≤ w.heap.size) => open_any k (newS_ok 3) rfl rfl (by decide) hb)
  have N3 : newN 3 = 3 := by decide
  have AP := Lib.hid (fun (w : World) (base g h : Nat) (V W : Value) (k : Dk w base h V W (openS (newS 3))) (l : IsLg tab w g h ((0 : Nat) : Int) false) (hb : base ≤ w.heap.size) (hgb : base ≤ g) => append_ok k l n1 n3 n2 (by rw [n5]; exact Nat.zero_le _) hb hgb ⟨#[97, 98]⟩ (by decide) (by rw [n4, N3]; decide))
  have LE := Lib.hid (fun (T : Array Value) (w : World) (g h : Nat) (e : Int) (k : IsLg T w g h e false) => lg_end k)
  generalize openS (newS 3) = d1 at *
  clear n1 n2 n3 n4 n5 n6 N3
  go_enter Try.func21, Try.ntmps21
  go_wp2_with fail
  refine (CM.out _).mono ?_
  rintro e w1 ⟨rfl, hb⟩
  have HB := Lib.hid hb; clear hb
  go_wp2_with fail
  refine (DN.out _).mono ?_
  rintro e w2 ⟨h, V, W, rfl, hk, hb⟩
  have HK := Lib.hid (hk.lower HB.out.size)
  replace HB := Lib.hid (HB.out.trans (hb.mono HB.out.size)); clear hb hk
  go_wp2_with fail
  refine (OP.out _ _ _ _ _ HK.out HB.out.size).mono ?_
  rintro e w3 ⟨⟨g, v, rfl, hlg, hgg, -, hk⟩, -, hb⟩
  rw [HE.out] at hlg
  have HLG := Lib.hid hlg
  have HK3 := Lib.hid hk
  have HG := Lib.hid (Nat.le_trans HB.out.size hgg)
  replace HB := Lib.hid (HB.out.trans hb); clear hb hk hlg hgg
  go_wp2_with fail
  refine (AP.out _ _ _ _ _ _ HK3.out HLG.out HB.out.size HG.out).mono ?_
  rintro e w4 ⟨rfl, -, hlg, -, hb⟩
  replace HB := Lib.hid (HB.out.trans hb); clear hb
  have hlg8 : IsLg tab w4 g h 8 false := hlg
  go_wp2_with fail
  refine (LE.out _ _ _ _ _ hlg8).mono ?_
  rintro e w5 ⟨rfl, rfl⟩
  go_wp2
  go_ret
  exact ⟨rfl, HB.out⟩
end Go.Proofs.Ytoandabafkdgjaa.My
