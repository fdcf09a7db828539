/- isoglosslaw05.awake. -/
import Derived.Test.YtemhmgpihkemjaaMsg16
namespace Go.Proofs.Ytemhmgpihkemjaa.My
set_option linter.unusedSimpArgs false
set_option linter.unusedVariables false
open Go.RowKit Go.Proofs.YtemhmgpihkemjaaW.PrintWords Go.Proofs.YtemhmgpihkemjaaW.PrintLast Go.Proofs.Ytemhmgpihkemjaa.Pm

theorem awM_bytes12 : bytesN awM 12 = ⟨#[1, 12, 1, 97]⟩ := by
  have g10 : fldB awM 10 = ⟨#[]⟩ := if_neg (by decide)
  have g11 : fldB awM 11 = ⟨#[]⟩ := if_neg (by decide)
  have g12 : fldB awM 12 = ⟨#[]⟩ := if_neg (by decide)
  have h : bytesN awM 12 = bytesN awM 9 ++ fldB awM 10 ++ fldB awM 11 ++ fldB awM 12 := rfl
  rw [h, g10, g11, g12, app_e, app_e, app_e, awM_bytes]
theorem awM_right : rightB awM = true := by
  unfold rightB
  rw [awM_bytes12]
  decide
theorem awM_may : mayE 1 awM = 0 := by
  unfold mayE
  rw [awM_right, if_neg (by decide), if_neg (by decide)]
theorem awM_enc : encS 1 awM = ⟨#[1, 12, 1, 97]⟩ := by
  unfold encS
  rw [if_pos awM_may]
  exact awM_bytes
set_option maxRecDepth 100000 in
set_option maxHeartbeats 4000000 in
theorem awake05 (w : World) : Calls Try.prog 8 #[] w fun e w' => e = .returned (.bool true) ∧ Below w.heap.size w w' := by
  have HB := Lib.hid (Below.refl w.heap.size w)
  have EN := Lib.hid (fun w => encode_any 1 awM none 0 0 w awM_z (Wrs.nil w))
  rw [awM_may, awM_enc] at EN
  have EN2 := Lib.hid (fun w => show Calls Try.prog 10 #[.int .i64 1, .agg #[.int .i64 1, .int .i64 0, .int .i64 0, .int .i64 0, .int .i64 0, .int .i64 0, .int .u64 0, .int .u64 0, .string ⟨#[97]⟩, .bool false, .int .u64 0, .bool false, .string ⟨#[]⟩, .slice none 0 0, .string ⟨#[]⟩, .int .u64 0, .int .u64 0]] w fun e w' => e = .returned (.tuple #[.string ⟨#[1, 12, 1, 97]⟩, .int .i64 0]) ∧ Below w.heap.size w w' from EN.out w)
  have NG := Lib.hid (fun w => show Calls Try.prog 17 #[.int .i64 3, .int .i64 2] w fun e w' => e = .returned (.int .i64 2) ∧ w = w' from negotiate_any 3 2 w)
  clear EN
  go_enter Try.func8, Try.ntmps8
  go_wp2_with fail
  refine (EN2.out _).mono ?_
  rintro e wq1 ⟨rfl, hb⟩
  have HB := Lib.hid (HB.out.trans (hb.mono HB.out.size)); clear hb
  go_wp2_with fail
  refine (NG.out _).mono ?_
  rintro e wq2 ⟨rfl, rfl⟩
  go_wp2
  go_ret
  exact ⟨rfl, HB.out⟩
end Go.Proofs.Ytemhmgpihkemjaa.My
