/- isoglossref01.Text. -/
import Derived.Test.YtemhmgpihkemjaaRef01
import Derived.Test.YtemhmgpihkemjaaCode
namespace Go.Proofs.Ytemhmgpihkemjaa.My
set_option linter.unusedSimpArgs false
set_option linter.unusedVariables false
open Go.RowKit Go.Proofs.YtemhmgpihkemjaaW.PrintWords Go.Proofs.YtemhmgpihkemjaaW.PrintLast Go.Proofs.Ytemhmgpihkemjaa.Pm
theorem rtext_any (s : ByteArray) (w : World) (hs : s.size ≤ 140737488351232) :
    Calls Try.prog 25 #[.string s] w fun e w' => e = .returned (.string (textS s)) ∧ Below w.heap.size w w' := by
  have q1 : IntKind.u64.wrap (s.size : Int) = (s.size : Int) := wrap_u64_nat (by omega)
  have U := Lib.hid (fun w => ruint_any s.size w (by omega))
  have h10 := uvS_size s.size
  have hl := uv_len10 (n := s.size) (by omega)
  have hb : (uvS s.size).size + s.size ≤ 140737488355328 := by omega
  have HB := Lib.hid (Below.refl w.heap.size w)
  unfold textS
  generalize uvS s.size = t at *
  clear h10 hl
  go_enter Try.func25, Try.ntmps25
  go_wp2_with fail
  refine (U.out _).mono ?_
  rintro e wq1 ⟨rfl, hb⟩
  have HB := Lib.hid (HB.out.trans (hb.mono HB.out.size)); clear hb
  go_wp2
  go_ret
  exact ⟨rfl, HB.out⟩
theorem uvS_le {n : Nat} (h : n < 18446744073709551616) : (uvS n).size ≤ 10 := by rw [uvS_size]; exact uv_len10 h
theorem textS_le {s : ByteArray} (h : s.size < 18446744073709551616) : (textS s).size ≤ s.size + 10 := by
  unfold textS
  rw [ByteArray.size_append]
  have := uvS_le h
  omega
end Go.Proofs.Ytemhmgpihkemjaa.My
