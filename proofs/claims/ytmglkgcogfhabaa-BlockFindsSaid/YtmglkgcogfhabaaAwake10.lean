/- isoglosslaw10.awake. -/
import Derived.Test.YtmglkgcogfhabaaBuild
namespace Go.Proofs.Ytmglkgcogfhabaa.My
set_option linter.unusedSimpArgs false
set_option linter.unusedVariables false
open Go.RowKit Go.Proofs.YtmglkgcogfhabaaW.PrintWords Go.Proofs.YtmglkgcogfhabaaW.PrintLast Go.Proofs.Ytmglkgcogfhabaa.Pm
set_option maxRecDepth 100000 in
set_option maxHeartbeats 4000000 in
theorem inside_nil (w : World) : Calls Try.prog 30 #[.slice none 0 0] w fun e w' => e = .returned (.tuple #[.string ⟨#[0]⟩, .int .i64 0]) ∧ Below w.heap.size w w' := by
  have U := Lib.hid (fun w => uint_any 0 w (by decide))
  rw [show uvS 0 = ⟨#[0]⟩ by decide +kernel] at U
  go_enter Try.func30, Try.ntmps30
  go_wp2_with fail
  have K := blk_new w (.cells #[.pointer none, .slice none 0 0] 87)
  have HB := Lib.hid (below_alloc (Below.refl w.heap.size w) (.cells #[.pointer none, .slice none 0 0] 87))
  generalize w.alloc (.cells #[.pointer none, .slice none 0 0] 87) = w1 at *
  obtain ⟨b, hb0⟩ : ∃ b, w.heap.size = b := ⟨_, rfl⟩
  have hbb : w.heap.size ≤ b := Nat.le_of_eq hb0
  rw [hb0] at K ⊢
  rw [hb0] at HB hbb
  refine (U.out _).mono ?_
  rintro e w2 ⟨rfl, hb⟩
  have K := blk_below K hb
  have HB := Lib.hid (HB.out.trans (hb.mono (by rw [← hb0]; exact HB.out.size))); clear hb
  have hbs : b ≤ w2.heap.size := by have := HB.out.size; omega
  go_wp2_with fail
  refine (bd_write w2 b b ⟨#[0]⟩ K (Nat.le_refl _) hbs (by decide)).mono ?_
  rintro e w3 ⟨⟨v0, rfl⟩, v, hx, ho, hb⟩
  have HB := Lib.hid (HB.out.trans hb); clear hb K
  have HX := Lib.hid hx; clear hx
  have HO := Lib.hid ho; clear ho
  go_wp2
  go_loopw [18] (fun v18 wr => v18 = .int .i64 0 ∧ wr = w3) (fun _ _ => 0)
  case atStart => exact ⟨rfl, rfl⟩
  case round =>
    obtain ⟨rfl, rfl⟩ := hrel
    go_wp2_with fail
    refine (bd_string _ b b _ v [0] HX.out HO.out (by simp) (by decide)).mono ?_
    rintro e w4 ⟨rfl, hb⟩
    have HB := Lib.hid (HB.out.trans hb); clear hb
    go_wp2
    go_ret2
    exact ⟨rfl, by rw [hb0]; exact HB.out⟩
theorem awake10 (w : World) : Calls Try.prog 20 #[] w fun e w' => e = .returned (.bool true) ∧ Below w.heap.size w w' := by
  go_enter Try.func20, Try.ntmps20
  go_wp2_with fail
  refine (inside_nil _).mono ?_
  rintro e w1 ⟨rfl, hb⟩
  have HB := Lib.hid hb; clear hb
  go_wp2
  go_ret
  exact ⟨rfl, HB.out⟩
end Go.Proofs.Ytmglkgcogfhabaa.My
