/- isoglosslaw09.awake. -/
import Derived.Test.YtmglkgcogfhabaaChainB
namespace Go.Proofs.Ytmglkgcogfhabaa.My
set_option linter.unusedSimpArgs false
set_option linter.unusedVariables false
open Go.RowKit Go.Proofs.YtmglkgcogfhabaaW.PrintWords Go.Proofs.YtmglkgcogfhabaaW.PrintLast Go.Proofs.Ytmglkgcogfhabaa.Pm
def abV : List VerT := [(5, false, ⟨#[97, 98]⟩)]
theorem ab_right : rightV abV := ⟨fun j hj => by
  obtain rfl : j = 0 := by simp [abV] at hj; exact hj
  exact ⟨by show (5 : Nat) ≠ 0; decide, fun h => absurd h (by omega), fun h => absurd h (by show ¬ (false = true); decide)⟩, by decide⟩
theorem ab_bytes : chainS abV = ⟨#[1, 5, 0, 0, 0, 2, 97, 98]⟩ := by decide +kernel
theorem awake09 (w : World) : Calls Try.prog 10 #[] w fun e w' => e = .returned (.bool true) ∧ Below w.heap.size w w' := by
  go_enter Try.func10, Try.ntmps10
  go_wp2_with fail
  have K := blk_new w (.cells #[.int .u64 5, .bool false, .string ⟨#[97, 98]⟩] 30)
  have HB := Lib.hid (below_alloc (Below.refl w.heap.size w) (.cells #[.int .u64 5, .bool false, .string ⟨#[97, 98]⟩] 30))
  have hlt : w.heap.size < (w.alloc (.cells #[.int .u64 5, .bool false, .string ⟨#[97, 98]⟩] 30)).heap.size := by simp
  generalize w.alloc (.cells #[.int .u64 5, .bool false, .string ⟨#[97, 98]⟩] 30) = w1 at *
  have hA : ArgVers w1 (some ⟨w.heap.size, 0, none⟩) 1 abV := ⟨rfl, fun p hp => by
    simp only [abV, List.mem_singleton] at hp
    subst hp
    exact ⟨by decide, by decide⟩, fun _ => ⟨_, 0, rfl, hlt, fun j hj => by
      obtain rfl : j = 0 := by simp [abV] at hj; exact hj
      exact ⟨(blk_cell K 0).trans rfl, (blk_cell K 1).trans rfl, (blk_cell K 2).trans rfl⟩⟩⟩
  have C := encode_ok (some ⟨w.heap.size, 0, none⟩) 1 1 abV w1 hA (by decide) (fun p hp => by
    simp only [abV, List.mem_singleton] at hp
    subst hp
    decide) ab_right
  rw [ab_bytes] at C
  refine C.mono ?_
  rintro e w2 ⟨rfl, hb⟩
  have HB := Lib.hid (HB.out.trans (hb.mono HB.out.size)); clear hb hA
  go_wp2
  go_ret
  exact ⟨rfl, HB.out⟩
end Go.Proofs.Ytmglkgcogfhabaa.My
