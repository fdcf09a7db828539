/- The law OraclePlays, whatever comes in. -/
import Derived.Test.YtdiocapnoinmlaaLawPlays
import Derived.Test.YtdiocapnoinmlaaOpens
namespace Go.Proofs.Ytdiocapnoinmlaa.My
open Go.RowKit Go.Proofs.YtdiocapnoinmlaaW.PrintWords Go.Proofs.YtdiocapnoinmlaaW.PrintLast Go.Proofs.Ytdiocapnoinmlaa.Pm
theorem op_opens {H : Type} {enc : TypeId × Value → H} {w : World} {base : Nat} {spare : Nat → Bool} {held : Bool} :
    Opens enc Try.prog w base spare held 35 fun (p : Nat × Nat) cs => (p.1 < 256 ∧ p.2 ≤ topU) ∧ cs = [.int .u8 p.1, .int .u64 p.2] :=
  (opens_struct2 Try.underlying35 (opens_int Try.underlying5) (opens_int Try.underlying24)).imp fun p cs ⟨hl, ⟨h0, h1⟩, h2, h3⟩ => by
    have z1 := wf_u8 h1
    have z2 := wf_u64 h3
    have e : Try.prog.cellsOf 35 = 2 := by kernel_rfl
    have e1 : Try.prog.cellsOf 5 = 1 := by kernel_rfl
    have e2 : Try.prog.cellsOf 24 = 1 := by kernel_rfl
    obtain ⟨a, b⟩ := p
    obtain ⟨a, rfl⟩ := Int.eq_ofNat_of_zero_le z1.1
    obtain ⟨b, rfl⟩ := Int.eq_ofNat_of_zero_le z2.1
    rw [e] at hl
    simp only [e1] at h0
    simp only [e2] at h2
    refine ⟨(a, b), ⟨by omega, by unfold topU; omega⟩, ?_⟩
    match cs, hl with
    | [x, y], _ => simp at h0 h2; rw [h0, h2]
theorem ops_opens {H : Type} {enc : TypeId × Value → H} {w : World} {base : Nat} {spare : Nat → Bool} {held : Bool} :
    Opens enc Try.prog w base spare held 31 fun (l : List (Nat × Nat)) cs => ∃ A len cap, cs = [.slice A len cap] ∧ len ≤ cap ∧ cap ≤ maxLen ∧ len * Try.prog.bytesOf 35 ≤ 140737488351232 ∧ RowSays w (Try.prog.cellsOf 35) (fun p cs => (p.1 < 256 ∧ p.2 ≤ topU) ∧ cs = [.int .u8 p.1, .int .u64 p.2]) A len l :=
  opens_slice Try.underlying31 (by decide +kernel) op_opens
theorem ora_plays_walk (a0 : Int) (A : Option Addr) (len cap : Nat) (l : List (Nat × Nat)) (W : World) (h0 : (Lit.int .u64 a0).wf = true) (_ : len ≤ cap) (hb : len * Try.prog.bytesOf 35 ≤ 140737488351232)
    (hl : RowSays W (Try.prog.cellsOf 35) (fun p cs => (p.1 < 256 ∧ p.2 ≤ topU) ∧ cs = [.int .u8 p.1, .int .u64 p.2]) A len l) :
    Calls Try.prog 4 #[.int .u64 a0, .slice A len cap] W fun e w' => e = .returned (.bool true) ∧ Below W.heap.size W w' := by
  have z := wf_u64 h0
  obtain ⟨n, rfl⟩ := Int.eq_ofNat_of_zero_le z.1
  have e : Try.prog.bytesOf 35 = 16 := by kernel_rfl
  have e1 : Try.prog.cellsOf 35 = 2 := by kernel_rfl
  rw [e] at hb
  rw [e1] at hl
  by_cases hbig : 300 < len
  · exact ora_plays_big n A len cap W hbig (by omega)
  · refine ora_plays n A len cap l W (by unfold topU; omega) ⟨hl.1, fun p hp => ?_, fun h => ?_⟩ (by omega)
    · obtain ⟨j, hj, rfl⟩ := List.getElem_of_mem hp
      obtain ⟨b, off, a, c, _, _, h2, _, h3, _⟩ := hl.get j (by rw [← hl.1]; exact hj)
      rw [List.getElem?_eq_getElem hj] at h2
      obtain rfl : l[j] = a := by simpa using h2
      exact h3.1
    · obtain ⟨b, off, rfl, hlt, hc⟩ := hl.2 h
      refine ⟨b, off, rfl, hlt, fun j hj => ?_⟩
      have hj' : j < l.length := by rw [hl.1]; exact hj
      obtain ⟨c, _, ⟨_, rfl⟩, h4⟩ := hc j hj'
      rw [List.getD_eq_getElem?_getD, List.getElem?_eq_getElem hj', Option.getD_some]
      exact ⟨h4 0 _ rfl, h4 1 _ rfl⟩
end Go.Proofs.Ytdiocapnoinmlaa.My
