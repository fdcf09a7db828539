/- log.Open: what is wiped (plain part). -/
import Derived.Test.YtoandabafkdgjaaLog6
namespace Go.Proofs.Ytoandabafkdgjaa.My
set_option linter.unusedSimpArgs false
set_option linter.unusedVariables false
open Go.RowKit Go.Proofs.YtoandabafkdgjaaW.PrintWords Go.Proofs.YtoandabafkdgjaaW.PrintLast Go.Proofs.Ytoandabafkdgjaa.Pm

/-- So many sectors wiped, from the one in which e lies. -/
def wipeN (d : DkS) (e : Nat) : Nat → DkS
  | 0 => d
  | j + 1 => wipeS (wipeN d e j) (e / 64 + j) (e - 64 * (e / 64 + j))
theorem cleanS_size {s : ByteArray} (h : s.size = 64) {n : Nat} (hn : n ≤ 64) : (cleanS s n).size = 64 := by
  unfold cleanS
  rw [ByteArray.size_append, ByteArray.size_extract, zeros_size]
  omega
theorem wipeS_ok {d : DkS} (h : d.Ok) {i n : Nat} (hi : i < d.sure.length) (hn : n ≤ 64) (hf : d.fuse = -1) : (wipeS d i n).Ok ∧ (wipeS d i n).fuse = -1 ∧ (wipeS d i n).gone = d.gone ∧ (wipeS d i n).sure = d.sure ∧ (wipeS d i n).waits.length ≤ d.waits.length + 1 := by
  unfold wipeS
  split
  · exact ⟨h, hf, rfl, rfl, by omega⟩
  · refine ⟨writeS_ok h hi (cleanS_size (lastW_size h hi) hn), ?_, ?_, rfl, by simp [writeS]⟩
    · unfold writeS; simp only; rw [if_neg (by omega)]; exact hf
    · unfold writeS; simp only; rw [if_neg (by omega)]
theorem wipeN_ok {d : DkS} (h : d.Ok) (e : Nat) (hf : d.fuse = -1) : ∀ j, e / 64 + j ≤ d.sure.length → (wipeN d e j).Ok ∧ (wipeN d e j).fuse = -1 ∧ (wipeN d e j).gone = d.gone ∧ (wipeN d e j).sure = d.sure ∧ (wipeN d e j).waits.length ≤ d.waits.length + j
  | 0, _ => ⟨h, hf, rfl, rfl, by simp [wipeN]⟩
  | j + 1, hj => by
    obtain ⟨h1, h2, h3, h4, h5⟩ := wipeN_ok h e hf j (by omega)
    have hw := wipeS_ok h1 (i := e / 64 + j) (n := e - 64 * (e / 64 + j)) (by rw [h4]; omega) (by omega) h2
    rw [wipeN]
    exact ⟨hw.1, hw.2.1, hw.2.2.1.trans h3, hw.2.2.2.1.trans h4, by have := hw.2.2.2.2; omega⟩
end Go.Proofs.Ytoandabafkdgjaa.My
