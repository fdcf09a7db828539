/- api.Write: rows of writes. -/
import Derived.Test.YtcnehponkgofiaaRow
import Derived.Test.YtcnehponkgofiaaVers
namespace Go.Proofs.Ytcnehponkgofiaa.My
set_option linter.unusedSimpArgs false
set_option linter.unusedVariables false
open Go.RowKit Go.Proofs.YtcnehponkgofiaaW.PrintWords Go.Proofs.YtcnehponkgofiaaW.PrintLast Go.Proofs.Ytcnehponkgofiaa.Pm

/-- A write: its key, is it gone, its value. -/
abbrev WrT := ByteArray × Bool × ByteArray
def wrC (p : WrT) : List Value := [.string p.1, .bool p.2.1, .string p.2.2]
def verC (p : VerT) : List Value := [.int .u64 (p.1 : Int), .bool p.2.1, .string p.2.2]
theorem wrC_len (p : WrT) : (wrC p).length = 3 := rfl
theorem wrC_one (p : WrT) : ∀ u ∈ wrC p, u.oneCell' = true := by
  intro u hu
  simp only [wrC, List.mem_cons, List.not_mem_nil, or_false] at hu
  rcases hu with rfl | rfl | rfl <;> rfl
theorem verC_len (p : VerT) : (verC p).length = 3 := rfl
theorem verC_one (p : VerT) : ∀ u ∈ verC p, u.oneCell' = true := by
  intro u hu
  simp only [verC, List.mem_cons, List.not_mem_nil, or_false] at hu
  rcases hu with rfl | rfl | rfl <;> rfl
theorem info_wr : (Try.prog.info? 88).map (fun i => (i.zero, i.size, i.bytes)) = some (some (.agg #[.string ⟨#[]⟩, .bool false, .string ⟨#[]⟩]), 3, 40) := by kernel_rfl
theorem info_vr : (Try.prog.info? 25).map (fun i => (i.zero, i.size, i.bytes)) = some (some (.agg #[.int .u64 0, .bool false, .string ⟨#[]⟩]), 3, 32) := by kernel_rfl
theorem ver_arg {w : World} {A : Option Addr} {n : Nat} {l : List VerT} (h : RowF w 3 verC A n l) (hs : ∀ p ∈ l, p.1 < 18446744073709551616 ∧ p.2.2.size ≤ 140737488351232) : ArgVers w A n l :=
  ⟨h.1, hs, fun h0 => by
    obtain ⟨b, off, e, hb, hc⟩ := h.2 h0
    refine ⟨b, off, e, hb, fun j hj => ?_⟩
    have := hc j hj
    exact ⟨this 0 _ rfl, this 1 _ rfl, this 2 _ rfl⟩⟩
theorem kless_irrefl (a : ByteArray) : ¬ (Op.bytesLess a.toList a.toList = true) := by
  have : ∀ l : List UInt8, Op.bytesLess l l = false := by
    intro l
    induction l with
    | nil => rfl
    | cons x r ih => simp [Op.bytesLess, ih]
  rw [this]
  decide
theorem bless_trans : ∀ (x y z : List UInt8), Op.bytesLess x y = true → Op.bytesLess y z = true → Op.bytesLess x z = true
  | [], [], _, h, _ => by simp [Op.bytesLess] at h
  | [], _ :: _, [], _, h => by simp [Op.bytesLess] at h
  | [], _ :: _, _ :: _, _, _ => by simp [Op.bytesLess]
  | _ :: _, [], _, h, _ => by simp [Op.bytesLess] at h
  | _ :: _, _ :: _, [], _, h => by simp [Op.bytesLess] at h
  | a :: x, b :: y, c :: z, h1, h2 => by
    simp only [Op.bytesLess, Bool.or_eq_true, Bool.and_eq_true, decide_eq_true_eq, beq_iff_eq] at h1 h2 ⊢
    rcases h1 with h1 | ⟨rfl, h1⟩ <;> rcases h2 with h2 | ⟨rfl, h2⟩
    · exact .inl (UInt8.lt_trans h1 h2)
    · exact .inl h1
    · exact .inl h2
    · exact .inr ⟨rfl, bless_trans x y z h1 h2⟩
theorem bless_total : ∀ (x y : List UInt8), Op.bytesLess x y = false → Op.bytesLess y x = false → x = y
  | [], [], _, _ => rfl
  | [], _ :: _, h, _ => by simp [Op.bytesLess] at h
  | _ :: _, [], _, h => by simp [Op.bytesLess] at h
  | a :: x, b :: y, h1, h2 => by
    simp only [Op.bytesLess, Bool.or_eq_false_iff, Bool.and_eq_false_iff, decide_eq_false_iff_not, beq_eq_false_iff_ne] at h1 h2
    have e : a = b := UInt8.le_antisymm (UInt8.not_lt.1 h2.1) (UInt8.not_lt.1 h1.1)
    subst e
    rw [bless_total x y (by simpa using h1.2) (by simpa using h2.2)]
end Go.Proofs.Ytcnehponkgofiaa.My
