/- chain.reader: in memory; what it takes, as plain functions. -/
import Derived.Test.YtmglkgcogfhabaaChainB
import Derived.Test.YtmglkgcogfhabaaCurU
namespace Go.Proofs.Ytmglkgcogfhabaa.My
set_option linter.unusedSimpArgs false
set_option linter.unusedVariables false
open Go.RowKit Go.Proofs.YtmglkgcogfhabaaW.PrintWords Go.Proofs.YtmglkgcogfhabaaW.PrintLast Go.Proofs.Ytmglkgcogfhabaa.Pm

/-- A reader: what is left, is the cursor bad, base, last, size, long, bad. -/
structure RdS where
  r : ByteArray
  cb : Bool
  base : ByteArray
  last : Nat
  size : Nat
  long : Bool
  bad : Bool
/-- What a value's parts are of the base. -/
def baseTo (base : ByteArray) (n m : Nat) (t : ByteArray) : ByteArray := base.extract 0 n ++ t ++ base.extract (base.size - m) base.size
def vlOf (n m : Nat) (t r3 : ByteArray) (b3 : Bool) (s : RdS) : ByteArray × RdS :=
  if b3 = true ∨ s.base.size < n + m then (⟨#[]⟩, ⟨r3, b3, s.base, s.last, s.size, s.long, true⟩)
  else (baseTo s.base n m t, ⟨r3, b3, baseTo s.base n m t, s.last, s.size + (baseTo s.base n m t).size, s.long || decide (60000 < s.size + (baseTo s.base n m t).size), s.bad⟩)
/-- Two numbers and a text. -/
def cur3 (r : ByteArray) (b : Bool) : Nat × Nat × ByteArray × ByteArray × Bool :=
  ((curUint r b).1, (curUint (curUint r b).2.1 (curUint r b).2.2).1, curText (curUint (curUint r b).2.1 (curUint r b).2.2).2.1 (curUint (curUint r b).2.1 (curUint r b).2.2).2.2)
/-- A value is taken. -/
def valS (s : RdS) : ByteArray × RdS :=
  vlOf (curUint s.r s.cb).1 (curUint (curUint s.r s.cb).2.1 (curUint s.r s.cb).2.2).1 (curText (curUint (curUint s.r s.cb).2.1 (curUint s.r s.cb).2.2).2.1 (curUint (curUint s.r s.cb).2.1 (curUint s.r s.cb).2.2).2.2).1
    (curText (curUint (curUint s.r s.cb).2.1 (curUint s.r s.cb).2.2).2.1 (curUint (curUint s.r s.cb).2.1 (curUint s.r s.cb).2.2).2.2).2.1 (curText (curUint (curUint s.r s.cb).2.1 (curUint s.r s.cb).2.2).2.1 (curUint (curUint s.r s.cb).2.1 (curUint s.r s.cb).2.2).2.2).2.2 s
def finS (s : RdS) : RdS := ⟨s.r, s.cb, s.base, s.last, s.size, s.long, s.bad || s.cb⟩
def verOf (t : Nat) (y : ByteArray) (s1 : RdS) : VerT × RdS :=
  if bl y = [1] then ((t, true, ⟨#[]⟩), finS s1)
  else if bl y = [0] then ((t, false, (valS s1).1), finS (valS s1).2)
  else ((t, false, ⟨#[]⟩), finS ⟨s1.r, s1.cb, s1.base, s1.last, s1.size, s1.long, true⟩)
def tadd (last n : Nat) : Nat := (last + n) % 18446744073709551616
/-- A version is taken. -/
def verS (s : RdS) : VerT × RdS :=
  verOf (tadd s.last (curUint s.r s.cb).1) (curBytes (curUint s.r s.cb).2.1 (curUint s.r s.cb).2.2 1).1
    ⟨(curBytes (curUint s.r s.cb).2.1 (curUint s.r s.cb).2.2 1).2.1, (curBytes (curUint s.r s.cb).2.1 (curUint s.r s.cb).2.2 1).2.2, s.base, tadd s.last (curUint s.r s.cb).1, s.size, s.long, s.bad || decide (tadd s.last (curUint s.r s.cb).1 ≤ s.last)⟩
/-- So many versions, while nothing is bad or too long. -/
def versS : Nat → RdS → List VerT → RdS × List VerT
  | 0, s, out => (s, out)
  | n + 1, s, out => if s.bad = true ∨ s.long = true then (s, out) else versS n (verS s).2 (out ++ [(verS s).1])

theorem curText_size (s : ByteArray) (b : Bool) : (curText s b).1.size + (curText s b).2.1.size ≤ s.size := by
  have h := curUint_size s b
  unfold curText
  split
  · exact Nat.le_of_eq (Nat.zero_add _)
  · split
    · exact Nat.le_trans (Nat.le_of_eq (Nat.zero_add _)) h
    · unfold curBytes
      split
      · exact Nat.le_trans (Nat.le_of_eq (Nat.zero_add _)) h
      · simp only [ByteArray.size_extract]; omega
theorem baseTo_size {base t : ByteArray} {n m : Nat} (h : n + m ≤ base.size) : (baseTo base n m t).size = n + m + t.size := by
  unfold baseTo
  simp only [ByteArray.size_append, ByteArray.size_extract]
  omega
theorem curBytes_left (s : ByteArray) (b : Bool) (n : Int) : (curBytes s b n).2.1.size ≤ s.size := by
  unfold curBytes
  split
  · exact Nat.le_refl _
  · simp only [ByteArray.size_extract]; omega
theorem valOf_size {n m : Nat} {t r3 : ByteArray} {b3 : Bool} {s : RdS} (h : t.size + r3.size ≤ s.r.size) :
    (vlOf n m t r3 b3 s).2.base.size + (vlOf n m t r3 b3 s).2.r.size ≤ s.base.size + s.r.size ∧ (vlOf n m t r3 b3 s).1.size ≤ s.base.size + s.r.size ∧ (vlOf n m t r3 b3 s).2.size ≤ s.size + (s.base.size + s.r.size) ∧ (vlOf n m t r3 b3 s).2.last = s.last := by
  unfold vlOf
  split
  · exact ⟨by simp only; omega, Nat.zero_le _, by simp only; omega, rfl⟩
  · rename_i hc
    have hb : n + m ≤ s.base.size := by
      rcases Nat.lt_or_ge s.base.size (n + m) with h | h
      · exact absurd (.inr h) hc
      · exact h
    have hz := baseTo_size (t := t) hb
    exact ⟨by simp only; omega, by simp only; omega, by simp only; omega, rfl⟩
theorem valS_size (s : RdS) : (valS s).2.base.size + (valS s).2.r.size ≤ s.base.size + s.r.size ∧ (valS s).1.size ≤ s.base.size + s.r.size ∧ (valS s).2.size ≤ s.size + (s.base.size + s.r.size) ∧ (valS s).2.last = s.last := by
  refine valOf_size ?_
  have h1 := curUint_size s.r s.cb
  have h2 := curUint_size (curUint s.r s.cb).2.1 (curUint s.r s.cb).2.2
  have h3 := curText_size (curUint (curUint s.r s.cb).2.1 (curUint s.r s.cb).2.2).2.1 (curUint (curUint s.r s.cb).2.1 (curUint s.r s.cb).2.2).2.2
  omega
theorem tadd_lt (a b : Nat) : tadd a b < 18446744073709551616 := Nat.mod_lt _ (by decide)
theorem verOf_size {t : Nat} {y : ByteArray} {s1 : RdS} {R S : Nat} (h1 : s1.base.size + s1.r.size ≤ R) (h2 : s1.size ≤ S) (h3 : s1.last < 18446744073709551616) :
    (verOf t y s1).2.base.size + (verOf t y s1).2.r.size ≤ R ∧ (verOf t y s1).1.2.2.size ≤ R ∧ (verOf t y s1).2.size ≤ S + R ∧ (verOf t y s1).2.last < 18446744073709551616 ∧ (verOf t y s1).1.1 = t := by
  have h := valS_size s1
  unfold verOf finS
  split
  · exact ⟨h1, Nat.zero_le _, by simp only; omega, h3, rfl⟩
  · split
    · exact ⟨by simp only; omega, by simp only; omega, by simp only; omega, by simp only; rw [h.2.2.2]; exact h3, rfl⟩
    · exact ⟨h1, Nat.zero_le _, by simp only; omega, h3, rfl⟩
theorem verS_size (s : RdS) : (verS s).2.base.size + (verS s).2.r.size ≤ s.base.size + s.r.size ∧ (verS s).1.2.2.size ≤ s.base.size + s.r.size ∧ (verS s).2.size ≤ s.size + (s.base.size + s.r.size) ∧ (verS s).2.last < 18446744073709551616 ∧ (verS s).1.1 < 18446744073709551616 := by
  have h1 := curUint_size s.r s.cb
  have h2 := curBytes_left (curUint s.r s.cb).2.1 (curUint s.r s.cb).2.2 1
  have h := verOf_size (t := tadd s.last (curUint s.r s.cb).1) (y := (curBytes (curUint s.r s.cb).2.1 (curUint s.r s.cb).2.2 1).1) (s1 := ⟨(curBytes (curUint s.r s.cb).2.1 (curUint s.r s.cb).2.2 1).2.1, (curBytes (curUint s.r s.cb).2.1 (curUint s.r s.cb).2.2 1).2.2, s.base, tadd s.last (curUint s.r s.cb).1, s.size, s.long, s.bad || decide (tadd s.last (curUint s.r s.cb).1 ≤ s.last)⟩)
    (R := s.base.size + s.r.size) (S := s.size) (by simp only; omega) (Nat.le_refl _) (tadd_lt _ _)
  exact ⟨h.1, h.2.1, h.2.2.1, h.2.2.2.1, by have := h.2.2.2.2; unfold verS; rw [this]; exact tadd_lt _ _⟩

/-- A reader in memory: its cursor's block, base, last, size, long, bad. -/
def IsRd (w : World) (h g : Nat) (base : ByteArray) (last size : Nat) (long bad : Bool) : Prop :=
  w.heap[h]? = some (.cells #[.pointer (some ⟨g, 0, none⟩), .string base, .int .u64 last, .int .i64 size, .bool long, .bool bad] 74 (0, 0))
section
variable {w : World} {h g last size : Nat} {base : ByteArray} {long bad : Bool}
theorem IsRd.c0 (k : IsRd w h g base last size long bad) : w.cell? ⟨h, 0, none⟩ = some (.pointer (some ⟨g, 0, none⟩)) := (blk_cell k 0).trans rfl
theorem IsRd.c1 (k : IsRd w h g base last size long bad) : w.cell? ⟨h, 1, none⟩ = some (.string base) := (blk_cell k 1).trans rfl
theorem IsRd.c2 (k : IsRd w h g base last size long bad) : w.cell? ⟨h, 2, none⟩ = some (.int .u64 last) := (blk_cell k 2).trans rfl
theorem IsRd.c3 (k : IsRd w h g base last size long bad) : w.cell? ⟨h, 3, none⟩ = some (.int .i64 size) := (blk_cell k 3).trans rfl
theorem IsRd.c4 (k : IsRd w h g base last size long bad) : w.cell? ⟨h, 4, none⟩ = some (.bool long) := (blk_cell k 4).trans rfl
theorem IsRd.c5 (k : IsRd w h g base last size long bad) : w.cell? ⟨h, 5, none⟩ = some (.bool bad) := (blk_cell k 5).trans rfl
theorem IsRd.f (k : IsRd w h g base last size long bad) (i : Nat) : w.frozen? ⟨h, i, none⟩ = false := blk_frozen k i
theorem IsRd.set1 (k : IsRd w h g base last size long bad) (b : ByteArray) : IsRd (w.setCell ⟨h, 1, none⟩ (.string b)) h g b last size long bad := blk_set k 1 _
theorem IsRd.set2 (k : IsRd w h g base last size long bad) (n : Nat) : IsRd (w.setCell ⟨h, 2, none⟩ (.int .u64 n)) h g base n size long bad := blk_set k 2 _
theorem IsRd.set3 (k : IsRd w h g base last size long bad) (n : Nat) : IsRd (w.setCell ⟨h, 3, none⟩ (.int .i64 n)) h g base last n long bad := blk_set k 3 _
theorem IsRd.set4 (k : IsRd w h g base last size long bad) (b : Bool) : IsRd (w.setCell ⟨h, 4, none⟩ (.bool b)) h g base last size b bad := blk_set k 4 _
theorem IsRd.set5 (k : IsRd w h g base last size long bad) (b : Bool) : IsRd (w.setCell ⟨h, 5, none⟩ (.bool b)) h g base last size long b := blk_set k 5 _
end
/-- A reader and its cursor. -/
structure Rd (w : World) (h g : Nat) (r : ByteArray) (cb : Bool) (base : ByteArray) (last size : Nat) (long bad : Bool) : Prop where
  rd : IsRd w h g base last size long bad
  cur : IsCur w g r cb
  ne : g ≠ h
def RdR (w : World) (h g : Nat) (s : RdS) : Prop := Rd w h g s.r s.cb s.base s.last s.size s.long s.bad
section
variable {w w1 : World} {h g last size : Nat} {r r' base : ByteArray} {cb cb' long bad : Bool}
theorem Rd.cur_ (k : Rd w h g r cb base last size long bad) (hc : IsCur w1 g r' cb') (hk : Keeps (Only g) w w1) : Rd w1 h g r' cb' base last size long bad :=
  ⟨hk.blk k.rd (fun e => k.ne e.symm), hc, k.ne⟩
theorem Rd.drew (k : Rd w h g r cb base last size long bad) : Rd w.drew h g r cb base last size long bad := ⟨k.rd, k.cur, k.ne⟩
theorem Rd.drewN (k : Rd w h g r cb base last size long bad) (n : Nat) : Rd (w.drewN n) h g r cb base last size long bad := ⟨k.rd, k.cur, k.ne⟩
theorem Rd.far (k : Rd w h g r cb base last size long bad) (i : Nat) (u : Value) : IsCur (w.setCell ⟨h, i, none⟩ u) g r cb := blk_far k.cur (p := ⟨h, i, none⟩) k.ne u
theorem Rd.set1 (k : Rd w h g r cb base last size long bad) (b : ByteArray) : Rd (w.setCell ⟨h, 1, none⟩ (.string b)) h g r cb b last size long bad := ⟨k.rd.set1 b, k.far _ _, k.ne⟩
theorem Rd.set2 (k : Rd w h g r cb base last size long bad) (n : Nat) : Rd (w.setCell ⟨h, 2, none⟩ (.int .u64 n)) h g r cb base n size long bad := ⟨k.rd.set2 n, k.far _ _, k.ne⟩
theorem Rd.set3 (k : Rd w h g r cb base last size long bad) (n : Nat) : Rd (w.setCell ⟨h, 3, none⟩ (.int .i64 n)) h g r cb base last n long bad := ⟨k.rd.set3 n, k.far _ _, k.ne⟩
theorem Rd.set4 (k : Rd w h g r cb base last size long bad) (b : Bool) : Rd (w.setCell ⟨h, 4, none⟩ (.bool b)) h g r cb base last size b bad := ⟨k.rd.set4 b, k.far _ _, k.ne⟩
theorem Rd.set5 (k : Rd w h g r cb base last size long bad) (b : Bool) : Rd (w.setCell ⟨h, 5, none⟩ (.bool b)) h g r cb base last size long b := ⟨k.rd.set5 b, k.far _ _, k.ne⟩
theorem Rd.alloc (k : Rd w h g r cb base last size long bad) (o : Obj) : Rd (w.alloc o) h g r cb base last size long bad := ⟨blk_alloc k.rd o, blk_alloc k.cur o, k.ne⟩
theorem Rd.below (k : Rd w h g r cb base last size long bad) (hb : Below w.heap.size w w1) : Rd w1 h g r cb base last size long bad := ⟨blk_below k.rd hb, blk_below k.cur hb, k.ne⟩
theorem Rd.other (k : Rd w h g r cb base last size long bad) {p : Addr} (h1 : h ≠ p.block) (h2 : g ≠ p.block) (u : Value) : Rd (w.setCell p u) h g r cb base last size long bad := ⟨blk_far k.rd h1 u, blk_far k.cur h2 u, k.ne⟩
theorem Rd.hlt (k : Rd w h g r cb base last size long bad) : h < w.heap.size := blk_lt k.rd
theorem Rd.glt (k : Rd w h g r cb base last size long bad) : g < w.heap.size := blk_lt k.cur
end
/-- Two blocks alone. -/
def Two (h g : Nat) : Nat → Prop := fun k => k = h ∨ k = g
theorem Keeps.only2 {h g : Nat} {a b c : World} (k : Keeps (Two h g) a b) (k2 : Keeps (Only g) b c) : Keeps (Two h g) a c := k.then_ k2 (fun _ hi => .inl (.inr hi))
theorem Keeps.set2 {h g : Nat} {a b : World} (k : Keeps (Two h g) a b) (i : Nat) (u : Value) : Keeps (Two h g) a (b.setCell ⟨h, i, none⟩ u) := k.set (p := ⟨h, i, none⟩) (.inl (.inl rfl)) u

theorem valOf_ok' {n m : Nat} {t r3 : ByteArray} {s : RdS} (h : ¬ s.base.size < n + m) : vlOf n m t r3 false s = (baseTo s.base n m t, ⟨r3, false, baseTo s.base n m t, s.last, s.size + (baseTo s.base n m t).size, s.long || decide (60000 < s.size + (baseTo s.base n m t).size), s.bad⟩) :=
  if_neg (by rintro (h1 | h1); exact absurd h1 (by decide); exact h h1)
end Go.Proofs.Ytmglkgcogfhabaa.My
