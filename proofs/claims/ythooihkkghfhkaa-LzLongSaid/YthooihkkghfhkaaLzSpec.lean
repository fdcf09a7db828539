/- lz: what packed bytes mean, part by part. -/
import Derived.Test.YthooihkkghfhkaaRefTake
namespace Go.Proofs.Ythooihkkghfhkaa.My
set_option linter.unusedSimpArgs false
set_option linter.unusedVariables false
open Go.RowKit Go.Proofs.YthooihkkghfhkaaW.PrintWords Go.Proofs.YthooihkkghfhkaaW.PrintLast Go.Proofs.Ythooihkkghfhkaa.Pm

theorem curText_le (s : ByteArray) (bad : Bool) : (curText s bad).1.size ≤ s.size := by
  unfold curText
  split
  · exact Nat.zero_le _
  · split
    · exact Nat.zero_le _
    · have h1 := curUint_size s bad
      unfold curBytes
      split
      · exact Nat.zero_le _
      · rw [ByteArray.size_extract]
        omega
def lzPlain (n : Nat) (r : ByteArray) (o : List UInt8) : Option (ByteArray × List UInt8) :=
  if (curText r false).2.2 = true ∨ n < o.length + (curText r false).1.size then none else some ((curText r false).2.1, o ++ bl (curText r false).1)
/-- So many bytes more, each as far behind. -/
def lzCopies (o : List UInt8) (d : Nat) : Nat → List UInt8
  | 0 => o
  | k + 1 => lzCopies o d k ++ [(lzCopies o d k).getD ((lzCopies o d k).length - d) 0]
theorem lzCopies_length (o : List UInt8) (d : Nat) : ∀ k, (lzCopies o d k).length = o.length + k
  | 0 => rfl
  | k + 1 => by rw [lzCopies, List.length_append, lzCopies_length o d k]; rfl
/-- The second of two numbers. -/
def cur2 (r : ByteArray) : Nat × ByteArray × Bool := curUint (curUint r false).2.1 (curUint r false).2.2
def lzCopy (n : Nat) (r : ByteArray) (o : List UInt8) : Option (ByteArray × List UInt8) :=
  if (cur2 r).2.2 = true ∨ (curUint r false).1 < 1 ∨ o.length < (curUint r false).1 ∨ (cur2 r).1 < 4 ∨ n < o.length + (cur2 r).1 then none else some ((cur2 r).2.1, lzCopies o (curUint r false).1 (cur2 r).1)
theorem lzPlain_some {n : Nat} {r r' : ByteArray} {o o' : List UInt8} (h : lzPlain n r o = some (r', o')) : o.length ≤ o'.length ∧ o'.length ≤ n := by
  unfold lzPlain at h
  split at h
  · cases h
  · rename_i hc
    simp only [Option.some.injEq, Prod.mk.injEq] at h
    obtain ⟨-, rfl⟩ := h
    rw [List.length_append, bl_length]
    omega
theorem lzCopy_some {n : Nat} {r r' : ByteArray} {o o' : List UInt8} (h : lzCopy n r o = some (r', o')) : o.length + 4 ≤ o'.length ∧ o'.length ≤ n := by
  unfold lzCopy at h
  split at h
  · cases h
  · rename_i hc
    simp only [Option.some.injEq, Prod.mk.injEq] at h
    obtain ⟨-, rfl⟩ := h
    rw [lzCopies_length]
    omega
def lzTail (n : Nat) (r : ByteArray) (o : List UInt8) : Option (ByteArray × List UInt8) :=
  if hn : o.length < n then
    match h : lzCopy n r o with
    | none => none
    | some (r1, o1) =>
      if o1.length < n then
        match h2 : lzPlain n r1 o1 with
        | none => none
        | some (r2, o2) => lzTail n r2 o2
      else some (r1, o1)
  else some (r, o)
termination_by n - o.length
decreasing_by
  have := lzCopy_some h
  have := lzPlain_some h2
  omega
def lzAll (n : Nat) (r : ByteArray) : Option (ByteArray × List UInt8) := (lzPlain n r []).bind fun p => lzTail n p.1 p.2
theorem lzTail_end {n : Nat} {r : ByteArray} {o : List UInt8} (h : ¬ o.length < n) : lzTail n r o = some (r, o) := by rw [lzTail]; simp [h]
theorem lzTail_bad {n : Nat} {r : ByteArray} {o : List UInt8} (h : o.length < n) (h1 : lzCopy n r o = none) : lzTail n r o = none := by
  rw [lzTail]
  simp only [h, dite_true]
  split
  · rfl
  · rename_i h2; rw [h1] at h2; cases h2
theorem lzTail_full {n : Nat} {r r1 : ByteArray} {o o1 : List UInt8} (h : o.length < n) (h1 : lzCopy n r o = some (r1, o1)) (h2 : ¬ o1.length < n) : lzTail n r o = some (r1, o1) := by
  rw [lzTail]
  simp only [h, dite_true]
  split
  · rename_i h3; rw [h1] at h3; cases h3
  · rename_i r' o' h3
    rw [h1] at h3
    simp only [Option.some.injEq, Prod.mk.injEq] at h3
    obtain ⟨rfl, rfl⟩ := h3
    simp [h2]
theorem lzTail_more {n : Nat} {r r1 : ByteArray} {o o1 : List UInt8} (h : o.length < n) (h1 : lzCopy n r o = some (r1, o1)) (h2 : o1.length < n) : lzTail n r o = (lzPlain n r1 o1).bind fun p => lzTail n p.1 p.2 := by
  rw [lzTail]
  simp only [h, dite_true]
  split
  · rename_i h3; rw [h1] at h3; cases h3
  · rename_i r' o' h3
    rw [h1] at h3
    simp only [Option.some.injEq, Prod.mk.injEq] at h3
    obtain ⟨rfl, rfl⟩ := h3
    rw [if_pos h2]
    cases h4 : lzPlain n r1 o1 with
    | none => rfl
    | some p => rfl
/-- The byte behind the number. -/
def curHow (s : ByteArray) : ByteArray × ByteArray × Bool := curBytes (curUint s false).2.1 (curUint s false).2.2 1
/-- What packed bytes mean; the error. -/
def lzUn (s : ByteArray) : ByteArray × Nat :=
  if 60000 < (curUint s false).1 then (⟨#[]⟩, 3) else if (curHow s).2.2 = true then (⟨#[]⟩, 2) else
    if (bl (curHow s).1).head? = some 0 then (if (curHow s).2.1.size = (curUint s false).1 then ((curHow s).2.1, 0) else (⟨#[]⟩, 2))
    else if (bl (curHow s).1).head? ≠ some 1 then (⟨#[]⟩, 2)
    else match lzAll (curUint s false).1 (curHow s).2.1 with
      | none => (⟨#[]⟩, 2)
      | some (r, o) => if r.size = 0 then (⟨o.toArray⟩, 0) else (⟨#[]⟩, 2)
end Go.Proofs.Ythooihkkghfhkaa.My
