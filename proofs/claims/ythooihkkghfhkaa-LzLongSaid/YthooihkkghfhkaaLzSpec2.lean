/- lz: small laws over what packed bytes mean; the same by Take. -/
import Derived.Test.YthooihkkghfhkaaLzSpec
namespace Go.Proofs.Ythooihkkghfhkaa.My
set_option linter.unusedSimpArgs false
set_option linter.unusedVariables false
open Go.RowKit Go.Proofs.YthooihkkghfhkaaW.PrintWords Go.Proofs.YthooihkkghfhkaaW.PrintLast Go.Proofs.Ythooihkkghfhkaa.Pm

theorem curBytes_one_ok {s : ByteArray} {b : Bool} {h r : ByteArray} (e : curBytes s b 1 = (h, r, false)) : ∃ c, h = ⟨#[c]⟩ ∧ r.size ≤ s.size := by
  unfold curBytes at e
  split at e
  · simp at e
  · rename_i hc
    simp only [Prod.mk.injEq, and_true] at e
    obtain ⟨rfl, rfl⟩ := e
    have h1 : 0 < s.size := by omega
    have := extract_first s 0 h1
    rw [ByteArray.extract_zero_size] at this
    exact ⟨s[0], this, by rw [ByteArray.size_extract]; omega⟩
theorem loop_len (s : ByteArray) : ∀ (k i : Nat) (r : List UInt8), s.size - i = k → (ByteArray.toList.loop s i r).length = k + r.length := by
  intro k
  induction k with
  | zero => intro i r h; unfold ByteArray.toList.loop; rw [if_neg (by omega)]; simp
  | succ k ih => intro i r h; unfold ByteArray.toList.loop; rw [if_pos (by omega), ih (i + 1) _ (by omega)]; simp; omega
theorem done_iff (s : ByteArray) : s.toList.isEmpty = decide (s.size = 0) := by
  have h := loop_len s s.size 0 [] rfl
  change s.toList.length = _ at h
  cases hl : s.toList with
  | nil => rw [hl] at h; simp at h; simp [← h]
  | cons a l => rw [hl] at h; simp at h; exact (decide_eq_false (by omega)).symm
theorem curBytes_le (s : ByteArray) (b : Bool) (n : Int) : (curBytes s b n).2.1.size ≤ s.size := by
  unfold curBytes
  split
  · exact Nat.le_refl _
  · rw [ByteArray.size_extract]; omega
theorem curText_rest (s : ByteArray) (b : Bool) : (curText s b).2.1.size ≤ s.size := by
  unfold curText
  split
  · exact Nat.le_refl _
  · split
    · exact curUint_size s b
    · exact Nat.le_trans (curBytes_le _ _ _) (curUint_size s b)
theorem lzPlain_rest {n : Nat} {r r' : ByteArray} {o o' : List UInt8} (h : lzPlain n r o = some (r', o')) : r'.size ≤ r.size := by
  unfold lzPlain at h
  split at h
  · cases h
  · simp only [Option.some.injEq, Prod.mk.injEq] at h
    obtain ⟨rfl, -⟩ := h
    exact curText_rest r false
theorem lzCopy_rest {n : Nat} {r r' : ByteArray} {o o' : List UInt8} (h : lzCopy n r o = some (r', o')) : r'.size ≤ r.size := by
  unfold lzCopy at h
  split at h
  · cases h
  · simp only [Option.some.injEq, Prod.mk.injEq] at h
    obtain ⟨rfl, -⟩ := h
    exact Nat.le_trans (curUint_size _ _) (curUint_size _ _)

theorem curUint_take (s : ByteArray) : curUint s false = if (takeS s).2 = 0 then (0, s, true) else ((takeS s).1, s.extract (takeS s).2 s.size, false) := by
  unfold curUint takeS
  simp only [bl, Bool.false_eq_true, if_false]
  cases h : takeU 0 0 s.data.toList with
  | none => simp
  | some p =>
    obtain ⟨m, k⟩ := p
    have := takeU_le _ _ _ _ _ h
    simp only [Option.getD_some]
    rw [if_neg (by omega)]
theorem curBytes_ok (r : ByteArray) (v : Nat) (h : v ≤ r.size) : curBytes r false (v : Int) = (r.extract 0 v, r.extract v r.size, false) := by
  unfold curBytes
  rw [if_neg (by rintro (h | h | h); exact absurd h (by decide); omega; omega)]
  rfl
theorem lzPlain_bad (n : Nat) (r : ByteArray) (o : List UInt8) (h : (takeS r).2 = 0) : lzPlain n r o = none := by
  unfold lzPlain
  have e : (curText r false).2.2 = true := by
    unfold curText
    rw [curUint_take, if_pos h]
    rfl
  rw [if_pos (.inl e)]
theorem lzPlain_take (n v m : Nat) (r : ByteArray) (o : List UInt8) (h : takeS r = (v, m)) (hm : m ≠ 0) :
    lzPlain n r o = if (r.extract m r.size).size < v ∨ n < o.length + v then none else some ((r.extract m r.size).extract v (r.extract m r.size).size, o ++ bl ((r.extract m r.size).extract 0 v)) := by
  unfold lzPlain curText
  rw [curUint_take, h]
  simp only [if_neg hm]
  generalize r.extract m r.size = r1
  by_cases h1 : r1.size < v
  · rw [if_pos h1, if_pos (.inl rfl), if_pos (.inl h1)]
  · rw [if_neg h1]
    have h2 : (r1.extract 0 v).size = v := by rw [ByteArray.size_extract]; omega
    simp only [curBytes_ok r1 v (by omega), h2, h1, Bool.false_eq_true, false_or, if_false]
theorem lzCopy_bad (n : Nat) (r : ByteArray) (o : List UInt8) (h : (takeS r).2 = 0) : lzCopy n r o = none := by
  unfold lzCopy
  have e : (cur2 r).2.2 = true := by
    unfold cur2
    rw [curUint_take, if_pos h]
    rfl
  rw [if_pos (.inl e)]
theorem lzCopy_take (n v m u k : Nat) (r : ByteArray) (o : List UInt8) (h : takeS r = (v, m)) (hm : m ≠ 0) (h2 : takeS (r.extract m r.size) = (u, k)) :
    lzCopy n r o = if k = 0 ∨ v < 1 ∨ o.length < v ∨ u < 4 ∨ n < o.length + u then none else some ((r.extract m r.size).extract k (r.extract m r.size).size, lzCopies o v u) := by
  unfold lzCopy cur2
  rw [curUint_take r, h]
  simp only [if_neg hm]
  rw [curUint_take, h2]
  by_cases hk : k = 0
  · simp [hk]
  · simp only [if_neg hk, hk, if_false, Bool.false_eq_true, false_or]
/-- What is answered behind the parts. -/
def lzFin (L : Option (ByteArray × List UInt8)) : ByteArray × Nat :=
  match L with
  | none => (⟨#[]⟩, 2)
  | some (r, o) => if r.size = 0 then (⟨o.toArray⟩, 0) else (⟨#[]⟩, 2)
theorem lzUn_none (s : ByteArray) (h : (takeS s).2 = 0) : lzUn s = (⟨#[]⟩, 2) := by
  unfold lzUn curHow
  rw [curUint_take, if_pos h]
  rfl
theorem lzUn_long (s : ByteArray) (n k : Nat) (h : takeS s = (n, k)) (hk : k ≠ 0) (hn : 60000 < n) : lzUn s = (⟨#[]⟩, 3) := by
  unfold lzUn
  rw [curUint_take, h]
  simp only [if_neg hk]
  rw [if_pos hn]
theorem lzUn_short (s : ByteArray) (n k : Nat) (h : takeS s = (n, k)) (hk : k ≠ 0) (hn : ¬ 60000 < n) (hs : k = s.size) : lzUn s = (⟨#[]⟩, 2) := by
  unfold lzUn curHow
  rw [curUint_take, h]
  simp only [if_neg hk, if_neg hn]
  rw [curBytes_none s k (by omega)]
  rfl
theorem lzUn_how (s : ByteArray) (n k : Nat) (c : UInt8) (h : takeS s = (n, k)) (hk : k ≠ 0) (hn : ¬ 60000 < n) (hs : k < s.size) (hc : s[k] = c) :
    lzUn s = if c = 0 then (if (s.extract (k + 1) s.size).size = n then (s.extract (k + 1) s.size, 0) else (⟨#[]⟩, 2)) else if c ≠ 1 then (⟨#[]⟩, 2)
      else lzFin (lzAll n (s.extract (k + 1) s.size)) := by
  unfold lzUn curHow
  rw [curUint_take, h]
  simp only [if_neg hk, if_neg hn]
  rw [curBytes_one s k hs, hc]
  have e : (bl (⟨#[c]⟩ : ByteArray)).head? = some c := rfl
  simp only [e, Option.some.injEq, Bool.false_eq_true, if_false]
  by_cases c0 : c = 0
  · simp only [if_pos c0]
  · simp only [if_neg c0]
    by_cases c1 : c = 1
    · rw [if_neg (by simp [c1]), if_neg (by simp [c1])]
      cases lzAll n (s.extract (k + 1) s.size) <;> rfl
    · rw [if_pos (by simp [c1]), if_pos (by simp [c1])]
end Go.Proofs.Ythooihkkghfhkaa.My
