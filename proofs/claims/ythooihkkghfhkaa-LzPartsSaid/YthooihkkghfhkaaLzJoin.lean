/- lz: of parts the bytes are told that they mean. -/
import Derived.Test.YthooihkkghfhkaaLzSpec2
namespace Go.Proofs.Ythooihkkghfhkaa.My
set_option linter.unusedSimpArgs false
set_option linter.unusedVariables false
open Go.RowKit Go.Proofs.YthooihkkghfhkaaW.PrintWords Go.Proofs.YthooihkkghfhkaaW.PrintLast Go.Proofs.Ythooihkkghfhkaa.Pm

abbrev PartT := ByteArray × Nat × Nat
/-- Here the parts end. -/
def jEnd (o : List UInt8) (d n : Nat) : Prop := d < 1 ∨ o.length < d ∨ n < 4 ∨ 5000 < o.length + n
instance (o : List UInt8) (d n : Nat) : Decidable (jEnd o d n) := by unfold jEnd; infer_instance
/-- The bytes of the parts, behind what stands already; what they mean. -/
def joinF : List PartT → ByteArray → List UInt8 → ByteArray × List UInt8
  | [], s, o => (s, o)
  | p :: r, s, o => if jEnd (o ++ bl p.1) p.2.1 p.2.2 ∨ r = [] then (s ++ textS p.1, o ++ bl p.1)
    else joinF r (s ++ textS p.1 ++ (uvS p.2.1 ++ uvS p.2.2)) (lzCopies (o ++ bl p.1) p.2.1 p.2.2)
def joinS (l : List PartT) : ByteArray × ByteArray := (uvS (joinF l ⟨#[]⟩ []).2.length ++ ⟨#[1]⟩ ++ (joinF l ⟨#[]⟩ []).1, ⟨(joinF l ⟨#[]⟩ []).2.toArray⟩)
def joinR : List PartT → List UInt8 → ByteArray
  | [], o => ⟨#[]⟩
  | p :: r, o => if jEnd (o ++ bl p.1) p.2.1 p.2.2 ∨ r = [] then textS p.1 ++ ⟨#[]⟩
    else textS p.1 ++ (uvS p.2.1 ++ (uvS p.2.2 ++ joinR r (lzCopies (o ++ bl p.1) p.2.1 p.2.2)))
def joinO : List PartT → List UInt8 → List UInt8
  | [], o => o
  | p :: r, o => if jEnd (o ++ bl p.1) p.2.1 p.2.2 ∨ r = [] then o ++ bl p.1 else joinO r (lzCopies (o ++ bl p.1) p.2.1 p.2.2)
theorem app_none (s : ByteArray) : s ++ (⟨#[]⟩ : ByteArray) = s := by apply bl_ext; rw [bl_append, bl_empty, List.append_nil]
theorem joinF_eq : ∀ (l : List PartT) (s : ByteArray) (o : List UInt8), joinF l s o = (s ++ joinR l o, joinO l o)
  | [], s, o => by unfold joinF joinR joinO; rw [app_none]
  | p :: r, s, o => by
    unfold joinF joinR joinO
    by_cases h : jEnd (o ++ bl p.1) p.2.1 p.2.2 ∨ r = []
    · rw [if_pos h, if_pos h, if_pos h, app_none]
    · rw [if_neg h, if_neg h, if_neg h, joinF_eq r, ByteArray.append_assoc, ByteArray.append_assoc, ByteArray.append_assoc]
theorem joinO_len : ∀ (l : List PartT) (o : List UInt8), o.length ≤ (joinO l o).length
  | [], o => Nat.le_refl _
  | p :: r, o => by
    unfold joinO
    split
    · rw [List.length_append]; omega
    · have := joinO_len r (lzCopies (o ++ bl p.1) p.2.1 p.2.2)
      rw [lzCopies_length, List.length_append] at this
      omega
theorem textS_pos (s : ByteArray) : 0 < (textS s).size := by
  unfold textS
  rw [ByteArray.size_append, uvS_size]
  have : 0 < (uv s.size).length := by rw [uv]; split <;> simp
  omega
theorem joinR_pos {l : List PartT} (h : l ≠ []) (o : List UInt8) : 0 < (joinR l o).size := by
  cases l with
  | nil => exact absurd rfl h
  | cons p r =>
    unfold joinR
    have := textS_pos p.1
    split <;> rw [ByteArray.size_append] <;> omega
/-- Unpacked, they mean what Join says, if they mean anything. -/
theorem join_tail : ∀ (l : List PartT) (o : List UInt8) (N : Nat), l ≠ [] → (∀ p ∈ l, p.1.size < 18446744073709551616 ∧ p.2.1 < 65536 ∧ p.2.2 < 65536) → N = (joinO l o).length →
    ∀ r' o', ((lzPlain N (joinR l o) o).bind fun p => lzTail N p.1 p.2) = some (r', o') → r'.size = 0 → o' = joinO l o
  | [], o, N, h0, _, _ => absurd rfl h0
  | p :: r, o, N, _, hp, hN => by
    obtain ⟨b, d, n⟩ := p
    obtain ⟨hb, hd, hn⟩ := hp _ (List.mem_cons_self ..)
    simp only at hb hd hn
    intro r' o' h hr
    unfold joinO at hN ⊢
    unfold joinR at h
    simp only at hN h ⊢
    by_cases hc : jEnd (o ++ bl b) d n ∨ r = []
    · rw [if_pos hc] at hN h ⊢
      have e : lzPlain N (textS b ++ ⟨#[]⟩) o = some (⟨#[]⟩, o ++ bl b) := by
        unfold lzPlain
        rw [curText_app b _ hb, if_neg]
        rintro (h | h)
        · exact absurd h (by simp)
        · rw [hN, List.length_append, bl_length] at h; simp only at h; omega
      rw [e] at h
      simp only [Option.bind_some] at h
      rw [lzTail_end (by omega)] at h
      simp only [Option.some.injEq, Prod.mk.injEq] at h
      exact h.2.symm
    · rw [if_neg hc] at hN h ⊢
      have hj : ¬ jEnd (o ++ bl b) d n := fun h => hc (.inl h)
      have hr0 : r ≠ [] := fun h => hc (.inr h)
      have hlen := joinO_len r (lzCopies (o ++ bl b) d n)
      rw [lzCopies_length] at hlen
      have hol : (o ++ bl b).length = o.length + b.size := by rw [List.length_append, bl_length]
      unfold jEnd at hj
      generalize hR : joinR r (lzCopies (o ++ bl b) d n) = R at h
      have e : lzPlain N (textS b ++ (uvS d ++ (uvS n ++ R))) o = some (uvS d ++ (uvS n ++ R), o ++ bl b) := by
        unfold lzPlain
        rw [curText_app b _ hb, if_neg]
        rintro (h | h)
        · exact absurd h (by simp)
        · simp only at h; omega
      rw [e] at h
      simp only [Option.bind_some] at h
      have e2 : lzCopy N (uvS d ++ (uvS n ++ R)) (o ++ bl b) = some (R, lzCopies (o ++ bl b) d n) := by
        unfold lzCopy cur2
        rw [curUint_ub d _ (by omega)]
        simp only
        rw [curUint_ub n _ (by omega)]
        simp only
        rw [if_neg]
        rintro (h | h)
        · exact absurd h (by decide)
        · omega
      have hlt : (o ++ bl b).length < N := by omega
      by_cases h2 : (lzCopies (o ++ bl b) d n).length < N
      · rw [lzTail_more hlt e2 h2, ← hR] at h
        exact join_tail r _ N hr0 (fun p hp' => hp p (List.mem_cons_of_mem _ hp')) hN r' o' h hr
      · rw [lzTail_full hlt e2 h2] at h
        simp only [Option.some.injEq, Prod.mk.injEq] at h
        obtain ⟨rfl, -⟩ := h
        have := joinR_pos hr0 (lzCopies (o ++ bl b) d n)
        rw [hR] at this
        omega
theorem join_means (l : List PartT) (hp : ∀ p ∈ l, p.1.size < 18446744073709551616 ∧ p.2.1 < 65536 ∧ p.2.2 < 65536) (hN : (joinF l ⟨#[]⟩ []).2.length ≤ 60000) (h : (lzUn (joinS l).1).2 = 0) : (lzUn (joinS l).1).1 = (joinS l).2 := by
  unfold joinS at h ⊢
  have e0 : joinF l ⟨#[]⟩ [] = ((⟨#[]⟩ : ByteArray) ++ joinR l [], joinO l []) := joinF_eq l _ _
  have e1 : (⟨#[]⟩ : ByteArray) ++ joinR l [] = joinR l [] := by apply bl_ext; rw [bl_append, bl_empty, List.nil_append]
  rw [e1] at e0
  rw [e0] at h hN ⊢
  simp only at h hN ⊢
  generalize hNN : (joinO l []).length = N at *
  have e2 : lzUn (uvS N ++ ⟨#[1]⟩ ++ joinR l []) = lzFin (lzAll N (joinR l [])) := by
    unfold lzUn curHow
    rw [ByteArray.append_assoc, curUint_ub N _ (by omega)]
    simp only
    rw [curBytes_app (⟨#[1]⟩) (joinR l []) 1 rfl]
    simp only
    rw [if_neg (by omega), if_neg (by decide), if_neg (by decide), if_neg (by decide)]
    unfold lzFin
    cases lzAll N (joinR l []) <;> rfl
  rw [e2] at h ⊢
  cases hL : lzAll N (joinR l []) with
  | none => rw [hL] at h; exact absurd h (by decide)
  | some x =>
    obtain ⟨r', o'⟩ := x
    rw [hL] at h
    unfold lzFin at h ⊢
    simp only at h ⊢
    by_cases hr : r'.size = 0
    · rw [if_pos hr]
      simp only
      congr 2
      cases l with
      | nil =>
        unfold joinR at hL
        have : lzAll N ⟨#[]⟩ = none := by
          unfold lzAll
          rw [lzPlain_bad N ⟨#[]⟩ [] (by decide)]
          rfl
        rw [this] at hL
        cases hL
      | cons p r => exact join_tail (p :: r) [] N (by simp) hp hNN.symm r' o' hL hr
    · rw [if_neg hr] at h
      exact absurd h (by decide)
end Go.Proofs.Ythooihkkghfhkaa.My
