/- What an installation changes nothing of: the plain law of MvccPast. -/
import Derived.Test.YtcnehponkgofiaaScan
namespace Go.Proofs.Ytcnehponkgofiaa.My
set_option linter.unusedSimpArgs false
set_option linter.unusedVariables false
open Go.RowKit Go.Proofs.YtcnehponkgofiaaW.PrintWords Go.Proofs.YtcnehponkgofiaaW.PrintLast Go.Proofs.Ytcnehponkgofiaa.Pm

def chP (ps : List EntT) (key : ByteArray) : List VerT := match ps.find? (fun e => decide (e.1 = key)) with
  | some e => e.2
  | none => []
theorem chS_pr (es : List EntP) (key : ByteArray) : chS es key = chP (es.map pr) key := by
  unfold chS chP entOf
  rw [List.find?_map]
  show _ = match Option.map pr (es.find? fun e => decide (e.key = key)) with | some e => e.2 | none => []
  cases es.find? fun e => decide (e.key = key) <;> rfl
theorem chP_app (l1 l2 : List EntT) (e : EntT) (key : ByteArray) (h1 : ∀ a ∈ l1, a.1 ≠ key) (he : e.1 = key) : chP (l1 ++ e :: l2) key = e.2 := by
  unfold chP
  rw [List.find?_append, List.find?_eq_none.2 (fun a ha => by simpa using h1 a ha), Option.none_or, List.find?_cons_of_pos (by simpa using he)]
theorem chP_other (l1 l2 : List EntT) (e e' : EntT) (key : ByteArray) (he : e.1 ≠ key) (he' : e'.1 ≠ key) : chP (l1 ++ e :: l2) key = chP (l1 ++ e' :: l2) key := by
  unfold chP
  rw [List.find?_append, List.find?_append, List.find?_cons_of_neg (by simpa using he), List.find?_cons_of_neg (by simpa using he')]
theorem chP_skip (l1 l2 : List EntT) (e : EntT) (key : ByteArray) (he : e.1 ≠ key) : chP (l1 ++ e :: l2) key = chP (l1 ++ l2) key := by
  unfold chP
  rw [List.find?_append, List.find?_append, List.find?_cons_of_neg (by simpa using he)]
theorem chP_none (l : List EntT) (key : ByteArray) (h : ∀ a ∈ l, a.1 ≠ key) : chP l key = [] := by
  unfold chP
  rw [List.find?_eq_none.2 (fun a ha => by simpa using h a ha)]
theorem atF_later {ch : List VerT} {x : VerT} {t : Nat} (h : t < x.1) : atF (ch ++ [x]) t = atF ch t := by
  unfold atF
  rw [List.reverse_append, List.reverse_cons, List.reverse_nil, List.nil_append, List.singleton_append, List.find?_cons_of_neg (by simpa using h)]
theorem atF_one {x : VerT} {t : Nat} (h : t < x.1) : (atF [x] t).2 = false := by
  have : atF [x] t = atF [] t := atF_later (ch := []) h
  rw [this]
  rfl
/-- How an installation that succeeds parts the entries. -/
theorem inst_parts {es es' : List EntP} {key : ByteArray} {x : VerT} (hr : es.Pairwise fun a b => keyLess a.key b.key) (hr' : es'.Pairwise fun a b => keyLess a.key b.key) (h : InstIs es es' key x) :
    ∃ (l1 l2 : List EntT) (ch : List VerT), (∀ a ∈ l1, a.1 ≠ key) ∧ (∀ a ∈ l2, keyLess key a.1) ∧ es'.map pr = l1 ++ (key, ch ++ [x]) :: l2 ∧ (es.map pr = l1 ++ (key, ch) :: l2 ∨ (ch = [] ∧ es.map pr = l1 ++ l2)) := by
  have hp' : (es'.map pr).Pairwise fun a b => keyLess a.1 b.1 := List.pairwise_map.2 hr'
  rcases h with ⟨i, hi, hk, e⟩ | ⟨i, hi, hn, e⟩
  · have hlen : i < (es.map pr).length := by rw [List.length_map]; exact hi
    have e2 : es.map pr = (es.map pr).take i ++ (key, es[i].ch) :: (es.map pr).drop (i + 1) := by
      conv => lhs; rw [← List.take_append_drop i (es.map pr), List.drop_eq_getElem_cons hlen]
      rw [List.getElem_map]
      unfold pr
      rw [hk]
    have e3 : es'.map pr = (es.map pr).take i ++ (key, es[i].ch ++ [x]) :: (es.map pr).drop (i + 1) := by
      rw [e, List.set_eq_take_append_cons_drop, if_pos hlen]
    have hp2 := hp'
    rw [e3] at hp2
    obtain ⟨_, h2, h3⟩ := List.pairwise_append.1 hp2
    exact ⟨_, _, _, fun a ha => keyLess_irr (h3 a ha _ (List.mem_cons_self ..)), (List.pairwise_cons.1 h2).1, e3, .inl e2⟩
  · have hp2 := hp'
    rw [e] at hp2
    obtain ⟨_, h2, h3⟩ := List.pairwise_append.1 hp2
    exact ⟨_, _, [], fun a ha => keyLess_irr (h3 a ha _ (List.mem_cons_self ..)), (List.pairwise_cons.1 h2).1, e, .inr ⟨rfl, (List.take_append_drop i _).symm⟩⟩
theorem keyLess_ne {a b : ByteArray} (h : keyLess a b) : b ≠ a := fun e => keyLess_irr h e.symm
theorem past_at {es es' : List EntP} {key : ByteArray} {x : VerT} {t : Nat} (hr : es.Pairwise fun a b => keyLess a.key b.key) (hr' : es'.Pairwise fun a b => keyLess a.key b.key) (h : InstIs es es' key x) (ht : t < x.1) (k : ByteArray) : atF (chS es' k) t = atF (chS es k) t := by
  obtain ⟨l1, l2, ch, h1, h2, e', e⟩ := inst_parts hr hr' h
  rw [chS_pr, chS_pr, e']
  by_cases hk : key = k
  · subst hk
    rw [chP_app l1 l2 _ key h1 rfl]
    simp only
    rw [atF_later ht]
    rcases e with e | ⟨rfl, e⟩
    · rw [e, chP_app l1 l2 _ key h1 rfl]
    · rw [e, chP_none _ _ (fun a ha => (List.mem_append.1 ha).elim (h1 a) (fun h => keyLess_ne (h2 a h)))]
  · rcases e with e | ⟨rfl, e⟩
    · rw [e, chP_other l1 l2 (key, ch ++ [x]) (key, ch) k hk hk]
    · rw [e, chP_skip l1 l2 _ k hk]
theorem scan_same {hi : ByteArray} {t : Nat} {most : Int} {e e' : EntT} (hk : e.1 = e'.1) (ha : atF e.2 t = atF e'.2 t) (l2 : List EntT) : ∀ (l1 : List EntT) (out : List WrT), scanL hi t most (l1 ++ e :: l2) out = scanL hi t most (l1 ++ e' :: l2) out
  | [], out => by
    simp only [List.nil_append]
    rw [scanL, scanL, hk, ha]
  | a :: r, out => by
    simp only [List.cons_append]
    rw [scanL, scanL]
    split
    · rfl
    · exact scan_same hk ha l2 r _
theorem scan_most {hi : ByteArray} {t : Nat} {most : Int} : ∀ (l : List EntT) (out : List WrT), most ≤ out.length → scanL hi t most l out = out
  | [], out, _ => by rw [scanL]
  | a :: r, out, h => by rw [scanL, if_pos (.inr h)]
theorem scan_ins {hi : ByteArray} {t : Nat} {most : Int} {e : EntT} (ha : (atF e.2 t).2 = false) (l2 : List EntT) (h2 : ∀ a ∈ l2, keyLess e.1 a.1) : ∀ (l1 : List EntT) (out : List WrT), scanL hi t most (l1 ++ e :: l2) out = scanL hi t most (l1 ++ l2) out
  | [], out => by
    simp only [List.nil_append]
    rw [scanL, ha]
    by_cases hc : (hi.size ≠ 0 ∧ kless e.1 hi = false) ∨ most ≤ out.length
    · rw [if_pos hc]
      rcases hc with ⟨h0, hh⟩ | hc
      · cases l2 with
        | nil => rw [scanL]
        | cons a r =>
          rw [scan_stop]
          refine .inl ⟨h0, ?_⟩
          cases hx : kless a.1 hi with
          | false => rfl
          | true =>
            have := bless_trans _ _ _ (h2 a (List.mem_cons_self ..)) hx
            unfold kless at hh
            rw [this] at hh
            cases hh
      · rw [scan_most _ _ hc]
    · rw [if_neg hc, if_neg (by rintro ⟨h, _⟩; cases h)]
  | a :: r, out => by
    simp only [List.cons_append]
    rw [scanL, scanL]
    split
    · rfl
    · exact scan_ins ha l2 h2 r _
theorem scan_len {hi : ByteArray} {t : Nat} {most : Int} : ∀ (l : List EntT) (out : List WrT), (scanL hi t most l out).length ≤ out.length + l.length
  | [], out => by rw [scanL]; exact Nat.le_refl _
  | a :: r, out => by
    rw [scanL, List.length_cons]
    split
    · omega
    · have := scan_len (hi := hi) (t := t) (most := most) r (if (atF a.2 t).2 = true ∧ (atF a.2 t).1.2.1 = false then out ++ [(a.1, false, (atF a.2 t).1.2.2)] else out)
      refine Nat.le_trans this ?_
      split
      · rw [List.length_append, List.length_singleton]; omega
      · omega
theorem from_app (l1 l2 : List EntT) (e : EntT) (lo : ByteArray) : fromS (l1 ++ e :: l2) lo = if kless e.1 lo = true then fromS l1 lo ++ fromS l2 lo else fromS l1 lo ++ e :: fromS l2 lo := by
  unfold fromS
  rw [List.filter_append, List.filter_cons]
  cases kless e.1 lo <;> simp
theorem past_scan {es es' : List EntP} {key : ByteArray} {x : VerT} {t : Nat} (hr : es.Pairwise fun a b => keyLess a.key b.key) (hr' : es'.Pairwise fun a b => keyLess a.key b.key) (h : InstIs es es' key x) (ht : t < x.1) (lo hi : ByteArray) (most : Int) (out : List WrT) :
    scanL hi t most (fromS (es'.map pr) lo) out = scanL hi t most (fromS (es.map pr) lo) out := by
  obtain ⟨l1, l2, ch, h1, h2, e', e⟩ := inst_parts hr hr' h
  rw [e', from_app]
  rcases e with e | ⟨rfl, e⟩
  · rw [e, from_app]
    simp only
    split
    · rfl
    · exact scan_same (e := (key, ch ++ [x])) (e' := (key, ch)) rfl (atF_later ht) _ _ _
  · rw [e]
    have ef : fromS (l1 ++ l2) lo = fromS l1 lo ++ fromS l2 lo := by unfold fromS; rw [List.filter_append]
    rw [ef]
    split
    · rfl
    · exact scan_ins (atF_one ht) _ (fun a ha => h2 a (List.mem_filter.1 ha).1) _ _
end Go.Proofs.Ytcnehponkgofiaa.My
