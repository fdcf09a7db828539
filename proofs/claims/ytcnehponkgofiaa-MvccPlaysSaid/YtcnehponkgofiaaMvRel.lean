/- The reference's list of versions beside the store's chains: plain. -/
import Derived.Test.YtcnehponkgofiaaMvK
import Derived.Test.YtcnehponkgofiaaMvPast
namespace Go.Proofs.Ytcnehponkgofiaa.My
set_option linter.unusedSimpArgs false
set_option linter.unusedVariables false
open Go.RowKit Go.Proofs.YtcnehponkgofiaaW.PrintWords Go.Proofs.YtcnehponkgofiaaW.PrintLast Go.Proofs.Ytcnehponkgofiaa.Pm

/-- A key's versions in the list, in order. -/
def chL (L : List ItT) (key : ByteArray) : List VerT := (L.filter fun p => decide (p.1 = key)).map (·.2)
theorem fold_ch {σ : Type} (key : ByteArray) (f : σ → VerT → σ) : ∀ (L : List ItT) (s : σ), L.foldl (fun s p => if p.1 = key then f s p.2 else s) s = (chL L key).foldl f s
  | [], s => rfl
  | p :: r, s => by
    unfold chL
    rw [List.foldl_cons, List.filter_cons]
    by_cases h : p.1 = key
    · rw [if_pos h, if_pos (by simpa using h), List.map_cons, List.foldl_cons]
      exact fold_ch key f r _
    · rw [if_neg h, if_neg (by simpa using h)]
      exact fold_ch key f r _
theorem rLast_ch (L : List ItT) (key : ByteArray) : rLast L key = (chL L key).foldl (fun s v => (max s.1 v.1, s.2 + 1)) (0, 0) := fold_ch key (fun (s : Nat × Nat) v => (max s.1 v.1, s.2 + 1)) L (0, 0)
theorem rAt_ch (L : List ItT) (key : ByteArray) (t : Nat) : rAt L key t = (chL L key).foldl (fun s v => if v.1 ≤ t ∧ s.1.1 < v.1 then (v, true) else s) ((0, false, ⟨#[]⟩), false) := by
  rw [← fold_ch key (fun (s : VerT × Bool) v => if v.1 ≤ t ∧ s.1.1 < v.1 then (v, true) else s)]
  unfold rAt
  congr 1
  funext s p
  by_cases h : p.1 = key <;> simp [h]
theorem right_strict {ps : List VerT} (h : rightV ps) : ps.Pairwise fun a b => a.1 < b.1 := by
  rw [List.pairwise_iff_getElem]
  intro i j hi hj hij
  have h1 := right_rising h i (j - 1) hi (by omega) (by omega)
  have h2 := (h.1 j hj).2.1 (by omega)
  omega
theorem right_pos {ps : List VerT} (h : rightV ps) : ∀ v ∈ ps, 0 < v.1 := fun v hv => by
  obtain ⟨j, hj, rfl⟩ := List.getElem_of_mem hv
  exact Nat.pos_of_ne_zero (h.1 j hj).1
theorem lastS_snoc (ch : List VerT) (v : VerT) : lastS (ch ++ [v]) = v.1 := by
  unfold lastS
  rw [List.getLast?_append]
  rfl
theorem lastS_le : ∀ {ch : List VerT} {v : VerT}, (∀ a ∈ ch, a.1 < v.1) → lastS ch ≤ v.1 := fun {ch v} h => by
  unfold lastS
  cases e : ch.getLast? with
  | none => exact Nat.zero_le _
  | some a => exact Nat.le_of_lt (h a (List.mem_of_getLast? e))
theorem fold_last : ∀ (r : List VerT), (r.reverse.Pairwise fun a b => a.1 < b.1) → r.reverse.foldl (fun (s : Nat × Nat) (v : VerT) => (max s.1 v.1, s.2 + 1)) (0, 0) = (lastS r.reverse, r.length)
  | [], _ => rfl
  | v :: r, h => by
    rw [List.reverse_cons] at h ⊢
    obtain ⟨h1, _, h3⟩ := List.pairwise_append.1 h
    rw [List.foldl_append, fold_last r h1, lastS_snoc]
    have := lastS_le (ch := r.reverse) (v := v) fun a ha => h3 a ha v (by simp)
    simp only [List.foldl_cons, List.foldl_nil, List.length_cons, Nat.max_eq_right this]
theorem fold_at (t : Nat) : ∀ (r : List VerT), (r.reverse.Pairwise fun a b => a.1 < b.1) → (∀ v ∈ r, 0 < v.1) → r.reverse.foldl (fun (s : VerT × Bool) (v : VerT) => if v.1 ≤ t ∧ s.1.1 < v.1 then (v, true) else s) ((0, false, ⟨#[]⟩), false) = atF r.reverse t
  | [], _, _ => rfl
  | v :: r, h, hp => by
    rw [List.reverse_cons] at h ⊢
    obtain ⟨h1, _, h3⟩ := List.pairwise_append.1 h
    rw [List.foldl_append, fold_at t r h1 (fun a ha => hp a (List.mem_cons_of_mem _ ha))]
    simp only [List.foldl_cons, List.foldl_nil]
    have hlt : (atF r.reverse t).1.1 < v.1 := by
      unfold atF
      cases e : r.reverse.reverse.find? (fun v => decide (v.1 ≤ t)) with
      | none => exact hp v (List.mem_cons_self ..)
      | some a => exact h3 a (List.mem_reverse.1 (List.mem_of_find?_eq_some e)) v (by simp)
    by_cases ht : v.1 ≤ t
    · rw [if_pos ⟨ht, hlt⟩]
      unfold atF
      rw [List.reverse_append, List.reverse_cons, List.reverse_nil, List.nil_append, List.singleton_append, List.find?_cons_of_pos (by simpa using ht)]
    · rw [if_neg (fun e => ht e.1), atF_later (by omega)]
theorem fold_last' {ch : List VerT} (h : rightV ch) : ch.foldl (fun (s : Nat × Nat) (v : VerT) => (max s.1 v.1, s.2 + 1)) (0, 0) = (lastS ch, ch.length) := by
  have := fold_last ch.reverse (by rw [List.reverse_reverse]; exact right_strict h)
  rwa [List.reverse_reverse, List.length_reverse] at this
theorem fold_at' {ch : List VerT} (h : rightV ch) (t : Nat) : ch.foldl (fun (s : VerT × Bool) (v : VerT) => if v.1 ≤ t ∧ s.1.1 < v.1 then (v, true) else s) ((0, false, ⟨#[]⟩), false) = atF ch t := by
  have := fold_at t ch.reverse (by rw [List.reverse_reverse]; exact right_strict h) (fun v hv => right_pos h v (List.mem_reverse.1 hv))
  rwa [List.reverse_reverse] at this

/-- The reference's list and the store's entries say the same. -/
structure Rel (L : List ItT) (es : List EntP) : Prop where
  ch : ∀ k, chL L k = chS es k
  right : ∀ k, rightV (chS es k)
  keys : rKeys L = es.map (·.key)
theorem rel_right {es : List EntP} (h : ∀ e ∈ es, rightV e.ch) (k : ByteArray) : rightV (chS es k) := by
  unfold chS
  cases e : entOf es k with
  | none => exact ⟨fun j hj => absurd hj (by simp), by simp⟩
  | some p => exact h p (List.mem_of_find?_eq_some e)
theorem Rel.last {L : List ItT} {es : List EntP} (h : Rel L es) (k : ByteArray) : rLast L k = (lastS (chS es k), (chS es k).length) := by
  rw [rLast_ch, h.ch, fold_last' (h.right k)]
theorem Rel.at_ {L : List ItT} {es : List EntP} (h : Rel L es) (k : ByteArray) (t : Nat) : rAt L k t = atF (chS es k) t := by
  rw [rAt_ch, h.ch, fold_at' (h.right k)]
theorem Rel.err {L : List ItT} {es : List EntP} (h : Rel L es) (k : ByteArray) (x : VerT) : rErr L k x = errS es k x := by
  unfold rErr errS
  rw [h.last]
theorem rel_nil : Rel [] [] := ⟨fun _ => rfl, fun _ => ⟨fun j hj => absurd hj (by simp [chS, entOf]), by simp [chS, entOf]⟩, rfl⟩
theorem take_all {α : Type} {p : α → Bool} : ∀ {l r : List α}, (∀ a ∈ l, p a = true) → (l ++ r).takeWhile p = l ++ r.takeWhile p
  | [], r, _ => rfl
  | a :: l, r, h => by
    rw [List.cons_append, List.takeWhile_cons, h a (List.mem_cons_self ..), if_pos rfl, take_all (l := l) (fun b hb => h b (List.mem_cons_of_mem _ hb))]
    rfl
theorem kless_of {a b : ByteArray} (h : keyLess a b) : kless a b = true := h
theorem kless_no {a b : ByteArray} (h : keyLess a b) : kless b a = false := by
  cases e : kless b a with
  | false => rfl
  | true => exact absurd (bless_trans _ _ _ h e) (kless_irrefl a)
theorem cK_is {k1 r : List ByteArray} {key : ByteArray} (h1 : ∀ a ∈ k1, keyLess a key) (h2 : ∀ a, r.head? = some a → kless a key = false) : cK (k1 ++ r) key = k1.length := by
  unfold cK
  rw [take_all fun a ha => kless_of (h1 a ha)]
  cases r with
  | nil => simp
  | cons a r => rw [List.takeWhile_cons, h2 a rfl]; simp
theorem insK_has {k1 k2 : List ByteArray} {key : ByteArray} (h1 : ∀ a ∈ k1, keyLess a key) : insK (k1 ++ key :: k2) key = k1 ++ key :: k2 := by
  unfold insK
  rw [cK_is h1 (fun a ha => by
    simp only [List.head?_cons, Option.some.injEq] at ha
    subst ha
    cases e : kless key key with
    | false => rfl
    | true => exact absurd e (kless_irrefl key)), if_pos (by simp)]
theorem insK_new {k1 k2 : List ByteArray} {key : ByteArray} (h1 : ∀ a ∈ k1, keyLess a key) (h2 : ∀ a ∈ k2, keyLess key a) : insK (k1 ++ k2) key = k1 ++ key :: k2 := by
  unfold insK
  rw [cK_is h1 (fun a ha => kless_no (h2 a (List.mem_of_head? ha))), if_neg]
  · simp
  · intro e
    rw [List.getElem?_append_right (Nat.le_refl _), Nat.sub_self, ← List.head?_eq_getElem?] at e
    exact keyLess_irr (h2 key (List.mem_of_head? e)) rfl
theorem rKeys_snoc (L : List ItT) (p : ItT) : rKeys (L ++ [p]) = insK (rKeys L) p.1 := by
  unfold rKeys
  rw [List.foldl_append]
  rfl
theorem chL_snoc (L : List ItT) (p : ItT) (k : ByteArray) : chL (L ++ [p]) k = if p.1 = k then chL L k ++ [p.2] else chL L k := by
  unfold chL
  rw [List.filter_append, List.filter_cons, List.filter_nil, List.map_append]
  by_cases h : p.1 = k
  · rw [if_pos (by simpa using h), if_pos h]; rfl
  · rw [if_neg (by simpa using h), if_neg h]; simp
theorem keys_pr (es : List EntP) : es.map (·.key) = (es.map pr).map (·.1) := by
  rw [List.map_map]
  rfl
theorem Rel.inst {L : List ItT} {es es' : List EntP} {key : ByteArray} {x : VerT} (h : Rel L es) (hr : es.Pairwise fun a b => keyLess a.key b.key) (hr' : es'.Pairwise fun a b => keyLess a.key b.key) (ho : ∀ e ∈ es', rightV e.ch) (hi : InstIs es es' key x) : Rel (L ++ [(key, x)]) es' := by
  have hp' : (es'.map pr).Pairwise fun a b => keyLess a.1 b.1 := List.pairwise_map.2 hr'
  obtain ⟨l1, l2, ch, h1, h2, e', e⟩ := inst_parts hr hr' hi
  rw [e'] at hp'
  have h3 : ∀ a ∈ l1, keyLess a.1 key := fun a ha => (List.pairwise_append.1 hp').2.2 a ha _ (List.mem_cons_self ..)
  have hn2 : ∀ a ∈ l2, a.1 ≠ key := fun a ha => keyLess_ne (h2 a ha)
  refine ⟨fun k => ?_, rel_right ho, ?_⟩
  · rw [chL_snoc, h.ch, chS_pr, chS_pr, e']
    by_cases hk : key = k
    · subst hk
      rw [if_pos rfl, chP_app l1 l2 _ key h1 rfl]
      rcases e with e | ⟨rfl, e⟩
      · rw [e, chP_app l1 l2 _ key h1 rfl]
      · rw [e, chP_none _ _ (fun a ha => (List.mem_append.1 ha).elim (h1 a) (hn2 a))]
    · rw [if_neg hk]
      rcases e with e | ⟨rfl, e⟩
      · rw [e, chP_other l1 l2 (key, ch ++ [x]) (key, ch) k hk hk]
      · rw [e, chP_skip l1 l2 _ k hk]
  · rw [rKeys_snoc, h.keys, keys_pr, keys_pr, e', List.map_append, List.map_cons]
    have g1 : ∀ a ∈ l1.map (·.1), keyLess a key := fun a ha => by
      obtain ⟨b, hb, rfl⟩ := List.mem_map.1 ha
      exact h3 b hb
    have g2 : ∀ a ∈ l2.map (·.1), keyLess key a := fun a ha => by
      obtain ⟨b, hb, rfl⟩ := List.mem_map.1 ha
      exact h2 b hb
    rcases e with e | ⟨rfl, e⟩
    · rw [e, List.map_append, List.map_cons]
      exact insK_has g1
    · rw [e, List.map_append]
      exact insK_new g1 g2
/-- A scan of entries, by the reference's way. -/
def tkE (lo hi : ByteArray) (t : Nat) (most : Int) (e : EntT) (out : List WrT) : Prop :=
  kless e.1 lo = false ∧ (hi.size = 0 ∨ kless e.1 hi = true) ∧ (atF e.2 t).2 = true ∧ (atF e.2 t).1.2.1 = false ∧ (out.length : Int) < most
noncomputable instance (lo hi : ByteArray) (t : Nat) (most : Int) (e : EntT) (out : List WrT) : Decidable (tkE lo hi t most e out) := by unfold tkE; infer_instance
noncomputable def stE (lo hi : ByteArray) (t : Nat) (most : Int) (out : List WrT) (e : EntT) : List WrT := if tkE lo hi t most e out then out ++ [(e.1, false, (atF e.2 t).1.2.2)] else out
theorem fold_none {lo hi : ByteArray} {t : Nat} {most : Int} {out : List WrT} : ∀ {ps : List EntT}, (∀ a ∈ ps, ¬ tkE lo hi t most a out) → ps.foldl (stE lo hi t most) out = out
  | [], _ => rfl
  | a :: r, h => by
    rw [List.foldl_cons, show stE lo hi t most out a = out from if_neg (h a (List.mem_cons_self ..))]
    exact fold_none fun b hb => h b (List.mem_cons_of_mem _ hb)
theorem fold_scan {lo hi : ByteArray} {t : Nat} {most : Int} : ∀ (ps : List EntT) (out : List WrT), (ps.Pairwise fun a b => keyLess a.1 b.1) → ps.foldl (stE lo hi t most) out = scanL hi t most (fromS ps lo) out
  | [], out, _ => rfl
  | e :: r, out, hp => by
    obtain ⟨hp1, hp2⟩ := List.pairwise_cons.1 hp
    have ih := fun o => fold_scan (lo := lo) (hi := hi) (t := t) (most := most) r o hp2
    by_cases hl : kless e.1 lo = true
    · rw [List.foldl_cons, show stE lo hi t most out e = out from if_neg (fun h => by rw [h.1] at hl; cases hl), ih]
      unfold fromS
      rw [List.filter_cons, hl]
      rfl
    · have hl : kless e.1 lo = false := by simpa using hl
      have ef : fromS (e :: r) lo = e :: fromS r lo := by
        unfold fromS
        rw [List.filter_cons, hl]
        rfl
      rw [ef]
      by_cases hs : (hi.size ≠ 0 ∧ kless e.1 hi = false) ∨ most ≤ out.length
      · rw [scan_stop hs]
        refine fold_none fun a ha hk => ?_
        obtain ⟨_, k2, _, _, k5⟩ := hk
        rcases hs with ⟨s1, s2⟩ | hs
        · rcases k2 with k2 | k2
          · exact s1 k2
          · rcases List.mem_cons.1 ha with rfl | ha
            · rw [s2] at k2; cases k2
            · have : kless e.1 hi = true := bless_trans _ _ _ (hp1 a ha) k2
              rw [s2] at this; cases this
        · omega
      · rw [List.foldl_cons, ih, scanL, if_neg hs]
        congr 1
        unfold stE
        by_cases hv : (atF e.2 t).2 = true ∧ (atF e.2 t).1.2.1 = false
        · rw [if_pos hv, if_pos ⟨hl, by
            by_cases h0 : hi.size = 0
            · exact .inl h0
            · refine .inr ?_
              cases hx : kless e.1 hi with
              | true => rfl
              | false => exact absurd (.inl ⟨h0, hx⟩) hs, hv.1, hv.2, by
            have : ¬ most ≤ out.length := fun h => hs (.inr h)
            omega⟩]
        · rw [if_neg hv, if_neg (fun h => hv ⟨h.2.2.1, h.2.2.2.1⟩)]
theorem chS_mem {es : List EntP} (hr : es.Pairwise fun a b => keyLess a.key b.key) {e : EntP} (he : e ∈ es) : chS es e.key = e.ch := by
  obtain ⟨l1, l2, rfl⟩ := List.append_of_mem he
  have h3 := (List.pairwise_append.1 hr).2.2
  rw [chS_pr, List.map_append, List.map_cons]
  exact chP_app _ _ (pr e) e.key (fun a ha => by
    obtain ⟨b, hb, rfl⟩ := List.mem_map.1 ha
    exact keyLess_irr (h3 b hb _ (List.mem_cons_self ..))) rfl
theorem foldl_same {α β : Type} {f g : β → α → β} : ∀ (l : List α) (s : β), (∀ a ∈ l, ∀ s, f s a = g s a) → l.foldl f s = l.foldl g s
  | [], _, _ => rfl
  | a :: r, s, h => by
    rw [List.foldl_cons, List.foldl_cons, h a (List.mem_cons_self ..) s]
    exact foldl_same r _ fun b hb => h b (List.mem_cons_of_mem _ hb)
theorem Rel.scan {L : List ItT} {es : List EntP} (h : Rel L es) (hr : es.Pairwise fun a b => keyLess a.key b.key) (lo hi : ByteArray) (t : Nat) (most : Int) : rScan L lo hi t most (rKeys L) = scanL hi t most (fromS (es.map pr) lo) [] := by
  rw [← fold_scan _ _ (List.pairwise_map.2 hr), List.foldl_map, h.keys]
  unfold rScan
  rw [List.foldl_map]
  refine foldl_same _ _ fun e he s => ?_
  have e1 : rAt L e.key t = atF e.ch t := by rw [h.at_, chS_mem hr he]
  unfold stE
  have e2 : rTake L lo hi t most e.key s ↔ tkE lo hi t most (pr e) s := by
    unfold rTake tkE
    rw [e1]
    exact Iff.rfl
  by_cases hc : tkE lo hi t most (pr e) s
  · rw [if_pos hc, if_pos (e2.2 hc), e1]; rfl
  · rw [if_neg hc, if_neg (fun h => hc (e2.1 h))]
end Go.Proofs.Ytcnehponkgofiaa.My
