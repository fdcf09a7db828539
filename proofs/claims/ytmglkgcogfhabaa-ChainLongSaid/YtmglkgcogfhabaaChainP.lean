/- Chains as bytes, plainly: a chain's bytes are read back; the longest common beginnings and ends. -/
import Derived.Test.YtmglkgcogfhabaaDec
namespace Go.Proofs.Ytmglkgcogfhabaa.My
set_option linter.unusedSimpArgs false
set_option linter.unusedVariables false
open Go.RowKit Go.Proofs.YtmglkgcogfhabaaW.PrintWords Go.Proofs.YtmglkgcogfhabaaW.PrintLast Go.Proofs.Ytmglkgcogfhabaa.Pm

/-! ### common beginnings -/
theorem sameN_take : ∀ (a b : List UInt8), a.take (sameN a b) = b.take (sameN a b)
  | [], b => by cases b <;> simp [sameN]
  | _ :: _, [] => by simp [sameN]
  | x :: r, y :: s => by
    unfold sameN
    split
    · rename_i h; subst h; simp [sameN_take r s]
    · simp
theorem take_same : ∀ (k : Nat) (a b : List UInt8), k ≤ a.length → k ≤ b.length → (a.take k = b.take k ↔ k ≤ sameN a b)
  | 0, a, b, _, _ => by simp
  | k + 1, [], b, h, _ => by simp at h
  | k + 1, _ :: _, [], _, h => by simp at h
  | k + 1, x :: r, y :: s, h1, h2 => by
    have ih := take_same k r s (by simpa using h1) (by simpa using h2)
    unfold sameN
    simp only [List.take_succ_cons, List.cons.injEq]
    by_cases e : x = y
    · rw [if_pos e]; simp only [e, true_and, ih]; omega
    · rw [if_neg e]; simp [e]
theorem sameN_takes (a b : List UInt8) : ∀ (i j : Nat), sameN (a.take i) (b.take j) = min (sameN a b) (min i j) := by
  induction a generalizing b with
  | nil => intro i j; cases b <;> simp [sameN]
  | cons x r ih =>
    intro i j
    cases b with
    | nil => simp [sameN, sameN_nil_r]
    | cons y s =>
      cases i with
      | zero => simp [sameN]
      | succ i =>
        cases j with
        | zero => simp [sameN]
        | succ j =>
          simp only [List.take_succ_cons, sameN]
          by_cases e : x = y
          · rw [if_pos e, if_pos e, ih]; omega
          · rw [if_neg e, if_neg e]; simp
/-- The last bytes: as the first ones, turned. -/
theorem drop_same {k : Nat} {a b : List UInt8} (h1 : k ≤ a.length) (h2 : k ≤ b.length) : (a.drop (a.length - k) = b.drop (b.length - k) ↔ k ≤ sameN a.reverse b.reverse) := by
  rw [← take_same k _ _ (by simpa using h1) (by simpa using h2), List.take_reverse, List.take_reverse]
  exact List.reverse_inj.symm
theorem endsB_eq (base v : ByteArray) (n : Nat) (h1 : n ≤ base.size) (h2 : n ≤ v.size) :
    endsB (base.extract n base.size) (v.extract n v.size) = min (sameN (bl base).reverse (bl v).reverse) (min base.size v.size - n) := by
  unfold endsB
  have e1 : ∀ x : ByteArray, n ≤ x.size → (bl (x.extract n x.size)).reverse = (bl x).reverse.take (x.size - n) := fun x hx => by
    rw [bl_extract, List.take_of_length_le (by rw [bl_length]; exact Nat.le_refl _), List.take_reverse, bl_length]
    congr 2
    omega
  rw [e1 _ h1, e1 _ h2, sameN_takes]
  congr 1
  omega
theorem ext_eq {a b : ByteArray} {i j k l : Nat} : (a.extract i j = b.extract k l ↔ ((bl a).take j).drop i = ((bl b).take l).drop k) := by
  rw [← bl_extract, ← bl_extract]
  exact ⟨fun h => by rw [h], bl_ext⟩
theorem first_eq {a b : ByteArray} {k : Nat} (h1 : k ≤ a.size) (h2 : k ≤ b.size) : (a.extract 0 k = b.extract 0 k ↔ k ≤ sameB a b) := by
  rw [ext_eq]
  simp only [List.drop_zero]
  exact take_same k _ _ (by rw [bl_length]; exact h1) (by rw [bl_length]; exact h2)
theorem last_eq {a b : ByteArray} {k : Nat} (h1 : k ≤ a.size) (h2 : k ≤ b.size) : (a.extract (a.size - k) a.size = b.extract (b.size - k) b.size ↔ k ≤ sameN (bl a).reverse (bl b).reverse) := by
  rw [ext_eq, List.take_of_length_le (by rw [bl_length]; exact Nat.le_refl _), List.take_of_length_le (by rw [bl_length]; exact Nat.le_refl _)]
  have := drop_same (k := k) (a := bl a) (b := bl b) (by rw [bl_length]; exact h1) (by rw [bl_length]; exact h2)
  rw [bl_length, bl_length] at this
  exact this
theorem three (l : List UInt8) (n k : Nat) (h : n ≤ k) (hk : k ≤ l.length) : l.take n ++ ((l.take k).drop n ++ l.drop k) = l := by
  have : (l.take k).drop n ++ l.drop k = l.drop n := by
    conv => rhs; rw [← List.take_append_drop k l]
    rw [List.drop_append_of_le_length (by rw [List.length_take]; omega)]
  rw [this, List.take_append_drop]
/-- What a value's parts are, put together again. -/
theorem baseTo_back (base v : ByteArray) (n m : Nat) (hn : sameB base v = n) (hm : endsB (base.extract n base.size) (v.extract n v.size) = m) : n + m ≤ base.size ∧ n ≤ base.size ∧ baseTo base n m (midS v n m) = v := by
  have hl := sameN_le (bl base) (bl v)
  rw [bl_length, bl_length, show sameN (bl base) (bl v) = n from hn] at hl
  rw [endsB_eq base v n hl.1 hl.2] at hm
  have h1 : n + m ≤ base.size := by omega
  have h2 : n + m ≤ v.size := by omega
  refine ⟨h1, hl.1, ?_⟩
  have f := (first_eq hl.1 hl.2).2 (Nat.le_of_eq hn.symm)
  have g := (last_eq (a := base) (b := v) (k := m) (by omega) (by omega)).2 (by omega)
  unfold baseTo midS
  rw [f, g]
  apply bl_ext
  rw [bl_append, bl_append, bl_extract, bl_extract, bl_extract, List.drop_zero, List.append_assoc, show List.take v.size (bl v) = bl v from List.take_of_length_le (by rw [bl_length]; exact Nat.le_refl _)]
  exact three (bl v) n (v.size - m) (by omega) (by rw [bl_length]; omega)

/-! ### a chain's bytes, version by version -/
def verB (base : ByteArray) (last : Nat) (p : VerT) : ByteArray :=
  if p.2.1 = true then uvS (tdiff p.1 last) ++ ⟨#[1]⟩
  else uvS (tdiff p.1 last) ++ (⟨#[0]⟩ ++ uvS (sameB base p.2.2) ++ uvS (endsB (base.extract (sameB base p.2.2) base.size) (p.2.2.extract (sameB base p.2.2) p.2.2.size))
    ++ textS (midS p.2.2 (sameB base p.2.2) (endsB (base.extract (sameB base p.2.2) base.size) (p.2.2.extract (sameB base p.2.2) p.2.2.size))))
def bodyB : List VerT → ByteArray → Nat → ByteArray
  | [], _, _ => ⟨#[]⟩
  | p :: r, base, last => verB base last p ++ bodyB r (if p.2.1 = true then base else p.2.2) p.1
theorem ba_assoc (a b c : ByteArray) : a ++ b ++ c = a ++ (b ++ c) := by apply bl_ext; simp only [bl_append, List.append_assoc]
theorem ba_nil (a : ByteArray) : a ++ ⟨#[]⟩ = a := by apply bl_ext; rw [bl_append, bl_empty, List.append_nil]
theorem verStep_eq (base : ByteArray) (last : Nat) (p : VerT) (s : ByteArray) : verStep base last p s = s ++ verB base last p := by
  unfold verStep verB
  split <;> simp only [ba_assoc]
theorem chainF_eq : ∀ (ps : List VerT) (base : ByteArray) (last : Nat) (s : ByteArray), chainF ps base last s = s ++ bodyB ps base last
  | [], base, last, s => (ba_nil s).symm
  | p :: r, base, last, s => by
    rw [chainF, chainF_eq r, verStep_eq, bodyB, ba_assoc]
theorem chainS_eq (ps : List VerT) : chainS ps = uvS ps.length ++ bodyB ps ⟨#[]⟩ 0 := chainF_eq _ _ _ _

/-- One version is told of its bytes. -/
theorem ver_back (s : RdS) (p : VerT) (rest : ByteArray) (hr : s.r = verB s.base s.last p ++ rest) (hcb : s.cb = false) (hbad : s.bad = false) (ht : s.last < p.1) (ht2 : p.1 < 18446744073709551616) (hg : p.2.1 = true → p.2.2.size = 0)
    (hv : p.2.2.size < 18446744073709551616) (hbs : s.base.size < 18446744073709551616) :
    verS s = (p, ⟨rest, false, if p.2.1 = true then s.base else p.2.2, p.1, s.size + p.2.2.size, if p.2.1 = true then s.long else (s.long || decide (60000 < s.size + p.2.2.size)), false⟩) := by
  obtain ⟨r, cb, base, last, size, long, bad⟩ := s
  obtain ⟨t, g, v⟩ := p
  simp only at *
  subst hr hcb hbad
  have htd : tadd last (tdiff t last) = t := by unfold tadd tdiff; omega
  have hdec : decide (t ≤ last) = false := decide_eq_false (by omega)
  have hone : ∀ (b : UInt8) (x : ByteArray), curBytes (⟨#[b]⟩ ++ x) false 1 = (⟨#[b]⟩, x, false) := fun b x => curBytes_app _ _ _ rfl
  unfold verS
  simp only
  cases g with
  | true =>
    have hv0 : v = ⟨#[]⟩ := by
      apply bl_ext
      have := hg rfl
      rw [← bl_length] at this
      rw [List.eq_nil_of_length_eq_zero this]
    subst hv0
    unfold verB
    simp only [if_true]
    rw [ba_assoc, curUint_ub _ _ (tdiff_lt t last)]
    simp only [hone, htd, hdec]
    unfold verOf
    rw [if_pos (by rfl)]
    simp [finS]
    rfl
  | false =>
    obtain ⟨n, hn⟩ : ∃ n, sameB base v = n := ⟨_, rfl⟩
    obtain ⟨m, hm⟩ : ∃ m, endsB (base.extract n base.size) (v.extract n v.size) = m := ⟨_, rfl⟩
    obtain ⟨hnm, hnb, hbk⟩ := baseTo_back base v n m hn hm
    unfold verB
    simp only [Bool.false_eq_true, if_false, hn, hm]
    rw [ba_assoc, curUint_ub _ _ (tdiff_lt t last)]
    simp only [htd, hdec]
    rw [ba_assoc, ba_assoc, ba_assoc]
    simp only [hone]
    unfold verOf
    rw [if_neg (by decide), if_pos (by rfl)]
    unfold valS
    simp only
    have hms : (midS v n m).size < 18446744073709551616 := Nat.lt_of_le_of_lt (mid_size v n m) hv
    rw [curUint_ub n _ (by omega)]
    simp only
    rw [curUint_ub m _ (by omega)]
    simp only
    rw [curText_app _ _ hms]
    simp only
    rw [valOf_ok' (by simp only; omega)]
    simp [hbk, finS]

def sumV (ps : List VerT) : Nat := (ps.map fun p => p.2.2.size).sum
def chainFrom : Nat → List VerT → Prop
  | _, [] => True
  | last, p :: r => last < p.1 ∧ p.1 < 18446744073709551616 ∧ (p.2.1 = true → p.2.2.size = 0) ∧ p.2.2.size < 18446744073709551616 ∧ chainFrom p.1 r
theorem chainFrom_of : ∀ (ps : List VerT) (last : Nat), (∀ j (h : j < ps.length), (if h0 : 0 < j then ps[j - 1].1 < ps[j].1 else last < ps[j].1) ∧ ps[j].1 < 18446744073709551616 ∧ (ps[j].2.1 = true → ps[j].2.2.size = 0) ∧ ps[j].2.2.size < 18446744073709551616) → chainFrom last ps
  | [], _, _ => trivial
  | p :: r, last, h => by
    have h0 := h 0 (by simp)
    simp only [Nat.lt_irrefl, dif_neg, not_false_eq_true, List.getElem_cons_zero] at h0
    refine ⟨h0.1, h0.2.1, h0.2.2.1, h0.2.2.2, chainFrom_of r p.1 fun j hj => ?_⟩
    have hk := h (j + 1) (by simp; omega)
    rw [dif_pos (by omega)] at hk
    simp only [List.getElem_cons_succ] at hk
    refine ⟨?_, hk.2⟩
    split
    · rename_i h1
      have e : (p :: r)[j + 1 - 1]'(by simp; omega) = r[j - 1] := by
        obtain ⟨i, rfl⟩ : ∃ i, j = i + 1 := ⟨j - 1, by omega⟩
        simp
      rw [← e]
      exact hk.1
    · rename_i h1
      obtain rfl : j = 0 := by omega
      exact hk.1
theorem chainFrom_right {ps : List VerT} (hR : rightV ps) (hs : ∀ p ∈ ps, p.1 < 18446744073709551616 ∧ p.2.2.size < 18446744073709551616) : chainFrom 0 ps :=
  chainFrom_of ps 0 fun j hj => ⟨by
    split
    · rename_i h0; exact (hR.1 j hj).2.1 h0
    · have := (hR.1 j hj).1; omega, (hs _ (List.getElem_mem hj)).1, (hR.1 j hj).2.2, (hs _ (List.getElem_mem hj)).2⟩
theorem vers_back : ∀ (ps : List VerT) (s : RdS) (out : List VerT), chainFrom s.last ps → s.r = bodyB ps s.base s.last → s.cb = false → s.bad = false → s.long = decide (60000 < s.size) → s.base.size < 18446744073709551616 →
    ∃ s' out', versS ps.length s out = (s', out') ∧ s'.bad = false ∧ (s.size + sumV ps ≤ 60000 → s'.long = false ∧ s'.cb = false ∧ s'.r = ⟨#[]⟩ ∧ out' = out ++ ps) ∧ (60000 < s.size + sumV ps → s'.long = true)
  | [], s, out, _, hr, hcb, hbad, hl, _ => ⟨s, out, rfl, hbad, fun h => ⟨by rw [hl]; simp [sumV] at h; simp; omega, hcb, hr, by simp⟩, fun h => by rw [hl]; simp [sumV] at h; simp; omega⟩
  | p :: ps, s, out, hc, hr, hcb, hbad, hl, hbs => by
    rw [List.length_cons, versS]
    by_cases hlong : 60000 < s.size
    · rw [if_pos (.inr (by rw [hl]; simp; exact hlong))]
      exact ⟨s, out, rfl, hbad, fun h => absurd h (by omega), fun _ => by rw [hl]; simp; exact hlong⟩
    · rw [if_neg (by rw [hl, hbad]; simp; omega)]
      have hv := ver_back s p (bodyB ps (if p.2.1 = true then s.base else p.2.2) p.1) hr hcb hbad hc.1 hc.2.1 hc.2.2.1 hc.2.2.2.1 hbs
      have hlf : s.long = false := by rw [hl]; simp; omega
      rw [hv]
      obtain ⟨s', out', h1, h2, h3, h4⟩ := vers_back ps ⟨bodyB ps (if p.2.1 = true then s.base else p.2.2) p.1, false, if p.2.1 = true then s.base else p.2.2, p.1, s.size + p.2.2.size, if p.2.1 = true then s.long else (s.long || decide (60000 < s.size + p.2.2.size)), false⟩ (out ++ [p]) hc.2.2.2.2 rfl rfl rfl
        (by
          simp only [hlf, Bool.false_or]
          split
          · rename_i h; rw [hc.2.2.1 h]; simp; omega
          · rfl) (by simp only; split; exact hbs; exact hc.2.2.2.1)
      refine ⟨s', out', h1, h2, fun h => ?_, fun h => h4 ?_⟩
      · obtain ⟨a, b, c, d⟩ := h3 (by simp only [sumV, List.map_cons, List.sum_cons] at h ⊢; omega)
        exact ⟨a, b, c, by rw [d, List.append_assoc]; rfl⟩
      · simp only [sumV, List.map_cons, List.sum_cons] at h ⊢; omega
def startS (u : Nat × ByteArray × Bool) : RdS := ⟨u.2.1, u.2.2, ⟨#[]⟩, 0, 0, false, u.2.2 || decide (200 < u.1)⟩
def endS (b : ByteArray) (v : RdS × List VerT) : List VerT × Nat :=
  if v.1.bad = true then ([], 2) else if v.1.long = true then ([], 3) else if v.1.cb = false ∧ v.1.r.size = 0 ∧ chainS v.2 = b then (v.2, 0) else ([], 2)
/-- What bytes are decoded to: the versions, the error. -/
def decS (b : ByteArray) : List VerT × Nat := endS b (versS (curUint b false).1 (startS (curUint b false)) [])
theorem decS_back (ps : List VerT) (hR : rightV ps) (hs : ∀ p ∈ ps, p.1 < 18446744073709551616 ∧ p.2.2.size < 18446744073709551616) : decS (chainS ps) = if sumV ps ≤ 60000 then (ps, 0) else ([], 3) := by
  have hl := hR.2
  have hu : curUint (chainS ps) false = (ps.length, bodyB ps ⟨#[]⟩ 0, false) := by rw [chainS_eq, curUint_ub _ _ (by omega)]
  unfold decS
  rw [hu]
  obtain ⟨s', out', h1, h2, h3, h4⟩ := vers_back ps (startS (ps.length, bodyB ps ⟨#[]⟩ 0, false)) [] (chainFrom_right hR hs) rfl rfl (by simp [startS]; omega) rfl (by show (0 : Nat) < 18446744073709551616; decide)
  simp only [h1]
  unfold endS
  simp only [h2, Bool.false_eq_true, if_false]
  by_cases hsum : sumV ps ≤ 60000
  · obtain ⟨a, b, c, d⟩ := h3 (by simpa [startS] using hsum)
    rw [if_pos hsum]
    simp only [a, Bool.false_eq_true, if_false, b, c]
    rw [if_pos ⟨trivial, rfl, by rw [d]; rfl⟩, d]
    rfl
  · rw [if_neg hsum, if_pos (h4 (by simp [startS]; omega))]

/-! ### what was decoded is a chain -/
def Chained (out : List VerT) (last : Nat) : Prop :=
  (∀ j (h : j < out.length), out[j].1 ≠ 0 ∧ (∀ h0 : 0 < j, out[j - 1].1 < out[j].1) ∧ (out[j].2.1 = true → out[j].2.2.size = 0)) ∧ (out = [] → last = 0) ∧ ∀ h : 0 < out.length, last = out[out.length - 1].1
theorem Chained.snoc {out : List VerT} {last : Nat} (h : Chained out last) (p : VerT) (hp : last < p.1) (hg : p.2.1 = true → p.2.2.size = 0) : Chained (out ++ [p]) p.1 := by
  refine ⟨fun j hj => ?_, fun e => by simp at e, fun h0 => by simp⟩
  rw [List.length_append, List.length_singleton] at hj
  by_cases e : j < out.length
  · have := h.1 j e
    rw [List.getElem_append_left e]
    refine ⟨this.1, fun h0 => ?_, this.2.2⟩
    rw [List.getElem_append_left (by omega)]
    exact this.2.1 h0
  · obtain rfl : j = out.length := by omega
    simp only [List.getElem_concat_length]
    refine ⟨by omega, fun h0 => ?_, hg⟩
    rw [List.getElem_append_left (by omega), ← h.2.2 h0]
    exact hp
theorem ver_good (s : RdS) (h : (verS s).2.bad = false) : s.last < (verS s).1.1 ∧ ((verS s).1.2.1 = true → (verS s).1.2.2.size = 0) ∧ (verS s).2.last = (verS s).1.1 := by
  unfold verS at h ⊢
  generalize curBytes (curUint s.r s.cb).2.1 (curUint s.r s.cb).2.2 1 = Y at *
  generalize tadd s.last (curUint s.r s.cb).1 = t at *
  unfold verOf at h ⊢
  have key : ∀ x : RdS, (valS x).2.bad = false → x.bad = false := fun x => by
    unfold valS vlOf
    split
    · intro h; cases h
    · exact fun h => h
  split at h
  · rename_i e1
    rw [if_pos e1]
    simp [finS] at h
    exact ⟨by simp only; omega, fun _ => rfl, rfl⟩
  · rename_i e1
    rw [if_neg e1]
    split at h
    · rename_i e2
      rw [if_pos e2]
      simp only [finS, Bool.or_eq_false_iff] at h
      have := key _ h.1
      simp only [Bool.or_eq_false_iff, decide_eq_false_iff_not] at this
      exact ⟨by simp only; omega, fun h => by simp at h, by simp only [finS]; rw [(valS_size _).2.2.2]⟩
    · simp [finS] at h
theorem vers_good : ∀ (n : Nat) (s : RdS) (out : List VerT) (s' : RdS) (out' : List VerT) (B : Nat), versS n s out = (s', out') → s'.bad = false → Chained out s.last → s.base.size + s.r.size ≤ B → (∀ p ∈ out, p.1 < 18446744073709551616 ∧ p.2.2.size ≤ B) →
    Chained out' s'.last ∧ out'.length ≤ out.length + n ∧ ∀ p ∈ out', p.1 < 18446744073709551616 ∧ p.2.2.size ≤ B
  | 0, s, out, s', out', B, h, _, hc, _, hp => by
    simp only [versS, Prod.mk.injEq] at h
    obtain ⟨rfl, rfl⟩ := h
    exact ⟨hc, Nat.le_refl _, hp⟩
  | n + 1, s, out, s', out', B, h, hb, hc, hB, hp => by
    rw [versS] at h
    split at h
    · simp only [Prod.mk.injEq] at h
      obtain ⟨rfl, rfl⟩ := h
      exact ⟨hc, by omega, hp⟩
    · have hsz := verS_size s
      have hg : (verS s).2.bad = false := by
        cases hx : (verS s).2.bad with
        | false => rfl
        | true =>
          cases n with
          | zero => simp only [versS, Prod.mk.injEq] at h; rw [← h.1, hx] at hb; cases hb
          | succ n => rw [versS, if_pos (.inl hx)] at h; simp only [Prod.mk.injEq] at h; rw [← h.1, hx] at hb; cases hb
      have hv := ver_good s hg
      obtain ⟨h1, h2, h3⟩ := vers_good n _ _ s' out' B h hb (by rw [hv.2.2]; exact hc.snoc _ hv.1 hv.2.1) (Nat.le_trans hsz.1 hB) (fun p hp' => by
        rcases List.mem_append.1 hp' with h | h
        · exact hp p h
        · rw [List.mem_singleton.1 h]; exact ⟨hsz.2.2.2.2, Nat.le_trans hsz.2.1 hB⟩)
      exact ⟨h1, by rw [List.length_append, List.length_singleton] at h2; omega, h3⟩
theorem decS_err (b : ByteArray) (h : (decS b).2 ≠ 0) : (decS b).1 = [] ∧ ((decS b).2 = 2 ∨ (decS b).2 = 3) := by
  unfold decS endS at *
  split
  · exact ⟨rfl, .inl rfl⟩
  · split
    · exact ⟨rfl, .inr rfl⟩
    · split
      · rename_i h1 h2 h3
        rw [if_neg h1, if_neg h2, if_pos h3] at h
        exact absurd rfl h
      · exact ⟨rfl, .inl rfl⟩
theorem decS_ok (b : ByteArray) (h : (decS b).2 = 0) : rightV (decS b).1 ∧ chainS (decS b).1 = b ∧ ∀ p ∈ (decS b).1, p.1 < 18446744073709551616 ∧ p.2.2.size ≤ b.size := by
  unfold decS endS at h ⊢
  by_cases h1 : (versS (curUint b false).1 (startS (curUint b false)) []).1.bad = true
  · rw [if_pos h1] at h; cases h
  rw [if_neg h1] at h ⊢
  by_cases h2 : (versS (curUint b false).1 (startS (curUint b false)) []).1.long = true
  · rw [if_pos h2] at h; cases h
  rw [if_neg h2] at h ⊢
  have h3 : (versS (curUint b false).1 (startS (curUint b false)) []).1.cb = false ∧ (versS (curUint b false).1 (startS (curUint b false)) []).1.r.size = 0 ∧ chainS (versS (curUint b false).1 (startS (curUint b false)) []).2 = b := by
    by_cases h3 : (versS (curUint b false).1 (startS (curUint b false)) []).1.cb = false ∧ (versS (curUint b false).1 (startS (curUint b false)) []).1.r.size = 0 ∧ chainS (versS (curUint b false).1 (startS (curUint b false)) []).2 = b
    · exact h3
    · rw [if_neg h3] at h; cases h
  rw [if_pos h3]
  have hz := curUint_size b false
  generalize curUint b false = u at *
  generalize hx : versS u.1 (startS u) [] = V at *
  obtain ⟨s', out'⟩ := V
  have hbad : s'.bad = false := by simpa using h1
  obtain ⟨g1, g2, g3⟩ := vers_good u.1 (startS u) [] s' out' b.size hx hbad ⟨fun j hj => absurd hj (by simp), fun _ => rfl, fun h => absurd h (by simp)⟩ (by simp only [startS]; show 0 + _ ≤ _; omega) (fun p hp => absurd hp (by simp))
  refine ⟨⟨g1.1, ?_⟩, h3.2.2, g3⟩
  by_cases h200 : 200 < u.1
  · have hsb : (startS u).bad = true := by simp [startS, h200]
    have hv : versS u.1 (startS u) [] = (startS u, []) := by
      obtain ⟨k, hk⟩ : ∃ k, u.1 = k + 1 := ⟨u.1 - 1, by omega⟩
      rw [hk, versS, if_pos (.inl hsb)]
    rw [hv] at hx
    simp only [Prod.mk.injEq] at hx
    rw [← hx.2]
    simp
  · simp only [List.length_nil, Nat.zero_add] at g2
    show out'.length ≤ 200
    omega
end Go.Proofs.Ytmglkgcogfhabaa.My
