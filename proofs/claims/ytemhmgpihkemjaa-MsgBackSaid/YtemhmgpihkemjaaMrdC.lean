/- msg.Decode, plain: whatever bytes; one byte more. -/
import Derived.Test.YtemhmgpihkemjaaMrdB
namespace Go.Proofs.Ytemhmgpihkemjaa.My
set_option linter.unusedSimpArgs false
set_option linter.unusedVariables false
open Go.RowKit Go.Proofs.YtemhmgpihkemjaaW.PrintWords Go.Proofs.YtemhmgpihkemjaaW.PrintLast Go.Proofs.Ytemhmgpihkemjaa.Pm

theorem curUint_ext {s : ByteArray} (u : ByteArray) (h : (curUint s false).2.2 = false) : curUint (s ++ u) false = ((curUint s false).1, (curUint s false).2.1 ++ u, false) := by
  have e := curUint_split s h
  have := curUint_ub (curUint s false).1 ((curUint s false).2.1 ++ u) (curUint_lt64 s false)
  rwa [← ByteArray.append_assoc, ← e] at this
theorem ext_parts (r : ByteArray) {n : Nat} (h : n ≤ r.size) : r = r.extract 0 n ++ r.extract n r.size ∧ (r.extract 0 n).size = n := by
  refine ⟨bl_ext ?_, by rw [ByteArray.size_extract]; omega⟩
  rw [bl_append, bl_extract, bl_extract, List.drop_zero, List.take_of_length_le (show (bl r).length ≤ r.size by rw [bl_length]; exact Nat.le_refl _), List.take_append_drop]
theorem curText_split (s : ByteArray) (h : (curText s false).2.2 = false) : s = textS (curText s false).1 ++ (curText s false).2.1 ∧ (curUint s false).2.2 = false := by
  unfold curText at h ⊢
  by_cases c1 : (curUint s false).2.1.size < (curUint s false).1
  · rw [if_pos c1] at h; cases h
  · rw [if_neg c1] at h ⊢
    by_cases c2 : (curUint s false).2.2 = true
    · rw [if_pos c2] at h; cases h
    · rw [if_neg c2] at h ⊢
      have hb : (curUint s false).2.2 = false := by simpa using c2
      have e := curUint_split s hb
      refine ⟨?_, hb⟩
      unfold curBytes
      rw [if_neg (by rintro (x | x | x); cases x; omega; omega)]
      simp only [Int.toNat_natCast]
      obtain ⟨p1, p2⟩ := ext_parts (curUint s false).2.1 (show (curUint s false).1 ≤ (curUint s false).2.1.size by omega)
      unfold textS
      rw [p2, ByteArray.append_assoc, ← p1]
      exact e
/-- A step that is not bad at last. -/
theorem decL_step {K n was : Nat} {s s' : ByteArray} {r r' : RM} (h : decL K n s false was r = (s', false, r')) (hb : r'.bad = false) (hn : s.size < n) :
    r.bad = false ∧ ((s.size = 0 ∧ s' = s ∧ r' = r) ∨ ∃ hd t s2, s = uvS hd ++ (textS t ++ s2) ∧ hd < 18446744073709551616 ∧ t.size ≤ s.size ∧ was < hd / 2 ∧ s2.size < s.size ∧ decL K (n - 1) s2 false (hd / 2) (fldM hd t K r) = (s', false, r')) := by
  have hrb : r.bad = false := by
    cases e : r.bad with
    | false => rfl
    | true =>
      rw [decL_stop (.inr (.inr e))] at h
      injection h with _ h
      injection h with _ h
      rw [← h, e] at hb
      cases hb
  refine ⟨hrb, ?_⟩
  by_cases hz : s.size = 0
  · rw [decL_stop (.inl hz)] at h
    injection h with h1 h
    injection h with _ h
    exact .inl ⟨hz, h1.symm, h.symm⟩
  · obtain ⟨k, rfl⟩ : ∃ k, n = k + 1 := ⟨n - 1, by omega⟩
    rw [decL, if_neg (by rintro (x | x | x); exact hz x; cases x; rw [hrb] at x; cases x)] at h
    have hu : (curUint s false).2.2 = false := by
      cases e : (curUint s false).2.2 with
      | false => rfl
      | true =>
        rw [e, curText_of_bad, decL_stop (.inr (.inl rfl))] at h
        injection h with _ h
        injection h with h _
    rw [hu] at h
    have ht : (curText (curUint s false).2.1 false).2.2 = false := by
      cases e : (curText (curUint s false).2.1 false).2.2 with
      | false => rfl
      | true =>
        rw [e, decL_stop (.inr (.inl rfl))] at h
        injection h with _ h
        injection h with h _
    rw [ht] at h
    by_cases hq : was < (curUint s false).1 / 2
    · rw [if_pos ⟨rfl, hq⟩] at h
      have e1 := curUint_split s hu
      have e2 := (curText_split _ ht).1
      have z1 := curUint_shrinks s hu
      have z2 := curText_sz (curUint s false).2.1 false
      refine .inr ⟨(curUint s false).1, (curText (curUint s false).2.1 false).1, (curText (curUint s false).2.1 false).2.1, ?_, curUint_lt64 s false, by omega, hq, by omega, h⟩
      rw [← e2]
      exact e1
    · rw [if_neg (fun e => hq e.2), decL_stop (.inr (.inr (decide_eq_true (by omega))))] at h
      injection h with _ h
      injection h with _ h
      rw [← h] at hb
      exact absurd hb (by simp; omega)
theorem decL_ext (K : Nat) (u : ByteArray) : ∀ (n : Nat) (s : ByteArray) (was : Nat) (r : RM) (s' : ByteArray) (r' : RM), s.size < n → s.size < 18446744073709551616 → decL K n s false was r = (s', false, r') → r'.bad = false → s' = ⟨#[]⟩ ∧ ∃ was', decW K (s ++ u) was r = decW K u was' r' := by
  intro n
  induction n with
  | zero => intro s was r s' r' h; omega
  | succ n ih =>
    intro s was r s' r' hn hs h hb
    obtain ⟨hrb, h⟩ := decL_step h hb hn
    rcases h with ⟨hz, rfl, rfl⟩ | ⟨hd, t, s2, e, hh, ht, hq, hz, h⟩
    · have := sz_nil hz
      subst this
      exact ⟨rfl, was, by rw [nil_ap]⟩
    · obtain ⟨e1, was', e2⟩ := ih s2 (hd / 2) (fldM hd t K r) s' r' (by omega) (by omega) h hb
      refine ⟨e1, was', ?_⟩
      rw [e, ByteArray.append_assoc, ByteArray.append_assoc, decW_field hh (by omega) hrb hq]
      exact e2
theorem curText_em : (curText ⟨#[]⟩ false).2.2 = true := by
  have e : curUint ⟨#[]⟩ false = (0, ⟨#[]⟩, true) := by
    unfold curUint
    rw [if_neg (by simp)]
    rfl
  unfold curText
  rw [e]
  rfl
theorem decW_one {K was : Nat} {z : ByteArray} {r : RM} (hz : z.size = 1) (hb : r.bad = false) : (decW K z was r).2.1 = true := by
  unfold decW
  rw [decL, if_neg (by rintro (x | x | x); omega; cases x; rw [hb] at x; cases x)]
  have hc : (curText (curUint z false).2.1 (curUint z false).2.2).2.2 = true := by
    cases e : (curUint z false).2.2 with
    | true => exact curText_of_bad _
    | false =>
      have := curUint_shrinks z e
      rw [sz_nil (show (curUint z false).2.1.size = 0 by omega)]
      exact curText_em
  rw [hc, decL_stop (.inr (.inl rfl))]
/-- Behind bytes that were well so far: more bytes. -/
theorem decF_ext {K : Nat} {b s' : ByteArray} {r' : RM} (u : ByteArray) (hs : b.size < 18446744073709551616) (h : decF K b = (s', false, r')) (hb : r'.bad = false) : s' = ⟨#[]⟩ ∧ ∃ was', decF K (b ++ u) = decW K u was' r' := by
  have hu : (curUint b false).2.2 = false := by
    cases e : (curUint b false).2.2 with
    | false => rfl
    | true =>
      unfold decF at h
      rw [e, decL_stop (.inr (.inl rfl))] at h
      injection h with _ h
      injection h with h _
  have z := curUint_shrinks b hu
  have c := curUint_ext u hu
  unfold decF at h ⊢
  rw [hu] at h
  obtain ⟨e1, was', e2⟩ := decL_ext K u _ _ _ _ _ _ (by omega) (by omega) h hb
  refine ⟨e1, was', ?_⟩
  have r0 : decR0 (b ++ u) = decR0 b := by unfold decR0; rw [c]
  rw [r0, c]
  simp only
  rw [decW_is (by simp only [ByteArray.size_append]; omega)]
  exact e2
theorem decM_one {v : Int} {b z : ByteArray} (hz : z.size = 1) (hs : b.size ≤ 4000) (h : (decM v b).2.2 = 0) : (decM v (b ++ z)).2.2 ≠ 0 := by
  unfold decM at h ⊢
  by_cases h0 : knownS v = 0
  · rw [if_pos h0]; exact Nat.one_ne_zero
  · rw [if_neg h0] at h ⊢
    rw [if_neg (by omega)] at h
    by_cases h1 : 4000 < (b ++ z).size
    · rw [if_pos h1]; exact Nat.succ_ne_zero 2
    · rw [if_neg h1]
      obtain ⟨⟨s', cb, r'⟩, hF⟩ : ∃ x, decF (knownS v) b = x := ⟨_, rfl⟩
      rw [hF] at h
      simp only at h
      by_cases h2 : cb = true ∨ r'.bad = true ∨ rightB r'.m = false
      · rw [if_pos h2] at h; exact absurd h (Nat.succ_ne_zero 1)
      · have e1 : cb = false := by cases cb with | false => rfl | true => exact absurd (.inl rfl) h2
        have e2 : r'.bad = false := by cases e : r'.bad with | false => rfl | true => exact absurd (.inr (.inl e)) h2
        rw [e1] at hF
        obtain ⟨_, was', e3⟩ := decF_ext z (by omega) hF e2
        rw [e3, if_pos (.inl (decW_one hz e2))]
        exact Nat.succ_ne_zero 1
/-- What holds of a reader behind bytes P. -/
structure Inv (K : Nat) (P : ByteArray) (was : Nat) (r : RM) : Prop where
  out : ∀ k, 1 ≤ k → k ≤ 12 → (was < k ∨ K < k) → hasB r.m k = false
  size : (bytesN r.m K).size ≤ P.size
  same : r.left = 0 → bytesN r.m K = P
  fit : r.m.Fit
theorem takeS_kind {k : Nat} (s : ByteArray) (r : RM) : (takeS k s r).m.kind = r.m.kind := by
  unfold takeS
  refine ite_rm (F := fun x => x.m.kind) (fun _ => rfl) fun _ => ?_
  refine ite_rm (F := fun x => x.m.kind) (fun _ => rfl) fun _ => ?_
  refine ite_rm (F := fun x => x.m.kind) (fun _ => rfl) fun _ => ?_
  refine ite_rm (F := fun x => x.m.kind) (fun _ => rfl) fun _ => ?_
  refine ite_rm (F := fun x => x.m.kind) (fun _ => rfl) fun _ => ?_
  refine ite_rm (F := fun x => x.m.kind) (fun _ => rfl) fun _ => ?_
  refine ite_rm (F := fun x => x.m.kind) (fun _ => rfl) fun _ => ?_
  refine ite_rm (F := fun x => x.m.kind) (fun _ => rfl) fun _ => ?_
  refine ite_rm (F := fun x => x.m.kind) (fun _ => rfl) fun _ => ?_
  refine ite_rm (F := fun x => x.m.kind) (fun _ => rfl) fun _ => ?_
  exact ite_rm (F := fun x => x.m.kind) (fun _ => rfl) fun _ => rfl
theorem takeS_other {q k : Nat} (s : ByteArray) (r : RM) (hq1 : 1 ≤ q) (hq : q ≤ 12) (hk1 : 1 ≤ k) (hk : k ≤ 12) (hne : k ≠ q) : fieldS (takeS q s r).m k = fieldS r.m k := by
  revert hne
  refine twelve (P := fun q => k ≠ q → fieldS (takeS q s r).m k = fieldS r.m k) ?_ ?_ ?_ ?_ ?_ ?_ ?_ ?_ ?_ ?_ ?_ ?_ hq1 hq
  · refine twelve (P := fun k => k ≠ 1 → fieldS (takeS 1 s r).m k = fieldS r.m k) (fun h => absurd rfl h) (fun _ => rfl) (fun _ => rfl) (fun _ => rfl) (fun _ => rfl) (fun _ => rfl) (fun _ => rfl) (fun _ => rfl) (fun _ => rfl) (fun _ => rfl) (fun _ => rfl) (fun _ => rfl) hk1 hk
  · refine twelve (P := fun k => k ≠ 2 → fieldS (takeS 2 s r).m k = fieldS r.m k) (fun _ => rfl) (fun h => absurd rfl h) (fun _ => rfl) (fun _ => rfl) (fun _ => rfl) (fun _ => rfl) (fun _ => rfl) (fun _ => rfl) (fun _ => rfl) (fun _ => rfl) (fun _ => rfl) (fun _ => rfl) hk1 hk
  · refine twelve (P := fun k => k ≠ 3 → fieldS (takeS 3 s r).m k = fieldS r.m k) (fun _ => rfl) (fun _ => rfl) (fun h => absurd rfl h) (fun _ => rfl) (fun _ => rfl) (fun _ => rfl) (fun _ => rfl) (fun _ => rfl) (fun _ => rfl) (fun _ => rfl) (fun _ => rfl) (fun _ => rfl) hk1 hk
  · refine twelve (P := fun k => k ≠ 4 → fieldS (takeS 4 s r).m k = fieldS r.m k) (fun _ => rfl) (fun _ => rfl) (fun _ => rfl) (fun h => absurd rfl h) (fun _ => rfl) (fun _ => rfl) (fun _ => rfl) (fun _ => rfl) (fun _ => rfl) (fun _ => rfl) (fun _ => rfl) (fun _ => rfl) hk1 hk
  · refine twelve (P := fun k => k ≠ 5 → fieldS (takeS 5 s r).m k = fieldS r.m k) (fun _ => rfl) (fun _ => rfl) (fun _ => rfl) (fun _ => rfl) (fun h => absurd rfl h) (fun _ => rfl) (fun _ => rfl) (fun _ => rfl) (fun _ => rfl) (fun _ => rfl) (fun _ => rfl) (fun _ => rfl) hk1 hk
  · refine twelve (P := fun k => k ≠ 6 → fieldS (takeS 6 s r).m k = fieldS r.m k) (fun _ => rfl) (fun _ => rfl) (fun _ => rfl) (fun _ => rfl) (fun _ => rfl) (fun h => absurd rfl h) (fun _ => rfl) (fun _ => rfl) (fun _ => rfl) (fun _ => rfl) (fun _ => rfl) (fun _ => rfl) hk1 hk
  · refine twelve (P := fun k => k ≠ 7 → fieldS (takeS 7 s r).m k = fieldS r.m k) (fun _ => rfl) (fun _ => rfl) (fun _ => rfl) (fun _ => rfl) (fun _ => rfl) (fun _ => rfl) (fun h => absurd rfl h) (fun _ => rfl) (fun _ => rfl) (fun _ => rfl) (fun _ => rfl) (fun _ => rfl) hk1 hk
  · refine twelve (P := fun k => k ≠ 8 → fieldS (takeS 8 s r).m k = fieldS r.m k) (fun _ => rfl) (fun _ => rfl) (fun _ => rfl) (fun _ => rfl) (fun _ => rfl) (fun _ => rfl) (fun _ => rfl) (fun h => absurd rfl h) (fun _ => rfl) (fun _ => rfl) (fun _ => rfl) (fun _ => rfl) hk1 hk
  · refine twelve (P := fun k => k ≠ 9 → fieldS (takeS 9 s r).m k = fieldS r.m k) (fun _ => rfl) (fun _ => rfl) (fun _ => rfl) (fun _ => rfl) (fun _ => rfl) (fun _ => rfl) (fun _ => rfl) (fun _ => rfl) (fun h => absurd rfl h) (fun _ => rfl) (fun _ => rfl) (fun _ => rfl) hk1 hk
  · refine twelve (P := fun k => k ≠ 10 → fieldS (takeS 10 s r).m k = fieldS r.m k) (fun _ => rfl) (fun _ => rfl) (fun _ => rfl) (fun _ => rfl) (fun _ => rfl) (fun _ => rfl) (fun _ => rfl) (fun _ => rfl) (fun _ => rfl) (fun h => absurd rfl h) (fun _ => rfl) (fun _ => rfl) hk1 hk
  · refine twelve (P := fun k => k ≠ 11 → fieldS (takeS 11 s r).m k = fieldS r.m k) (fun _ => rfl) (fun _ => rfl) (fun _ => rfl) (fun _ => rfl) (fun _ => rfl) (fun _ => rfl) (fun _ => rfl) (fun _ => rfl) (fun _ => rfl) (fun _ => rfl) (fun h => absurd rfl h) (fun _ => rfl) hk1 hk
  · refine twelve (P := fun k => k ≠ 12 → fieldS (takeS 12 s r).m k = fieldS r.m k) (fun _ => rfl) (fun _ => rfl) (fun _ => rfl) (fun _ => rfl) (fun _ => rfl) (fun _ => rfl) (fun _ => rfl) (fun _ => rfl) (fun _ => rfl) (fun _ => rfl) (fun _ => rfl) (fun h => absurd rfl h) hk1 hk
theorem bytes_absent {m : MsgS} : ∀ (d j : Nat), (∀ k, j < k → k ≤ j + d → hasB m k = false) → bytesN m (j + d) = bytesN m j
  | 0, j, _ => rfl
  | d + 1, j, h => by
    show bytesN m (j + d) ++ fldB m (j + d + 1) = _
    have e : fldB m (j + d + 1) = ⟨#[]⟩ := by
      unfold fldB
      rw [if_neg]
      have := h (j + d + 1) (by omega) (by omega)
      unfold hasB at this
      rw [this]
      decide
    rw [e, ap_nil]
    exact bytes_absent d j (fun k h1 h2 => h k h1 (by omega))
theorem bytes_same {m m' : MsgS} (hk : m.kind = m'.kind) : ∀ j, (∀ k, 1 ≤ k → k ≤ j → fieldS m k = fieldS m' k) → bytesN m j = bytesN m' j
  | 0, _ => by show uvS m.kind.toNat = _; rw [hk]; rfl
  | j + 1, h => by
    show bytesN m j ++ fldB m (j + 1) = bytesN m' j ++ fldB m' (j + 1)
    rw [bytes_same hk j (fun k h1 h2 => h k h1 (by omega))]
    unfold fldB
    rw [h (j + 1) (by omega) (Nat.le_refl _)]
theorem toList_eq {a b : ByteArray} (h : (a.toList == b.toList) = true) : a = b := by
  have := eq_of_beq h
  rw [tl, tl] at this
  exact bl_ext this
theorem Inv.step {K was hd : Nat} {P t : ByteArray} {r : RM} (I : Inv K P was r) (hK : K ≤ 12) (hq : was < hd / 2) (ht : t.size ≤ 4000) (hb : (fldM hd t K r).bad = false) : Inv K (P ++ (uvS hd ++ textS t)) (hd / 2) (fldM hd t K r) := by
  obtain ⟨q, hqq⟩ : ∃ q, hd / 2 = q := ⟨_, rfl⟩
  unfold fldM at hb ⊢
  rw [hqq] at hb hq ⊢
  by_cases hl : K < q
  · rw [if_pos hl] at hb ⊢
    refine ⟨fun k h1 h12 h => I.out k h1 h12 (by omega), ?_, fun e => absurd e (Nat.succ_ne_zero _), I.fit⟩
    rw [ByteArray.size_append]
    exact Nat.le_trans I.size (Nat.le_add_right _ _)
  · rw [if_neg hl] at hb ⊢
    have h1q : 1 ≤ q := by omega
    have h12q : q ≤ 12 := by omega
    unfold seenB at hb
    simp only [Bool.or_eq_false_iff, Bool.not_eq_false', decide_eq_false_iff_not, Decidable.not_not] at hb
    obtain ⟨⟨⟨b1, b2⟩, b3⟩, b4⟩ := hb
    have b3 := toList_eq b3
    have fr := fun k (a : 1 ≤ k) (b : k ≤ 12) (c : k ≠ q) => takeS_other t r h1q h12q a b c
    have hw9 : q = 9 → r.m.ws = [] := fun e => by
      subst e
      have := I.out 9 (by omega) (by omega) (.inl hq)
      have h9 : decide (0 < r.m.ws.length) = false := this
      exact List.eq_nil_of_length_eq_zero (by have := of_decide_eq_false h9; omega)
    have o1 : ∀ k, 1 ≤ k → k ≤ 12 → (q < k ∨ K < k) → hasB (takeS q t r).m k = false := fun k a b c => by
      unfold hasB
      rw [fr k a b (by omega)]
      exact I.out k a b (by omega)
    have key : bytesN (takeS q t r).m K = bytesN r.m K ++ (uvS hd ++ textS t) := by
      have e1 : bytesN r.m K = bytesN r.m (q - 1) := by
        have := bytes_absent (m := r.m) (K - (q - 1)) (q - 1) (fun k a b => I.out k (by omega) (by omega) (by omega))
        rwa [show q - 1 + (K - (q - 1)) = K by omega] at this
      have e2 : bytesN (takeS q t r).m K = bytesN (takeS q t r).m q := by
        have := bytes_absent (m := (takeS q t r).m) (K - q) q (fun k a b => o1 k (by omega) (by omega) (.inl a))
        rwa [show q + (K - q) = K by omega] at this
      have e3 : bytesN (takeS q t r).m q = bytesN (takeS q t r).m (q - 1) ++ fldB (takeS q t r).m q := by
        obtain ⟨p, rfl⟩ : ∃ p, q = p + 1 := ⟨q - 1, by omega⟩
        rfl
      have e4 : bytesN (takeS q t r).m (q - 1) = bytesN r.m (q - 1) := bytes_same (takeS_kind t r) _ (fun k a b => fr k a (by omega) (by omega))
      have e5 : fldB (takeS q t r).m q = uvS hd ++ textS t := by
        unfold fldB
        rw [if_pos b2, b3, b4]
      rw [e2, e3, e4, e5, e1]
    refine ⟨o1, ?_, fun e => ?_, takeS_fit I.fit ht hw9 h1q h12q⟩
    · show (bytesN (takeS q t r).m K).size ≤ _
      rw [key]
      simp only [ByteArray.size_append]
      have := I.size
      omega
    · show bytesN (takeS q t r).m K = _
      rw [key, I.same (by rw [← takeS_left t r (k := q)]; exact e)]
theorem inv_run {K : Nat} (hK : K ≤ 12) : ∀ (n : Nat) (s P : ByteArray) (was : Nat) (r : RM) (s' : ByteArray) (r' : RM), s.size < n → s.size ≤ 4000 → decL K n s false was r = (s', false, r') → r'.bad = false → Inv K P was r → ∃ was', Inv K (P ++ s) was' r' := by
  intro n
  induction n with
  | zero => intro s P was r s' r' h; omega
  | succ n ih =>
    intro s P was r s' r' hn hs h hb I
    obtain ⟨hrb, h⟩ := decL_step h hb hn
    rcases h with ⟨hz, rfl, rfl⟩ | ⟨hd, t, s2, e, hh, ht, hq, hz, h⟩
    · have := sz_nil hz
      subst this
      exact ⟨was, by rw [ap_nil]; exact I⟩
    · have hfb := (decL_step h hb (by omega)).1
      have I2 := I.step hK hq (by omega) hfb
      obtain ⟨was', I3⟩ := ih s2 _ _ _ s' r' (by omega) (by omega) h hb I2
      refine ⟨was', ?_⟩
      rw [e, ← ByteArray.append_assoc (a := uvS hd), ← ByteArray.append_assoc]
      exact I3
theorem inv_first (K : Nat) (hK : K ≤ 12) (b : ByteArray) (hb : (decR0 b).bad = false) : Inv K (uvS (curUint b false).1) 0 (decR0 b) := by
  have hn : (curUint b false).1 ≤ 2147483647 := by
    have h : decide (2147483647 < (curUint b false).1) = false := hb
    have := of_decide_eq_false h
    omega
  have ho : ∀ k, 1 ≤ k → k ≤ 12 → hasB (decR0 b).m k = false := fun k a c =>
    twelve (P := fun k => hasB (decR0 b).m k = false) rfl rfl rfl rfl rfl rfl rfl rfl rfl rfl rfl rfl a c
  have e : bytesN (decR0 b).m K = uvS (curUint b false).1 := by
    have := bytes_absent (m := (decR0 b).m) K 0 (fun k a c => ho k (by omega) (by omega))
    rw [Nat.zero_add] at this
    rw [this]
    show uvS ((((curUint b false).1 % 2147483648 : Nat) : Int).toNat) = _
    rw [Int.toNat_natCast, Nat.mod_eq_of_lt (by omega)]
  exact ⟨fun k a c _ => ho k a c, by rw [e]; exact Nat.le_refl _, fun _ => e, decR0_fit b⟩
/-- What is known of a message that was decoded. -/
theorem decM_back {v : Int} {b : ByteArray} (hs : b.size ≤ 4000) (h : (decM v b).2.2 = 0) : mayE v (decM v b).1 = 0 ∧ (bytesN (decM v b).1 (knownS v)).size ≤ b.size ∧ ((decM v b).2.1 = 0 → bytesN (decM v b).1 (knownS v) = b) ∧ (decM v b).1.Fit := by
  unfold decM at h ⊢
  by_cases h0 : knownS v = 0
  · rw [if_pos h0] at h; exact absurd h Nat.one_ne_zero
  · rw [if_neg h0, if_neg (by omega)] at h ⊢
    obtain ⟨⟨s', cb, r'⟩, hF⟩ : ∃ x, decF (knownS v) b = x := ⟨_, rfl⟩
    rw [hF] at h ⊢
    simp only at h ⊢
    by_cases h2 : cb = true ∨ r'.bad = true ∨ rightB r'.m = false
    · rw [if_pos h2] at h; exact absurd h (Nat.succ_ne_zero 1)
    · rw [if_neg h2] at h ⊢
      by_cases h3 : r'.crit = true
      · rw [if_pos h3] at h; exact absurd h (Nat.succ_ne_zero 3)
      · rw [if_neg h3] at h ⊢
        simp only
        have e1 : cb = false := by cases cb with | false => rfl | true => exact absurd (.inl rfl) h2
        have e2 : r'.bad = false := by cases e : r'.bad with | false => rfl | true => exact absurd (.inr (.inl e)) h2
        have e3 : rightB r'.m = true := by cases e : rightB r'.m with | true => rfl | false => exact absurd (.inr (.inr e)) h2
        subst e1
        have hu : (curUint b false).2.2 = false := by
          cases e : (curUint b false).2.2 with
          | false => rfl
          | true =>
            unfold decF at hF
            rw [e, decL_stop (.inr (.inl rfl))] at hF
            injection hF with _ h
            injection h with h _
        have z := curUint_shrinks b hu
        have hsp := curUint_split b hu
        unfold decF at hF
        rw [hu] at hF
        have hb0 := (decL_step hF e2 (by omega)).1
        obtain ⟨was', I⟩ := inv_run (knownS_le v) _ _ _ _ _ _ _ (by omega) (by omega) hF e2 (inv_first (knownS v) (knownS_le v) b hb0)
        rw [← hsp] at I
        refine ⟨?_, I.size, I.same, I.fit⟩
        unfold mayE
        rw [if_neg (by rintro (x | x); exact h0 x; rw [e3] at x; cases x), if_neg]
        rintro ⟨x, y⟩
        have := I.out 12 (by omega) (by omega) (.inr y)
        have h12 : decide (r'.m.must ≠ 0) = false := this
        exact of_decide_eq_false h12 x
theorem decM_err {v : Int} {b : ByteArray} (h : (decM v b).2.2 ≠ 0) : (decM v b).1 = zeroM ∧ (decM v b).2.1 = 0 ∧ ((decM v b).2.2 = 1 ∧ knownS v = 0 ∨ (decM v b).2.2 = 3 ∧ 4000 < b.size ∨ (decM v b).2.2 = 2 ∨ (decM v b).2.2 = 4 ∧ knownS v ≠ 0) := by
  unfold decM at h ⊢
  by_cases h0 : knownS v = 0
  · rw [if_pos h0]; exact ⟨rfl, rfl, .inl ⟨rfl, h0⟩⟩
  · rw [if_neg h0] at h ⊢
    by_cases h1 : 4000 < b.size
    · rw [if_pos h1]; exact ⟨rfl, rfl, .inr (.inl ⟨rfl, h1⟩)⟩
    · rw [if_neg h1] at h ⊢
      split at h
      · rename_i c; rw [if_pos c]; exact ⟨rfl, rfl, .inr (.inr (.inl rfl))⟩
      · rename_i c
        rw [if_neg c]
        split at h
        · rename_i c2; rw [if_pos c2]; exact ⟨rfl, rfl, .inr (.inr (.inr ⟨rfl, h0⟩))⟩
        · exact absurd rfl h
end Go.Proofs.Ytemhmgpihkemjaa.My
