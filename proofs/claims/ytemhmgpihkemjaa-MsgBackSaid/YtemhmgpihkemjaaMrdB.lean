/- msg.Decode, plain: a message's own bytes, and what stands behind them. -/
import Derived.Test.YtemhmgpihkemjaaMrdA
namespace Go.Proofs.Ytemhmgpihkemjaa.My
set_option linter.unusedSimpArgs false
set_option linter.unusedVariables false
open Go.RowKit Go.Proofs.YtemhmgpihkemjaaW.PrintWords Go.Proofs.YtemhmgpihkemjaaW.PrintLast Go.Proofs.Ytemhmgpihkemjaa.Pm

def hasB (m : MsgS) (k : Nat) : Bool := (fieldS m k).2
def leftN (m : MsgS) (K : Nat) : Nat → Nat
  | 0 => 0
  | k + 1 => leftN m K k + if K < k + 1 ∧ hasB m (k + 1) = true then 1 else 0
def critN (m : MsgS) (K : Nat) : Nat → Bool
  | 0 => false
  | k + 1 => critN m K k || decide (K < k + 1 ∧ hasB m (k + 1) = true ∧ headS (k + 1) % 2 = 1)
def wasN (m : MsgS) : Nat → Nat
  | 0 => 0
  | k + 1 => if hasB m (k + 1) = true then k + 1 else wasN m k
theorem wasN_le (m : MsgS) : ∀ k, wasN m k ≤ k
  | 0 => Nat.le_refl _
  | k + 1 => by
    unfold wasN
    split
    · exact Nat.le_refl _
    · have := wasN_le m k; omega
/-- The reader behind a message's fields up to k. -/
def stM (m : MsgS) (K k : Nat) : RM := ⟨restr m (min k K), leftN m K k, critN m K k, false⟩
theorem headS_half {k : Nat} (h : k ≤ 12) : headS k / 2 = k := by unfold headS; split <;> omega
theorem seen_own {m : MsgS} {k : Nat} (h1 : 1 ≤ k) (h12 : k ≤ 12) (h : hasB m k = true) : seenB k (headS k) (fieldS m k).1 (restr m k) false = false := by
  unfold seenB
  rw [restr_in m h1 h12 (Nat.le_refl _), show (fieldS m k).2 = true from h]
  simp
theorem step_has {m : MsgS} (G : m.Good) {K k : Nat} (h12 : k + 1 ≤ 12) (h : hasB m (k + 1) = true) : fldM (headS (k + 1)) (fieldS m (k + 1)).1 K (stM m K k) = stM m K (k + 1) := by
  unfold fldM
  rw [headS_half h12]
  by_cases hK : K < k + 1
  · rw [if_pos hK]
    unfold stM
    simp only
    rw [Nat.min_eq_right (show K ≤ k by omega), Nat.min_eq_right (show K ≤ k + 1 by omega), leftN, critN, if_pos ⟨hK, h⟩]
    congr 2
    exact decide_eq_decide.2 ⟨fun e => ⟨hK, h, e⟩, fun e => e.2.2⟩
  · rw [if_neg hK]
    have e : stM m K k = ⟨restr m (k + 1 - 1), leftN m K k, critN m K k, false⟩ := by
      unfold stM
      rw [Nat.min_eq_left (show k ≤ K by omega)]
      rfl
    rw [e, take_own G (by omega) h12 _ _ h]
    simp only
    rw [seen_own (by omega) h12 h]
    unfold stM
    rw [Nat.min_eq_left (show k + 1 ≤ K by omega), leftN, critN, if_neg (fun e => hK e.1), decide_eq_false (fun e => hK e.1), Bool.or_false]
    rfl
theorem step_not {m : MsgS} {K k : Nat} (h12 : k + 1 ≤ 12) (h : hasB m (k + 1) = false) : stM m K (k + 1) = stM m K k := by
  unfold stM
  rw [leftN, critN, if_neg (fun e => by rw [h] at e; exact absurd e.2 (by decide)), decide_eq_false (fun e => by rw [h] at e; exact absurd e.2.1 (by decide)), Bool.or_false]
  congr 1
  by_cases hK : k + 1 ≤ K
  · rw [Nat.min_eq_left hK, Nat.min_eq_left (show k ≤ K by omega)]
    exact restr_skip h12 h
  · rw [Nat.min_eq_right (show K ≤ k + 1 by omega), Nat.min_eq_right (show K ≤ k by omega)]
def restF (m : MsgS) : Nat → Nat → ByteArray
  | _, 0 => ⟨#[]⟩
  | k, d + 1 => fldB m (k + 1) ++ restF m (k + 1) d
theorem bytes_rest (m : MsgS) : ∀ d k, bytesN m (k + d) = bytesN m k ++ restF m k d
  | 0, k => by rw [restF, ap_nil]; rfl
  | d + 1, k => by
    rw [restF, ← ByteArray.append_assoc, show k + (d + 1) = (k + 1) + d by omega, bytes_rest m d (k + 1)]
    rfl
theorem run_own {m : MsgS} (G : m.Good) (K : Nat) : ∀ d k ext, k + d ≤ 12 → decW K (restF m k d ++ ext) (wasN m k) (stM m K k) = decW K ext (wasN m (k + d)) (stM m K (k + d))
  | 0, k, ext, _ => by rw [restF, nil_ap]; rfl
  | d + 1, k, ext, h => by
    have ih := run_own G K d (k + 1) ext (by omega)
    rw [show k + (d + 1) = (k + 1) + d by omega, ← ih, restF]
    unfold fldB
    by_cases hb : (fieldS m (k + 1)).2 = true
    · rw [if_pos hb, ByteArray.append_assoc, ByteArray.append_assoc, decW_field (headS_le (by omega)) (Nat.lt_of_le_of_lt (fieldS_size G.fit _) (by decide)) rfl (by rw [headS_half (by omega)]; have := wasN_le m k; omega), headS_half (by omega), step_has G (by omega) hb]
      rw [show wasN m (k + 1) = k + 1 from if_pos hb]
    · rw [if_neg hb, nil_ap, step_not (by omega) (by simpa [hasB] using hb)]
      rw [show wasN m (k + 1) = wasN m k from if_neg hb]
theorem decF_own {m : MsgS} (G : m.Good) (K : Nat) {hi : Nat} (h : hi ≤ 12) (ext : ByteArray) : decF K (bytesN m hi ++ ext) = decW K ext (wasN m hi) (stM m K hi) := by
  have hk := G.fit.kind
  have e : bytesN m hi ++ ext = uvS m.kind.toNat ++ (restF m 0 hi ++ ext) := by
    have := bytes_rest m hi 0
    rw [Nat.zero_add] at this
    rw [this, ByteArray.append_assoc]
    rfl
  have c := curUint_ub m.kind.toNat (restF m 0 hi ++ ext) (ok32_lt hk)
  have r0 : decR0 (bytesN m hi ++ ext) = stM m K 0 := by
    unfold decR0
    rw [e, c]
    simp only
    unfold Ok32 at hk
    rw [decide_eq_false (by omega), show ((m.kind.toNat % 2147483648 : Nat) : Int) = m.kind by omega]
    unfold stM
    rw [Nat.zero_min]
    rfl
  unfold decF
  rw [r0, e, c]
  simp only
  rw [decW_is (by simp only [ByteArray.size_append]; omega)]
  have := run_own G K hi 0 ext (by omega)
  rw [Nat.zero_add] at this
  exact this
theorem decW_nil (K was : Nat) (r : RM) : decW K ⟨#[]⟩ was r = (⟨#[]⟩, false, r) := decL_stop (.inl rfl)
theorem fldB_restr (m : MsgS) (t : Nat) {j : Nat} (h1 : 1 ≤ j) (h12 : j ≤ 12) : (fldB (restr m t) j).size ≤ (fldB m j).size := by
  by_cases h : j ≤ t
  · unfold fldB
    rw [restr_in m h1 h12 h]
    exact Nat.le_refl _
  · have e : fldB (restr m t) j = ⟨#[]⟩ := by unfold fldB; rw [if_neg (by rw [restr_out m h1 h12 h]; decide)]
    rw [e]
    exact Nat.zero_le _
theorem bytes_restr (m : MsgS) (t : Nat) : ∀ j, j ≤ 12 → (bytesN (restr m t) j).size ≤ (bytesN m j).size
  | 0, _ => Nat.le_refl _
  | j + 1, h => by
    show (bytesN (restr m t) j ++ fldB (restr m t) (j + 1)).size ≤ (bytesN m j ++ fldB m (j + 1)).size
    rw [ByteArray.size_append, ByteArray.size_append]
    have := bytes_restr m t j (by omega)
    have := fldB_restr m t (show 1 ≤ j + 1 by omega) h
    omega
theorem bytes_mono (m : MsgS) {j k : Nat} (h : j ≤ k) : (bytesN m j).size ≤ (bytesN m k).size := by
  obtain ⟨d, rfl⟩ := Nat.exists_eq_add_of_le h
  rw [bytes_rest, ByteArray.size_append]
  omega
theorem okB_ite {c : Prop} [Decidable c] {x : Int} (h : okB x = true) : okB (if c then x else 0) = true := by
  split
  · exact h
  · rfl
theorem right_restr {m : MsgS} (h : rightB m = true) (t : Nat) : rightB (restr m t) = true := by
  unfold rightB MsgS.ints at *
  simp only [Bool.and_eq_true, List.all_cons, List.all_nil, Bool.and_true, decide_eq_true_eq, Bool.not_eq_true'] at *
  obtain ⟨h1, h2, ⟨i1, i2, i3, i4, i5⟩, h4, h5, h6⟩ := h
  refine ⟨?_, h2, ⟨okB_ite i1, okB_ite i2, okB_ite i3, okB_ite i4, okB_ite i5⟩, ?_, ?_, Nat.le_trans (bytes_restr m t 12 (Nat.le_refl _)) h6⟩
  · show (if 9 ≤ t then m.ws else []).any badW = false
    split
    · exact h1
    · rfl
  · show (!(if 8 ≤ t then m.gone else false) || decide ((if 8 ≤ t then m.value else ⟨#[]⟩).size = 0)) = true
    split
    · exact h4
    · rfl
  · show (if 9 ≤ t then m.ws else []).length ≤ 8
    split
    · exact h5
    · exact Nat.zero_le _
theorem right_good {m : MsgS} (z : m.Z) (h : rightB m = true) : m.Good := ⟨rightB_fit z h, by
  unfold rightB at h
  simp only [Bool.and_eq_true, decide_eq_true_eq] at h
  exact h.2.2.2.2.1⟩
theorem right_size {m : MsgS} (h : rightB m = true) : (bytesN m 12).size ≤ 4000 := by
  unfold rightB at h
  simp only [Bool.and_eq_true, decide_eq_true_eq] at h
  exact h.2.2.2.2.2
theorem restr_proj {v : Int} {m : MsgS} (h : mayE v m = 0) : restr m (knownS v) = projS v m := by
  obtain ⟨_, hv, hm⟩ := may_ok h
  obtain ⟨kind, frm, tow, node, life, seq, a, b, key, found, time, gone, value, ws, note, hint, must⟩ := m
  rcases hv with rfl | rfl | rfl
  · obtain rfl : must = 0 := hm.resolve_right (by decide)
    rfl
  · obtain rfl : must = 0 := hm.resolve_right (by decide)
    rfl
  · rfl
/-- What is decoded of a message's own bytes, with more behind them. -/
theorem decM_own {v : Int} {m : MsgS} (G : m.Good) (hr : rightB m = true) {hi : Nat} (h : hi ≤ 12) (ext : ByteArray) (r : RM) (hv : knownS v ≠ 0) (hz : (bytesN m hi ++ ext).size ≤ 4000)
    (he : decW (knownS v) ext (wasN m hi) (stM m (knownS v) hi) = (⟨#[]⟩, false, r)) (hb : r.bad = false) (hm : r.m = restr m (min hi (knownS v))) : decM v (bytesN m hi ++ ext) = if r.crit = true then (zeroM, 0, 4) else (r.m, r.left, 0) := by
  unfold decM
  rw [if_neg hv, if_neg (by omega), decF_own G _ h, he]
  simp only
  rw [hb, hm, right_restr hr, if_neg (by rintro (h | h | h) <;> cases h)]
end Go.Proofs.Ytemhmgpihkemjaa.My
