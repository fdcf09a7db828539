/- Plain: what stands in records and noughts; a new disk; what Open leaves. -/
import Derived.Test.YtoandabafkdgjaaLog11
namespace Go.Proofs.Ytoandabafkdgjaa.My
set_option linter.unusedSimpArgs false
set_option linter.unusedVariables false
open Go.RowKit Go.Proofs.YtoandabafkdgjaaW.PrintWords Go.Proofs.YtoandabafkdgjaaW.PrintLast Go.Proofs.Ytoandabafkdgjaa.Pm

theorem bl_fx (n k : Nat) (h1 : 1 ≤ k) (h8 : k ≤ 8) : bl (fx n k) = be n k := by
  have h := bl_fixed n k true h1 h8
  unfold fixedS at h
  rw [if_neg (by omega)] at h
  exact h
theorem val2_bl {b : ByteArray} (h : 2 ≤ b.size) : val2 b = valBE ((bl b).take 2) := by
  unfold val2 curFixed curBytes
  rw [if_neg (by omega), if_neg (by simp; omega)]
  show valBE (bl (b.extract 0 2)) = _
  rw [bl_extract, List.drop_zero]
theorem oneB_zero {b : ByteArray} {m : Nat} (h : bl b = List.replicate m 0) : oneB b = false := by
  have hm : b.size = m := by rw [← bl_length, h, List.length_replicate]
  unfold oneB
  by_cases h6 : 6 ≤ b.size
  · have hv : val2 b = 0 := by
      rw [val2_bl (by omega), h, List.take_replicate, show min 2 m = 2 by omega]
      rfl
    rw [hv]
    simp
  · rw [decide_eq_false h6]
    rfl
theorem oneB_rec {c r : ByteArray} {rest : List UInt8} (h1 : 1 ≤ r.size) (h2 : r.size ≤ 4000) (h : bl c = bl (recS r) ++ rest) : oneB c = true ∧ oneS c = r := by
  have hrs := recS_size r
  have hcl : c.size = 6 + r.size + rest.length := by rw [← bl_length, h, List.length_append, bl_length, hrs]
  have hb : bl (recS r) = be r.size 2 ++ (be (recSum r) 4 ++ bl r) := by
    show bl (fx r.size 2 ++ fx (recSum r) 4 ++ r) = _
    rw [bl_append, bl_append, bl_fx _ _ (by decide) (by decide), bl_fx _ _ (by decide) (by decide), List.append_assoc]
  have hl2 := be_length r.size 2
  have hl4 := be_length (recSum r) 4
  have hv : val2 c = r.size := by
    rw [val2_bl (by omega), h, hb, List.append_assoc, List.take_append_of_le_length (by omega), List.take_of_length_le (by omega), valBE_be, Nat.mod_eq_of_lt (by omega)]
  have h6 : c.extract 6 (6 + r.size) = r := bl_ext (by
    rw [bl_extract, h, List.take_append_of_le_length (by rw [bl_length, hrs]; exact Nat.le_refl _), List.take_of_length_le (by rw [bl_length, hrs]; exact Nat.le_refl _), hb, ← List.append_assoc]
    have := List.drop_left (l₁ := be r.size 2 ++ be (recSum r) 4) (l₂ := bl r)
    rw [List.length_append, hl2, hl4] at this
    exact this)
  have h0 : c.extract 0 (6 + r.size) = recS r := bl_ext (by
    rw [bl_extract, List.drop_zero, h, List.take_append_of_le_length (by rw [bl_length, hrs]; exact Nat.le_refl _), List.take_of_length_le (by rw [bl_length, hrs]; exact Nat.le_refl _)])
  have ht : oneB c = true := by
    unfold oneB
    rw [hv, h6, h0, decide_eq_true (by omega : 6 ≤ c.size), decide_eq_true h1, decide_eq_true h2, decide_eq_true (by omega : r.size ≤ c.size - 6)]
    simp
  refine ⟨ht, ?_⟩
  unfold oneS
  rw [if_pos ht, hv, h6]
/-- Records, one behind the other. -/
def recsL (l : List ByteArray) : List UInt8 := l.flatMap fun r => bl (recS r)
theorem recsL_snoc (l : List ByteArray) (r : ByteArray) : recsL (l ++ [r]) = recsL l ++ bl (recS r) := by unfold recsL; rw [List.flatMap_append]; simp
theorem recsL_len (l : List ByteArray) : l.length ≤ (recsL l).length := by
  induction l with
  | nil => exact Nat.le_refl _
  | cons r l ih =>
    have : (recsL (r :: l)).length = (bl (recS r)).length + (recsL l).length := by unfold recsL; rw [List.flatMap_cons, List.length_append]
    rw [this, bl_length, recS_size, List.length_cons]
    omega
theorem standF_recs (b : ByteArray) (m : Nat) : ∀ (want : List ByteArray) (k p : Nat), (∀ r ∈ want, 1 ≤ r.size ∧ r.size ≤ 4000) → (bl b).drop p = recsL want ++ List.replicate m 0 → want.length < k → standF b k p = (want, p + (recsL want).length)
  | [], k + 1, p, _, h, _ => by
    have hb : bl (b.extract p b.size) = List.replicate m 0 := by rw [bl_extract, List.take_of_length_le (by rw [bl_length]; exact Nat.le_refl _)]; exact h
    rw [standF, if_neg (by rw [oneB_zero hb]; decide)]
    rfl
  | r :: want, k + 1, p, hw, h, hk => by
    have hr := hw r (by simp)
    have e : recsL (r :: want) = bl (recS r) ++ recsL want := by unfold recsL; rw [List.flatMap_cons]
    rw [e, List.append_assoc] at h
    have hb : bl (b.extract p b.size) = bl (recS r) ++ (recsL want ++ List.replicate m 0) := by rw [bl_extract, List.take_of_length_le (by rw [bl_length]; exact Nat.le_refl _)]; exact h
    obtain ⟨h1, h2⟩ := oneB_rec hr.1 hr.2 hb
    have hd : (bl b).drop (p + 6 + r.size) = recsL want ++ List.replicate m 0 := by
      rw [show p + 6 + r.size = p + (6 + r.size) by omega, ← List.drop_drop, h]
      have := List.drop_left (l₁ := bl (recS r)) (l₂ := recsL want ++ List.replicate m 0)
      rw [bl_length, recS_size] at this
      exact this
    have ih := standF_recs b m want k (p + 6 + r.size) (fun x hx => hw x (by simp [hx])) hd (by simpa using hk)
    rw [standF, if_pos h1, h2, ih, e, List.length_append, bl_length, recS_size]
    simp only [Prod.mk.injEq, List.cons.injEq, true_and]
    omega
theorem standS_recs {b : ByteArray} {want : List ByteArray} {m : Nat} (hw : ∀ r ∈ want, 1 ≤ r.size ∧ r.size ≤ 4000) (h : bl b = recsL want ++ List.replicate m 0) : standS b = (want, (recsL want).length) := by
  have hl := recsL_len want
  have hbl : b.size = (recsL want).length + m := by rw [← bl_length, h, List.length_append, List.length_replicate]
  have := standF_recs b m want (b.size + 1) 0 hw (by rw [List.drop_zero]; exact h) (by omega)
  rw [Nat.zero_add] at this
  exact this
theorem nought_bl : bl nought = List.replicate 64 0 := rfl
theorem allL_new (n : Int) : ∀ k, k ≤ newN n → allL (newS n) k = List.replicate (64 * k) 0
  | 0, _ => rfl
  | k + 1, hk => by
    have hr : readS (newS n) k = nought := by
      unfold readS lastW newS hereS
      simp [List.getD_eq_getElem?_getD, List.getElem?_replicate, show k < newN n by omega]
      first | rfl | (intro h; exact absurd rfl h)
    rw [allL, allL_new n k (by omega), hr, nought_bl, List.replicate_append_replicate]
    congr 1
theorem newS_len (n : Int) : (newS n).sure.length = newN n := List.length_replicate
/-- What Open leaves. -/
theorem open_plain {d : DkS} (h : d.Ok) (hf : d.fuse = -1) (hg : d.gone = false) (hE : openE d ≤ 64 * d.sure.length) : (openS d).Ok ∧ (openS d).fuse = -1 ∧ (openS d).gone = false ∧ (openS d).sure.length = d.sure.length ∧ (openS d).waits = [] ∧
    allL (openS d) d.sure.length = (allL d d.sure.length).take (openE d) ++ List.replicate (64 * d.sure.length - openE d) 0 := by
  have hj : openE d / 64 + (d.sure.length - openE d / 64) = d.sure.length := by omega
  obtain ⟨o1, o2, o3, o4, o5⟩ := wipeN_ok h (openE d) hf (d.sure.length - openE d / 64) (by omega)
  have hw := allL_wipeN h hf hE (d.sure.length - openE d / 64) (by omega)
  have hl := allL_len h d.sure.length (Nat.le_refl _)
  rw [hj, Nat.min_self, List.drop_eq_nil_of_le (by rw [hl]; omega), List.append_nil] at hw
  refine ⟨syncS_ok o1, o2, o3.trans hg, ?_, rfl, ?_⟩
  · show (syncL _ _).length = _
    rw [syncL_len, o4]
  · show allL (syncS _) _ = _
    rw [allL_sync o1, hw]
theorem openB_bl (d : DkS) : bl (openB d) = allL d d.sure.length := rfl
theorem open_recs {d : DkS} {want : List ByteArray} {m : Nat} (hw : ∀ r ∈ want, 1 ≤ r.size ∧ r.size ≤ 4000) (h : allL d d.sure.length = recsL want ++ List.replicate m 0) : (standS (openB d)).1 = want ∧ openE d = (recsL want).length := by
  have := standS_recs (b := openB d) hw (by rw [openB_bl]; exact h)
  unfold openE
  rw [this]
  exact ⟨rfl, rfl⟩
/-- A record behind the others. -/
theorem recs_next {L : List UInt8} {n : Nat} {r : List UInt8} (hr : r.length ≤ n) : splice (L ++ List.replicate n 0) L.length r = L ++ r ++ List.replicate (n - r.length) 0 := by
  have h := splice_app (P := L) (m := List.replicate r.length (0 : UInt8)) (Q := List.replicate (n - r.length) 0) (y := r) (by rw [List.length_replicate])
  rw [List.append_assoc L, List.replicate_append_replicate, show r.length + (n - r.length) = n by omega] at h
  exact h
end Go.Proofs.Ytoandabafkdgjaa.My
