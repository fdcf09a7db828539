/- Plain: a disk's bytes as one row; what a write, a wipe and a sync make of them. -/
import Derived.Test.YtoandabafkdgjaaLog7
namespace Go.Proofs.Ytoandabafkdgjaa.My
set_option linter.unusedSimpArgs false
set_option linter.unusedVariables false
open Go.RowKit Go.Proofs.YtoandabafkdgjaaW.PrintWords Go.Proofs.YtoandabafkdgjaaW.PrintLast Go.Proofs.Ytoandabafkdgjaa.Pm

theorem lastW_snoc (l : List (Nat × ByteArray)) (i : Nat) (b : ByteArray) (j : Nat) : lastW (l ++ [(i, b)]) j = if j = i then some b else lastW l j := by
  unfold lastW
  rw [List.reverse_append, List.reverse_singleton, List.singleton_append, List.find?_cons]
  by_cases e : j = i
  · subst e; simp
  · have : (i == j) = false := beq_eq_false_iff_ne.2 (fun h => e h.symm)
    simp [this, e]
theorem hereS_set {sure : List ByteArray} {i : Nat} {b : ByteArray} (hi : i < sure.length) (hb : b.size = 64) (j : Nat) : hereS (sure.set i b) j = if j = i then b else hereS sure j := by
  unfold hereS
  rw [List.getD_eq_getElem?_getD, List.getD_eq_getElem?_getD, List.getElem?_set]
  by_cases e : i = j
  · subst e
    rw [if_pos rfl, if_pos hi, if_pos rfl, Option.getD_some, if_neg (by omega)]
  · rw [if_neg e, if_neg (show ¬ j = i from fun h => e h.symm)]
theorem readS_write {d : DkS} (i : Nat) (b : ByteArray) (j : Nat) : readS (writeS d i b) j = if j = i then b else readS d j := by
  unfold readS writeS
  simp only
  rw [lastW_snoc]
  split <;> rfl
theorem here_sync {sure : List ByteArray} : ∀ (m : List (Nat × ByteArray)), (∀ p ∈ m.reverse, p.1 < sure.length ∧ p.2.size = 64) → ∀ j, hereS (syncL sure m.reverse) j = (lastW m.reverse j).getD (hereS sure j)
  | [], _, j => rfl
  | p :: m, h, j => by
    obtain ⟨i, b⟩ := p
    rw [List.reverse_cons] at h ⊢
    have hp := h (i, b) (by simp)
    rw [syncL_snoc, hereS_set (by rw [syncL_len]; exact hp.1) hp.2, lastW_snoc, here_sync m (fun p hp => h p (List.mem_append_left _ hp)) j]
    split <;> rfl
theorem readS_sync {d : DkS} (h : d.Ok) (j : Nat) : readS (syncS d) j = readS d j ∧ hereS (syncS d).sure j = readS d j := by
  have := here_sync (sure := d.sure) d.waits.reverse (by rw [List.reverse_reverse]; exact h.wait) j
  rw [List.reverse_reverse] at this
  exact ⟨this, this⟩
theorem splice_app {P m Q y : List UInt8} (h : y.length = m.length) : splice (P ++ m ++ Q) P.length y = P ++ y ++ Q := by
  unfold splice
  rw [List.append_assoc P m Q, List.take_left, h, ← List.drop_drop, List.drop_left, List.drop_left, List.append_assoc]
theorem parts (L : List UInt8) (a b : Nat) : L = L.take a ++ (L.drop a).take b ++ L.drop (a + b) := by
  rw [List.append_assoc, ← List.drop_drop, List.take_append_drop, List.take_append_drop]
theorem splice_splice {L x y : List UInt8} {e : Nat} (h : e + x.length + y.length ≤ L.length) : splice (splice L e x) (e + x.length) y = splice L e (x ++ y) := by
  have h1 := parts L e x.length
  have h2 := parts (L.drop (e + x.length)) 0 y.length
  rw [List.take_zero, List.nil_append, List.drop_zero, Nat.zero_add] at h2
  have e1 : (L.take e).length = e := by rw [List.length_take]; omega
  have e2 : ((L.drop e).take x.length).length = x.length := by rw [List.length_take, List.length_drop]; omega
  have e3 : ((L.drop (e + x.length)).take y.length).length = y.length := by rw [List.length_take, List.length_drop]; omega
  generalize L.take e = A at *
  generalize (L.drop e).take x.length = X at *
  generalize L.drop (e + x.length) = C at *
  generalize C.take y.length = Y at *
  generalize C.drop y.length = D at *
  subst h2
  subst h1
  rw [← e1]
  rw [splice_app (P := A) (m := X) (y := x) e2.symm]
  have h3 := splice_app (P := A ++ x) (m := Y) (Q := D) (y := y) e3.symm
  rw [List.length_append] at h3
  rw [← List.append_assoc (A ++ x) Y D, h3]
  have h4 := splice_app (P := A) (m := X ++ Y) (Q := D) (y := x ++ y) (by rw [List.length_append, List.length_append, e2, e3])
  simp only [List.append_assoc] at h4 ⊢
  exact h4.symm
theorem splice_in {L y s : List UInt8} {a f : Nat} (hs : s = (L.drop a).take 64) (ha : a + 64 ≤ L.length) (hf : f + y.length ≤ 64) : splice L a (s.take f ++ y ++ s.drop (f + y.length)) = splice L (a + f) y := by
  have h1 := parts L a 64
  rw [← hs] at h1
  have h2 := parts s f y.length
  have e0 : (L.take a).length = a := by rw [List.length_take]; omega
  have e1 : s.length = 64 := by rw [hs, List.length_take, List.length_drop]; omega
  have e2 : (s.take f).length = f := by rw [List.length_take]; omega
  have e3 : ((s.drop f).take y.length).length = y.length := by rw [List.length_take, List.length_drop]; omega
  have e4 : (s.drop (f + y.length)).length = 64 - (f + y.length) := by rw [List.length_drop, e1]
  clear hs
  generalize L.take a = A at *
  generalize L.drop (a + 64) = C at *
  generalize s.take f = S1 at *
  generalize (s.drop f).take y.length = M at *
  generalize s.drop (f + y.length) = S2 at *
  subst h2
  subst h1
  have h3 := splice_app (P := A) (m := S1 ++ M ++ S2) (Q := C) (y := S1 ++ y ++ S2) (by simp only [List.length_append]; omega)
  have h4 := splice_app (P := A ++ S1) (m := M) (Q := S2 ++ C) (y := y) e3.symm
  rw [List.length_append, e0, e2] at h4
  rw [e0] at h3
  simp only [List.append_assoc] at h3 h4 ⊢
  rw [h3, h4]
theorem allL_get {d : DkS} (h : d.Ok) : ∀ (n : Nat), n ≤ d.sure.length → ∀ i, i < n → ((allL d n).drop (64 * i)).take 64 = bl (readS d i)
  | 0, _, i, hi => absurd hi (Nat.not_lt_zero _)
  | n + 1, hn, i, hi => by
    have hl := allL_len h n (by omega)
    rw [allL]
    by_cases e : i = n
    · subst e
      rw [← hl, List.drop_left, List.take_of_length_le (by rw [bl_length, lastW_size h (by omega)]; exact Nat.le_refl _)]
    · have ih := allL_get h n (by omega) i (by omega)
      rw [List.drop_append_of_le_length (by omega), List.take_append_of_le_length (by rw [List.length_drop]; omega), ih]
theorem allL_ext {d : DkS} : ∀ (n : Nat) (L : List UInt8), L.length = 64 * n → (∀ i, i < n → (L.drop (64 * i)).take 64 = bl (readS d i)) → L = allL d n
  | 0, L, h, _ => List.eq_nil_of_length_eq_zero (by omega)
  | n + 1, L, h, hg => by
    rw [allL, ← allL_ext n (L.take (64 * n)) (by rw [List.length_take]; omega) (fun i hi => ?_)]
    · rw [← hg n (by omega), List.take_of_length_le (l := L.drop (64 * n)) (by rw [List.length_drop]; omega), List.take_append_drop]
    · rw [← hg i (by omega), List.drop_take, List.take_take]
      congr 1
      omega
theorem sector_splice {L y : List UInt8} {n i j : Nat} (hL : L.length = 64 * n) (hi : i < n) (hy : y.length = 64) (hj : j < n) : ((splice L (64 * i) y).drop (64 * j)).take 64 = if j = i then y else (L.drop (64 * j)).take 64 := by
  have h1 := parts L (64 * i) 64
  have e0 : (L.take (64 * i)).length = 64 * i := by rw [List.length_take]; omega
  have e1 : ((L.drop (64 * i)).take 64).length = 64 := by rw [List.length_take, List.length_drop]; omega
  have h3 := splice_app (P := L.take (64 * i)) (m := (L.drop (64 * i)).take 64) (Q := L.drop (64 * i + 64)) (y := y) (by rw [hy, e1])
  rw [← h1, e0] at h3
  rw [h3]
  by_cases e : j = i
  · subst e
    rw [if_pos rfl, List.append_assoc]
    have := List.drop_left (l₁ := L.take (64 * j)) (l₂ := y ++ L.drop (64 * j + 64))
    rw [e0] at this
    rw [this, List.take_append_of_le_length (by omega), List.take_of_length_le (by omega)]
  · rw [if_neg e]
    by_cases hlt : j < i
    · rw [List.append_assoc, List.drop_append_of_le_length (by omega), List.take_append_of_le_length (by rw [List.length_drop, e0]; omega), List.drop_take, List.take_take]
      congr 1
      omega
    · have e5 : (L.take (64 * i) ++ y).length = 64 * i + 64 := by rw [List.length_append, e0, hy]
      rw [show 64 * j = (64 * i + 64) + (64 * j - (64 * i + 64)) by omega, ← List.drop_drop]
      have := List.drop_left (l₁ := L.take (64 * i) ++ y) (l₂ := L.drop (64 * i + 64))
      rw [e5] at this
      rw [this, List.drop_drop]
theorem allL_write {d : DkS} (h : d.Ok) {i : Nat} {b : ByteArray} (hi : i < d.sure.length) (hb : b.size = 64) : allL (writeS d i b) d.sure.length = splice (allL d d.sure.length) (64 * i) (bl b) := by
  have hl := allL_len h d.sure.length (Nat.le_refl _)
  refine (allL_ext d.sure.length _ ?_ fun j hj => ?_).symm
  · rw [length_splice _ _ _ (by rw [hl, bl_length, hb]; omega), hl]
  · rw [sector_splice hl hi (by rw [bl_length, hb]) hj, readS_write, allL_get h _ (Nat.le_refl _) j hj]
    split <;> rfl
theorem allL_sync {d : DkS} (h : d.Ok) : ∀ n, allL (syncS d) n = allL d n
  | 0 => rfl
  | n + 1 => by rw [allL, allL, allL_sync h n, (readS_sync h n).1]
theorem bl_zeros (n : Nat) : bl (zeros n) = List.replicate n 0 := rfl
theorem bl_toList {s t : ByteArray} (h : s.toList = t.toList) : s = t := bl_ext (by rw [ByteArray.toList_eq, ByteArray.toList_eq] at h; exact h)
/-- A sector wiped from a byte on. -/
theorem allL_wipe {d : DkS} (h : d.Ok) {i n : Nat} (hi : i < d.sure.length) (hn : n ≤ 64) : allL (wipeS d i n) d.sure.length = splice (allL d d.sure.length) (64 * i + n) (List.replicate (64 - n) 0) := by
  have hl := allL_len h d.sure.length (Nat.le_refl _)
  have hg := allL_get h _ (Nat.le_refl _) i hi
  have hs := lastW_size h hi
  have hbc : bl (cleanS (readS d i) n) = (bl (readS d i)).take n ++ List.replicate (64 - n) 0 ++ (bl (readS d i)).drop (n + (List.replicate (64 - n) (0 : UInt8)).length) := by
    unfold cleanS
    rw [bl_append, bl_extract, List.drop_zero, bl_zeros, List.drop_eq_nil_of_le (by rw [bl_length, hs, List.length_replicate]; omega), List.append_nil]
  have hsp := splice_in (L := allL d d.sure.length) (y := List.replicate (64 - n) 0) (s := bl (readS d i)) (a := 64 * i) (f := n) hg.symm (by rw [hl]; omega) (by rw [List.length_replicate]; omega)
  rw [← hbc] at hsp
  rw [← hsp]
  unfold wipeS
  split
  · rename_i he
    rw [bl_toList he, ← hg]
    have h1 := parts (allL d d.sure.length) (64 * i) 64
    have h3 := splice_app (P := (allL d d.sure.length).take (64 * i)) (m := ((allL d d.sure.length).drop (64 * i)).take 64) (Q := (allL d d.sure.length).drop (64 * i + 64)) (y := ((allL d d.sure.length).drop (64 * i)).take 64) rfl
    rw [← h1, List.length_take, hl, Nat.min_eq_left (by omega)] at h3
    exact h3.symm ▸ rfl
  · exact allL_write h hi (cleanS_size hs hn)
/-- What is wiped, over all. -/
theorem allL_wipeN {d : DkS} (h : d.Ok) {e : Nat} (hf : d.fuse = -1) (he : e ≤ 64 * d.sure.length) : ∀ j, e / 64 + j ≤ d.sure.length → allL (wipeN d e j) d.sure.length = (allL d d.sure.length).take e ++ List.replicate (min (64 * (e / 64 + j)) (64 * d.sure.length) - e) 0 ++ (allL d d.sure.length).drop (max e (64 * (e / 64 + j)))
  | 0, _ => by
    rw [wipeN, show min (64 * (e / 64 + 0)) (64 * d.sure.length) - e = 0 by omega, show max e (64 * (e / 64 + 0)) = e by omega]
    simp
  | j + 1, hj => by
    have ih := allL_wipeN h hf he j (by omega)
    obtain ⟨o1, o2, o3, o4, o5⟩ := wipeN_ok h e hf j (by omega)
    have hl := allL_len h d.sure.length (Nat.le_refl _)
    have hw := allL_wipe o1 (i := e / 64 + j) (n := e - 64 * (e / 64 + j)) (by rw [o4]; omega) (by omega)
    rw [o4] at hw
    rw [wipeN, hw, ih]
    have e1 : ((allL d d.sure.length).take e).length = e := by rw [List.length_take]; omega
    generalize hD : (allL d d.sure.length).drop (max e (64 * (e / 64 + j))) = D
    have hd1 : D.length = 64 * d.sure.length - max e (64 * (e / 64 + j)) := by rw [← hD, List.length_drop, hl]
    have hd2 : (allL d d.sure.length).drop (max e (64 * (e / 64 + (j + 1)))) = D.drop (64 * (e / 64 + (j + 1)) - max e (64 * (e / 64 + j))) := by
      rw [← hD, List.drop_drop]
      congr 1
      omega
    rw [hd2]
    have hp := parts D 0 (64 * (e / 64 + (j + 1)) - max e (64 * (e / 64 + j)))
    rw [List.take_zero, List.nil_append, List.drop_zero, Nat.zero_add] at hp
    have hm : (D.take (64 * (e / 64 + (j + 1)) - max e (64 * (e / 64 + j)))).length = 64 * (e / 64 + (j + 1)) - max e (64 * (e / 64 + j)) := by rw [List.length_take]; omega
    generalize D.take (64 * (e / 64 + (j + 1)) - max e (64 * (e / 64 + j))) = M at *
    generalize D.drop (64 * (e / 64 + (j + 1)) - max e (64 * (e / 64 + j))) = R at *
    clear hd2 hD
    subst hp
    have h3 := splice_app (P := (allL d d.sure.length).take e ++ List.replicate (min (64 * (e / 64 + j)) (64 * d.sure.length) - e) 0) (m := M) (Q := R) (y := List.replicate (64 - (e - 64 * (e / 64 + j))) 0) (by rw [hm, List.length_replicate]; omega)
    rw [List.length_append, e1, List.length_replicate] at h3
    have e6 : e + (min (64 * (e / 64 + j)) (64 * d.sure.length) - e) = 64 * (e / 64 + j) + (e - 64 * (e / 64 + j)) := by omega
    rw [e6] at h3
    rw [← List.append_assoc, h3, List.append_assoc (List.take e _), List.replicate_append_replicate]
    congr 3
    omega
end Go.Proofs.Ytoandabafkdgjaa.My
