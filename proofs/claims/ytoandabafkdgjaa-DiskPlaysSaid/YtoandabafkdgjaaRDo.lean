/- isoglossref07.Disk beside disk.Disk: what they have in common behind each call. -/
import Derived.Test.YtoandabafkdgjaaRDisk7
namespace Go.Proofs.Ytoandabafkdgjaa.My
set_option linter.unusedSimpArgs false
set_option linter.unusedVariables false
open Go.RowKit Go.Proofs.YtoandabafkdgjaaW.PrintWords Go.Proofs.YtoandabafkdgjaaW.PrintLast Go.Proofs.Ytoandabafkdgjaa.Pm

structure Inv (d : DkS) (o1 o2 : List UInt8) (left : Int) : Prop where
  ok : d.Ok
  left : left = d.fuse
  gone : d.gone = decide (d.fuse = 0)
  s1 : Sec d.sure.length o1 (hereS d.sure)
  s2 : Sec d.sure.length o2 (readS d)
theorem lastW_snoc (l : List (Nat × ByteArray)) (i : Nat) (b : ByteArray) (j : Nat) : lastW (l ++ [(i, b)]) j = if j = i then some b else lastW l j := by
  unfold lastW
  rw [List.reverse_append, List.reverse_singleton, List.singleton_append, List.find?_cons]
  by_cases e : j = i
  · subst e; simp
  · have : (i == j) = false := beq_eq_false_iff_ne.2 (fun h => e h.symm)
    simp [this, e]
theorem hereS_set {sure : List ByteArray} {i : Nat} {b : ByteArray} (hi : i < sure.length) (hb : b.size = 64) (j : Nat) : hereS (sure.set i b) j = if j = i then b else hereS sure j := by
  unfold hereS
  rw [List.getD_eq_getElem?_getD, List.getD_eq_getElem?_getD, List.getElem?_set]
  by_cases e : i = j
  · subst e
    rw [if_pos rfl, if_pos hi, if_pos rfl, Option.getD_some, if_neg (by omega)]
  · rw [if_neg e, if_neg (show ¬ j = i from fun h => e h.symm)]
theorem readS_write {d : DkS} (i : Nat) (b : ByteArray) (j : Nat) : readS (writeS d i b) j = if j = i then b else readS d j := by
  unfold readS writeS
  simp only
  rw [lastW_snoc]
  split <;> rfl
theorem here_sync {sure : List ByteArray} : ∀ (m : List (Nat × ByteArray)), (∀ p ∈ m.reverse, p.1 < sure.length ∧ p.2.size = 64) → ∀ j, hereS (syncL sure m.reverse) j = (lastW m.reverse j).getD (hereS sure j)
  | [], _, j => rfl
  | p :: m, h, j => by
    obtain ⟨i, b⟩ := p
    rw [List.reverse_cons] at h ⊢
    have hp := h (i, b) (by simp)
    rw [syncL_snoc, hereS_set (by rw [syncL_len]; exact hp.1) hp.2, lastW_snoc, here_sync m (fun p hp => h p (List.mem_append_left _ hp)) j]
    split <;> rfl
theorem readS_sync {d : DkS} (h : d.Ok) (j : Nat) : readS (syncS d) j = readS d j ∧ hereS (syncS d).sure j = readS d j := by
  have := here_sync (sure := d.sure) d.waits.reverse (by rw [List.reverse_reverse]; exact h.wait) j
  rw [List.reverse_reverse] at this
  exact ⟨this, this⟩
theorem Inv.write {d : DkS} {o1 o2 : List UInt8} {left : Int} (h : Inv d o1 o2 left) {i : Nat} {b : ByteArray} (hi : i < d.sure.length) (hb : b.size = 64) (hg : d.gone = false) : Inv (writeS d i b) o1 (splice o2 (64 * i) b.data.toList) (if 0 < left then left - 1 else left) := by
  have hs := h.s2.splice hi b.data.toList (by rw [data_len]; omega) b (by
    rw [List.drop_eq_nil_of_le (by rw [data_len, data_len, h.s2.size hi]; omega)]; simp)
  refine ⟨writeS_ok h.ok hi hb, by rw [h.left]; rfl, ?_, h.s1, hs.congr fun j hj => (readS_write i b j).symm⟩
  have := h.gone
  rw [hg] at this
  have h0 : d.fuse ≠ 0 := by simpa using this.symm
  unfold writeS
  simp only
  split
  · rfl
  · rw [hg]; exact this
theorem Inv.sync {d : DkS} {o1 o2 : List UInt8} {left : Int} (h : Inv d o1 o2 left) : Inv (syncS d) o2 o2 left := by
  have hl : (syncS d).sure.length = d.sure.length := syncL_len _ _
  exact ⟨syncS_ok h.ok, h.left, h.gone, by rw [hl]; exact h.s2.congr fun j _ => (readS_sync h.ok j).2.symm, by rw [hl]; exact h.s2.congr fun j _ => (readS_sync h.ok j).1.symm⟩
theorem Inv.fuse {d : DkS} {o1 o2 : List UInt8} {left : Int} (h : Inv d o1 o2 left) {n : Int} (hn : n ≤ 9223372036854775807) (hg : d.gone = false) : Inv (fuseS d n) o1 o2 (max n (-1)) := by
  have e : fuseS d n = ⟨d.sure, d.waits, max n (-1), decide (n = 0)⟩ := by unfold fuseS; rw [hg]; rfl
  refine ⟨fuseS_ok h.ok hn, by rw [e], ?_, by rw [e]; exact h.s1, by rw [e]; exact h.s2⟩
  rw [e]
  by_cases h0 : n = 0
  · subst h0; rfl
  · rw [decide_eq_false h0, decide_eq_false (by simp only; omega)]
theorem ex_data (b : ByteArray) (i j : Nat) : (b.extract i j).data.toList = (b.data.toList.take j).drop i := by
  rw [ByteArray.data_extract, Array.toList_extract]
  simp [List.extract, List.drop_take]
theorem crash_sec {d : DkS} (h : d.Ok) {o1 : List UInt8} (s1 : Sec d.sure.length o1 (hereS d.sure)) (fl : List UInt8) : ∀ n, n ≤ d.waits.length → Sec d.sure.length (crashO fl d.waits o1 (min n fl.length)) (hereS (crashN fl d.waits d.sure n))
  | 0, _ => by rw [Nat.zero_min]; exact s1
  | n + 1, hn => by
    have ih := crash_sec h s1 fl n (by omega)
    obtain ⟨hcl, hcs⟩ := crashN_ok h fl n (by omega)
    have hp : (d.waits.getD n (0, ⟨#[]⟩)) ∈ d.waits := by rw [List.getD_eq_getElem?_getD, List.getElem?_eq_getElem (by omega)]; exact List.getElem_mem _
    have hw := h.wait _ hp
    rw [crashN]
    by_cases hf : n < fl.length
    · rw [show min (n + 1) fl.length = n + 1 by omega, crashO]
      rw [show min n fl.length = n by omega] at ih
      rw [List.getElem?_eq_getElem hf, show fl.getD n 0 = fl[n] by rw [List.getD_eq_getElem?_getD, List.getElem?_eq_getElem hf]; rfl]
      generalize d.waits.getD n (0, ⟨#[]⟩) = p at *
      generalize fl[n] = c at *
      generalize crashN fl d.waits d.sure n = su at *
      generalize crashO fl d.waits o1 n = o at *
      obtain ⟨i, b⟩ := p
      simp only at hw ⊢
      have hi : i < su.length := by rw [hcl]; exact hw.1
      have hz : (hereS su i).size = 64 := ih.size hw.1
      have hex : (b.extract 0 (fateN c)).data.toList = b.data.toList.take (fateN c) := by rw [ex_data, List.drop_zero]
      have hexl : (b.data.toList.take (fateN c)).length = fateN c := by rw [List.length_take, data_len, hw.2]; exact Nat.min_eq_left (fateN_le c)
      rw [hex]
      unfold crashOne
      simp only
      by_cases h0 : c = 0
      · rw [if_pos h0]
        have e0 : fateN c = 0 := by rw [h0]; rfl
        refine (ih.splice hw.1 _ (by rw [hexl]; exact fateN_le c) (hereS su i) (by rw [hexl, e0]; simp)).congr fun j _ => ?_
        split
        · rename_i e; rw [e]
        · rfl
      · rw [if_neg h0]
        by_cases h2 : c = 255
        · rw [if_pos h2]
          have e0 : fateN c = 64 := by rw [h2]; rfl
          refine (ih.splice hw.1 _ (by rw [hexl]; exact fateN_le c) b ?_).congr fun j _ => (hereS_set hi hw.2 j).symm
          rw [hexl, e0, List.drop_eq_nil_of_le (by rw [data_len, hz]; omega), List.append_nil, List.take_of_length_le (by rw [data_len, hw.2]; omega)]
        · rw [if_neg h2]
          have e0 : fateN c = c.toNat % 64 := by unfold fateN; rw [if_neg h2]
          rw [e0] at hexl ⊢
          have hlt : c.toNat % 64 < 64 := Nat.mod_lt _ (by decide)
          have hsz : (b.extract 0 (c.toNat % 64) ++ (hereS su i).extract (c.toNat % 64) (hereS su i).size).size = 64 := by
            rw [ByteArray.size_append, ByteArray.size_extract, ByteArray.size_extract]; omega
          refine (ih.splice hw.1 _ (by rw [hexl]; omega) _ ?_).congr fun j _ => (hereS_set hi hsz j).symm
          rw [ByteArray.data_append, Array.toList_append, ex_data, ex_data, List.drop_zero, hexl, show (hereS su i).data.toList.take (hereS su i).size = (hereS su i).data.toList from List.take_of_length_le (by rw [data_len]; omega)]
    · rw [show min (n + 1) fl.length = min n fl.length by omega, List.getElem?_eq_none (by omega)]
      exact ih
theorem Inv.crash {d : DkS} {o1 o2 : List UInt8} {left : Int} (h : Inv d o1 o2 left) (fl : List UInt8) : Inv (crashS d fl) (crashO fl d.waits o1 (min d.waits.length fl.length)) (crashO fl d.waits o1 (min d.waits.length fl.length)) (-1) := by
  have hs := crash_sec h.ok h.s1 fl d.waits.length (Nat.le_refl _)
  have hl : (crashS d fl).sure.length = d.sure.length := (crashN_ok h.ok fl _ (Nat.le_refl _)).1
  exact ⟨crashS_ok h.ok fl, rfl, rfl, by rw [hl]; exact hs, by rw [hl]; exact hs⟩
def doS (d : DkS) (kd : Nat) (i n : Int) (b : ByteArray) (fl : List UInt8) : DkS :=
  if kd % 5 = 0 then (if writeE d i b = 0 then writeS d i.toNat b else d) else if kd % 5 = 1 then d else if kd % 5 = 2 then (if d.gone = true then d else syncS d) else if kd % 5 = 3 then fuseS d n else crashS d fl
def doE (d : DkS) (kd : Nat) (i : Int) (b : ByteArray) : ByteArray × Nat :=
  if kd % 5 = 0 then (⟨#[]⟩, writeE d i b) else if kd % 5 = 1 then (if mayS d i = 0 then (readS d i.toNat, 0) else (⟨#[]⟩, mayS d i)) else if kd % 5 = 2 then (⟨#[]⟩, if d.gone = true then 6 else 0) else (⟨#[]⟩, 0)
/-- What the reference's call leaves. -/
def After (w : World) (base h : Nat) (V1 V2 A B : Value) (d : DkS) (w' : World) : Prop :=
  (∃ A' B' o1' o2' left', RDk w' base h V1 V2 A' B' o1' o2' d.waits left' ∧ Inv d o1' o2' left' ∧ ∀ k, B'.ownBlock = some k → B.ownBlock = some k ∨ w.heap.size ≤ k) ∧ Below base w w' ∧ Keeps (OwnR h V1 V2 A B) w w'
theorem After.same {w w' : World} {base h : Nat} {V1 V2 A B : Value} {o1 o2 : List UInt8} {d : DkS} {left : Int} (k : RDk w base h V1 V2 A B o1 o2 d.waits left) (hi : Inv d o1 o2 left) (hbw : base ≤ w.heap.size) (hb : Below w.heap.size w w') : After w base h V1 V2 A B d w' :=
  ⟨⟨A, B, o1, o2, left, k.below hb, hi, fun k e => .inl e⟩, hb.mono hbw, Keeps.of_below _ hb⟩
theorem rd_do {w : World} {base h : Nat} {V1 V2 A B : Value} {o1 o2 : List UInt8} {d : DkS} {left : Int} (k : RDk w base h V1 V2 A B o1 o2 d.waits left) (hi : Inv d o1 o2 left) (kd : Nat) (i n : Int) (b : ByteArray) (AF : Option Addr) (m c : Nat) (fl : List UInt8)
    (hF : FtsA w base AF fl) (hm : fl.length = m) (hl : d.waits.length ≤ 1000000) (hnb : n ≤ 9223372036854775807) (hbw : base ≤ w.heap.size) :
    Calls Try.prog 18 #[.pointer (some ⟨h, 0, none⟩), opV kd i n b AF m c] w fun e w' => e = .returned (.tuple #[.string (doE d kd i b).1, .int .i64 (doE d kd i b).2]) ∧ After w base h V1 V2 A B (doS d kd i n b fl) w' := by
  have hlen := hi.ok.len
  have hL1 := hi.s1.1
  have hL2 := hi.s2.1
  have hgl : d.gone = true ↔ left = 0 := by rw [hi.gone, hi.left]; simp
  have may0 : d.gone = false → 0 ≤ i → i < (d.sure.length : Int) → mayS d i = 0 := fun h1 h2 h3 => by
    unfold mayS; rw [if_neg (by rw [h1]; decide), if_neg (by omega)]
  have may1 : d.gone = false → (i < 0 ∨ (d.sure.length : Int) ≤ i) → mayS d i = 1 := fun h1 h2 => by
    unfold mayS; rw [if_neg (by rw [h1]; decide), if_pos h2]
  have may6 : d.gone = true → mayS d i = 6 := fun h1 => by unfold mayS; rw [if_pos h1]
  have hr : kd % 5 < 5 := Nat.mod_lt _ (by decide)
  by_cases hg : d.gone = true
  · have hl0 := hgl.1 hg
    subst hl0
    by_cases h3 : kd % 5 < 3
    · have e1 : doS d kd i n b fl = d := by
        unfold doS
        rcases (show kd % 5 = 0 ∨ kd % 5 = 1 ∨ kd % 5 = 2 by omega) with e | e | e
        · rw [if_pos e, if_neg (by unfold writeE; rw [may6 hg]; simp)]
        · rw [if_neg (by omega), if_pos e]
        · rw [if_neg (by omega), if_neg (by omega), if_pos e, if_pos hg]
      have e2 : doE d kd i b = (⟨#[]⟩, 6) := by
        unfold doE
        rcases (show kd % 5 = 0 ∨ kd % 5 = 1 ∨ kd % 5 = 2 by omega) with e | e | e
        · rw [if_pos e]; unfold writeE; rw [may6 hg]; rfl
        · rw [if_neg (by omega), if_pos e, may6 hg]; rfl
        · rw [if_neg (by omega), if_neg (by omega), if_pos e, if_pos hg]
      rw [e1, e2]
      exact (rd_lost k kd h3 i n b AF m c).mono fun e w' ⟨he, hb⟩ => ⟨he, After.same k hi hbw hb⟩
    · by_cases h4 : kd % 5 = 3
      · have e1 : doS d kd i n b fl = d := by unfold doS fuseS; rw [if_neg (by omega), if_neg (by omega), if_neg (by omega), if_pos h4, if_pos hg]
        have e2 : doE d kd i b = (⟨#[]⟩, 0) := by unfold doE; rw [if_neg (by omega), if_neg (by omega), if_neg (by omega)]
        rw [e1, e2]
        exact (rd_fuse0 k kd h4 i n b AF m c).mono fun e w' ⟨he, hb⟩ => ⟨he, After.same k hi hbw hb⟩
      · have e1 : doS d kd i n b fl = crashS d fl := by unfold doS; rw [if_neg (by omega), if_neg (by omega), if_neg (by omega), if_neg h4]
        have e2 : doE d kd i b = (⟨#[]⟩, 0) := by unfold doE; rw [if_neg (by omega), if_neg (by omega), if_neg (by omega)]
        rw [e1, e2]
        exact (rd_crash k hL1 hL2 hlen hi.ok.wait hl kd (by omega) i n b AF m c fl hF hm hbw).mono fun e w' ⟨he, hk, hb, hp⟩ => ⟨he, ⟨_, _, _, _, _, hk, hi.crash fl, fun k e => by simp [Value.ownBlock] at e⟩, hb, hp⟩
  · have hg' : d.gone = false := by simpa using hg
    have hl0 : left ≠ 0 := fun e => hg (hgl.2 e)
    rcases (show kd % 5 = 0 ∨ kd % 5 = 1 ∨ kd % 5 = 2 ∨ kd % 5 = 3 ∨ kd % 5 = 4 by omega) with e | e | e | e | e
    · by_cases h1 : i < 0 ∨ (d.sure.length : Int) ≤ i
      · have hw : writeE d i b = 1 := by unfold writeE; rw [may1 hg' h1]; rfl
        have e1 : doS d kd i n b fl = d := by unfold doS; rw [if_pos e, if_neg (by rw [hw]; decide)]
        have e2 : doE d kd i b = (⟨#[]⟩, 1) := by unfold doE; rw [if_pos e, hw]
        rw [e1, e2]
        by_cases h2 : i < 0
        · exact (rd_arg1 k hL2 hlen hl0 kd i n b AF m c (by omega) h2).mono fun e w' ⟨he, hb⟩ => ⟨he, After.same k hi hbw hb⟩
        · exact (rd_arg2 k hL2 hlen hl0 kd i n b AF m c (by omega) (by omega) (by omega)).mono fun e w' ⟨he, hb⟩ => ⟨he, After.same k hi hbw hb⟩
      · have hm0 := may0 hg' (by omega) (by omega)
        by_cases hb64 : b.size = 64
        · have hw : writeE d i b = 0 := by unfold writeE; rw [hm0]; simp [hb64]
          have e1 : doS d kd i n b fl = writeS d i.toNat b := by unfold doS; rw [if_pos e, if_pos hw]
          have e2 : doE d kd i b = (⟨#[]⟩, 0) := by unfold doE; rw [if_pos e, hw]
          rw [e1, e2]
          exact (rd_write k hL2 hlen hl0 kd e i (by omega) (by omega) n b hb64 AF m c hl hbw (by rw [hi.left]; exact hi.ok.fuse.2)).mono fun e w' ⟨he, ⟨A', B', hk, hn⟩, hb, hp⟩ =>
            ⟨he, ⟨A', B', _, _, _, hk, hi.write (by omega) hb64 hg', fun k ek => hn.elim (fun q => .inl (q ▸ ek)) (fun ⟨x, q, hx⟩ => .inr (by rw [q] at ek; cases ek; exact hx))⟩, hb, hp⟩
        · have hw : writeE d i b = 1 := by unfold writeE; rw [hm0]; simp [hb64]
          have e1 : doS d kd i n b fl = d := by unfold doS; rw [if_pos e, if_neg (by rw [hw]; decide)]
          have e2 : doE d kd i b = (⟨#[]⟩, 1) := by unfold doE; rw [if_pos e, hw]
          rw [e1, e2]
          exact (rd_arg3 k hL2 hlen hl0 kd i n b AF m c e (by omega) (by omega) hb64).mono fun e w' ⟨he, hb⟩ => ⟨he, After.same k hi hbw hb⟩
    · have e1 : doS d kd i n b fl = d := by unfold doS; rw [if_neg (by omega), if_pos e]
      by_cases h1 : i < 0 ∨ (d.sure.length : Int) ≤ i
      · have e2 : doE d kd i b = (⟨#[]⟩, 1) := by unfold doE; rw [if_neg (by omega), if_pos e, may1 hg' h1]; rfl
        rw [e1, e2]
        by_cases h2 : i < 0
        · exact (rd_arg1 k hL2 hlen hl0 kd i n b AF m c (by omega) h2).mono fun e w' ⟨he, hb⟩ => ⟨he, After.same k hi hbw hb⟩
        · exact (rd_arg2 k hL2 hlen hl0 kd i n b AF m c (by omega) (by omega) (by omega)).mono fun e w' ⟨he, hb⟩ => ⟨he, After.same k hi hbw hb⟩
      · have e2 : doE d kd i b = (readS d i.toNat, 0) := by unfold doE; rw [if_neg (by omega), if_pos e, may0 hg' (by omega) (by omega), if_pos rfl]
        rw [e1, e2]
        exact (rd_read k hL2 hlen hl0 kd e i (by omega) (by omega) hi.s2 n b AF m c).mono fun e w' ⟨he, hb⟩ => ⟨he, After.same k hi hbw hb⟩
    · have e1 : doS d kd i n b fl = syncS d := by unfold doS; rw [if_neg (by omega), if_neg (by omega), if_pos e, if_neg hg]
      have e2 : doE d kd i b = (⟨#[]⟩, 0) := by unfold doE; rw [if_neg (by omega), if_neg (by omega), if_pos e, if_neg hg]
      rw [e1, e2]
      exact (rd_sync k (by rw [hL1, hL2]) hl0 kd e i n b AF m c hbw).mono fun e w' ⟨he, hk, hb, hp⟩ => ⟨he, ⟨_, _, _, _, _, hk, hi.sync, fun k e => by simp [Value.ownBlock] at e⟩, hb, hp⟩
    · have e1 : doS d kd i n b fl = fuseS d n := by unfold doS; rw [if_neg (by omega), if_neg (by omega), if_neg (by omega), if_pos e]
      have e2 : doE d kd i b = (⟨#[]⟩, 0) := by unfold doE; rw [if_neg (by omega), if_neg (by omega), if_neg (by omega)]
      have e3 : (fuseS d n).waits = d.waits := by unfold fuseS; split <;> rfl
      rw [e1, e2]
      exact (rd_fuse k hl0 kd e i n b AF m c hbw).mono fun e w' ⟨he, hk, hb, hp⟩ => ⟨he, ⟨_, _, _, _, _, by rw [e3]; exact hk, hi.fuse hnb hg', fun k e => .inl e⟩, hb, hp⟩
    · have e1 : doS d kd i n b fl = crashS d fl := by unfold doS; rw [if_neg (by omega), if_neg (by omega), if_neg (by omega), if_neg (by omega)]
      have e2 : doE d kd i b = (⟨#[]⟩, 0) := by unfold doE; rw [if_neg (by omega), if_neg (by omega), if_neg (by omega)]
      rw [e1, e2]
      exact (rd_crash k hL1 hL2 hlen hi.ok.wait hl kd e i n b AF m c fl hF hm hbw).mono fun e w' ⟨he, hk, hb, hp⟩ => ⟨he, ⟨_, _, _, _, _, hk, hi.crash fl, fun k e => by simp [Value.ownBlock] at e⟩, hb, hp⟩
/-! What one disk's call leaves of the other. -/
theorem cells_type {w : World} {k : Nat} {c c' : Array Value} {t t' : TypeId} {fr fr' : Nat × Nat} (h : w.heap[k]? = some (.cells c t fr)) (h' : w.heap[k]? = some (.cells c' t' fr')) : t = t' := by rw [h] at h'; cases h'; rfl
section
variable {w w1 : World} {base b2 h h2 : Nat} {V W V1 V2 A B : Value} {o1 o2 : List UInt8} {d : DkS} {l : List (Nat × ByteArray)} {left : Int}
theorem RDk.own_type (k : RDk w base h V1 V2 A B o1 o2 l left) {x : Nat} (hx : OwnR h V1 V2 A B x) : ∃ c t, w.heap[x]? = some (.cells c t (0, 0)) ∧ (t = 47 ∨ t = 5 ∨ t = 3 ∨ (t = 9 ∧ B.ownBlock = some x)) := by
  rcases hx with rfl | e | e | e | e
  · exact ⟨_, _, k.dk, .inl rfl⟩
  · obtain ⟨c, hc⟩ := own_typed k.s1 x e; exact ⟨c, _, hc, .inr (.inl rfl)⟩
  · obtain ⟨c, hc⟩ := own_typed k.s2 x e; exact ⟨c, _, hc, .inr (.inl rfl)⟩
  · obtain ⟨c, hc⟩ := Kd.R_typed k.ats x e; exact ⟨c, _, hc, .inr (.inr (.inl rfl))⟩
  · obtain ⟨c, hc⟩ := Kd.R_typed k.bs x e; exact ⟨c, _, hc, .inr (.inr (.inr ⟨rfl, e⟩))⟩
theorem Dk.own_type (k : Dk w base h V W d) {x : Nat} (hx : OwnD h V W x) : ∃ c t, w.heap[x]? = some (.cells c t (0, 0)) ∧ (t = 70 ∨ t = 73 ∨ (t = 9 ∧ V.ownBlock = some x)) := by
  rcases hx with rfl | e | e
  · exact ⟨_, _, k.dk, .inl rfl⟩
  · obtain ⟨c, hc⟩ := Kd.R_typed k.sr x e; exact ⟨c, _, hc, .inr (.inr ⟨rfl, e⟩)⟩
  · obtain ⟨c, hc⟩ := Kd.R_typed k.wt x e; exact ⟨c, _, hc, .inr (.inl rfl)⟩
theorem own_not (k : Dk w base h V W d) (r : RDk w b2 h2 V1 V2 A B o1 o2 l left) (hs : ∀ x, V.ownBlock = some x → B.ownBlock ≠ some x) {x : Nat} (h1 : OwnD h V W x) (h2 : OwnR h2 V1 V2 A B x) : False := by
  obtain ⟨c, t, hc, ht⟩ := k.own_type h1
  obtain ⟨c', t', hc', ht'⟩ := r.own_type h2
  have e := cells_type hc hc'
  subst e
  rcases ht with rfl | rfl | ⟨rfl, e1⟩
  · revert ht'; simp
  · revert ht'; simp
  · rcases ht' with h | h | h | ⟨_, e2⟩
    · revert h; decide
    · revert h; decide
    · revert h; decide
    · exact hs x e1 e2
theorem ByteRow_own_keeps {v : Value} {e : TypeId} {sz n : Nat} {xs : List Value} {S : Nat → Prop} (h : w.ownsRow base e sz v n xs) (hk : Keeps S w w1) (hn : ∀ x, v.ownBlock = some x → ¬ S x) : w1.ownsRow base e sz v n xs :=
  own_move h fun x hx => hk.block x (own_lt h x hx) (hn x hx)
theorem Dk.keepR (k : Dk w base h V W d) (r : RDk w b2 h2 V1 V2 A B o1 o2 l left) (hs : ∀ x, V.ownBlock = some x → B.ownBlock ≠ some x) (hk : Keeps (OwnR h2 V1 V2 A B) w w1) : Dk w1 base h V W d := by
  have nt := fun x hx hy => own_not k r hs (x := x) hx hy
  refine ⟨(hk.block h (blk_lt k.dk) (nt h (.inl rfl))).trans k.dk, Kd.R_of_own (ByteRow_own_keeps (Kd.own_of_R k.sr) hk fun x e => nt x (.inr (.inl e))) (fun _ _ => trivial), ?_, k.hb⟩
  refine Kd.R_mono (Kd.R_move (Kd.R_bound k.wt) fun x hx => hk.block x hx.2.2.1 fun hy => ?_) (fun _ _ => trivial)
  obtain ⟨q, hq, c, hc⟩ := hx.2.2.2
  rw [kW_E] at hq
  rw [List.mem_singleton.1 hq] at hc
  obtain ⟨c', t', hc', ht'⟩ := r.own_type hy
  have e := cells_type hc hc'
  subst e
  revert ht'; simp
theorem RDk.keepD (r : RDk w b2 h2 V1 V2 A B o1 o2 l left) (k : Dk w base h V W d) (hs : ∀ x, V.ownBlock = some x → B.ownBlock ≠ some x) (hk : Keeps (OwnD h V W) w w1) : RDk w1 b2 h2 V1 V2 A B o1 o2 l left := by
  have nt := fun x hx hy => own_not k r hs (x := x) hy hx
  exact ⟨(hk.block h2 (blk_lt r.dk) (nt h2 (.inl rfl))).trans r.dk, ByteRow_own_keeps r.s1 hk fun x e => nt x (.inr (.inl e)), ByteRow_own_keeps r.s2 hk fun x e => nt x (.inr (.inr (.inl e))), r.ne,
    Kd.R_of_own (ByteRow_own_keeps (Kd.own_of_R r.ats) hk fun x e => nt x (.inr (.inr (.inr (.inl e))))) (fun _ _ => trivial), Kd.R_of_own (ByteRow_own_keeps (Kd.own_of_R r.bs) hk fun x e => nt x (.inr (.inr (.inr (.inr e))))) (fun _ _ => trivial), r.hb⟩
end
end Go.Proofs.Ytoandabafkdgjaa.My
