/- isoglossref07.Disk: in memory; sectors as bytes; copies over rows of bytes. -/
import Derived.Test.YtoandabafkdgjaaDisk4
import Derived.Lib.BufferWrite
import Derived.Laws.CopyOwn
namespace Go.Proofs.Ytoandabafkdgjaa.My
set_option linter.unusedSimpArgs false
set_option linter.unusedVariables false
open Go.RowKit Go.Proofs.YtoandabafkdgjaaW.PrintWords Go.Proofs.YtoandabafkdgjaaW.PrintLast Go.Proofs.Ytoandabafkdgjaa.Pm

/-- A list of bytes is so many sectors. -/
def Sec (n : Nat) (o : List UInt8) (f : Nat → ByteArray) : Prop := o.length = 64 * n ∧ ∀ i, i < n → (o.drop (64 * i)).take 64 = (f i).data.toList
theorem data_len (s : ByteArray) : s.data.toList.length = s.size := by simp
theorem Sec.size {n : Nat} {o : List UInt8} {f : Nat → ByteArray} (h : Sec n o f) {i : Nat} (hi : i < n) : (f i).size = 64 := by
  have h1 := congrArg List.length (h.2 i hi)
  rw [List.length_take, List.length_drop, h.1, data_len] at h1
  omega
theorem Sec.congr {n : Nat} {o : List UInt8} {f g : Nat → ByteArray} (h : Sec n o f) (e : ∀ i, i < n → f i = g i) : Sec n o g := ⟨h.1, fun i hi => by rw [h.2 i hi, e i hi]⟩
/-- A whole sector, or its beginning, is laid over. -/
theorem Sec.splice {n : Nat} {o : List UInt8} {f : Nat → ByteArray} (h : Sec n o f) {i : Nat} (hi : i < n) (l : List UInt8) (hl : l.length ≤ 64) (s : ByteArray) (hs : s.data.toList = l ++ (f i).data.toList.drop l.length) : Sec n (splice o (64 * i) l) (fun j => if j = i then s else f j) := by
  have hlen : (Go.splice o (64 * i) l).length = 64 * n := by rw [length_splice _ _ _ (by rw [h.1]; omega), h.1]
  refine ⟨hlen, fun j hj => ?_⟩
  have hget : ∀ k, (Go.splice o (64 * i) l)[k]? = if k < 64 * i then o[k]? else if k < 64 * i + l.length then l[k - 64 * i]? else o[k]? := by
    intro k
    unfold Go.splice
    have htl : (o.take (64 * i)).length = 64 * i := by rw [List.length_take, h.1]; omega
    rw [List.getElem?_append, htl]
    split
    · rw [List.getElem?_take]; rename_i hk; rw [if_pos hk]
    · rw [List.getElem?_append]
      by_cases h2 : k < 64 * i + l.length
      · rw [if_pos (by omega), if_pos h2]
      · rw [if_neg (by omega), if_neg h2, List.getElem?_drop]
        congr 1
        omega
  have hfi : ∀ k, k < 64 → (f i).data.toList[k]? = o[64 * i + k]? := by
    intro k hk
    rw [← h.2 i hi, List.getElem?_take, if_pos hk, List.getElem?_drop]
  by_cases e : j = i
  · subst e
    simp only [if_true]
    rw [hs]
    apply List.ext_getElem?
    intro k
    rw [List.getElem?_take, List.getElem?_append]
    by_cases hk : k < 64
    · rw [if_pos hk, List.getElem?_drop, hget, if_neg (by omega)]
      by_cases h2 : k < l.length
      · rw [if_pos (by omega), if_pos h2]
        congr 1
        omega
      · rw [if_neg (by omega), if_neg h2, List.getElem?_drop, hfi _ (by omega)]
        congr 1
        omega
    · rw [if_neg hk, if_neg (by omega), List.getElem?_drop]
      symm
      rw [List.getElem?_eq_none_iff, data_len, h.size hi]
      omega
  · simp only [if_neg e]
    rw [← h.2 j hj]
    apply List.ext_getElem?
    intro k
    rw [List.getElem?_take, List.getElem?_take]
    by_cases hk : k < 64
    · rw [if_pos hk, if_pos hk, List.getElem?_drop, List.getElem?_drop, hget]
      by_cases h1 : 64 * j + k < 64 * i
      · rw [if_pos h1]
      · rw [if_neg h1, if_neg (by omega)]
    · rw [if_neg hk, if_neg hk]
theorem splice_all {α : Type} (a b : List α) (h : a.length = b.length) : splice a 0 b = b := by
  unfold splice
  rw [List.take_zero, Nat.zero_add, List.drop_eq_nil_of_le (by omega)]
  simp
theorem splice_nums (o l : List UInt8) (k : Nat) : nums .u8 (nb (splice o k l)) = splice (nums .u8 (nb o)) k (nums .u8 (nb l)) := by
  unfold splice nums nb
  simp only [List.map_append, List.map_take, List.map_drop, List.length_map]
/-- A row is written from some place on. -/
theorem Byt.splice {w w1 : World} {base : Nat} {g len cap : Nat} {o : List UInt8} (h : Byt w base (.slice (some ⟨g, 0, none⟩) len cap) o) (k : Nat) (l : List UInt8) (hl : k + l.length ≤ o.length)
    (cur : Array Value) (hc : w.heap[g]? = some (.cells cur 5 (0, 0))) (hw : w1.heap[g]? = some (.cells (Go.splice cur.toList k (nums .u8 (nb l))).toArray 5 (0, 0))) : Byt w1 base (.slice (some ⟨g, 0, none⟩) len cap) (Go.splice o k l) := by
  obtain ⟨h0, h1 | ⟨g', cap', cur', e, hb, hg, hle, hm, hsz, htk⟩⟩ := h
  · cases h1.1
  · cases e
    rw [hc] at hg
    cases hg
    have hll : (nums .u8 (nb l)).length = l.length := by simp [nums, nb]
    have hsl : (Go.splice o k l).length = o.length := length_splice _ _ _ hl
    have hon : (nums .u8 (nb o)).length = o.length := by simp [nums, nb]
    unfold Byt
    rw [hsl]
    refine ⟨by rw [splice_nums, length_splice _ _ _ (by rw [hll, hon]; exact hl), hon]; omega, .inr ⟨g, cap, _, rfl, hb, hw, hle, hm, ?_, ?_⟩⟩
    · show (Go.splice cur.toList k (nums .u8 (nb l))).length = _
      rw [length_splice _ _ _ (by rw [hll]; simp only [Array.length_toList]; rw [hsz]; omega)]
      simp only [Array.length_toList]
      exact hsz
    · rw [splice_nums, ← htk]
      show (Go.splice cur.toList k (nums .u8 (nb l))).take (o.length * 1) = _
      unfold Go.splice
      rw [Nat.mul_one, hll]
      apply List.ext_getElem?
      intro j
      have hcl : cur.toList.length = cap := by rw [Array.length_toList, hsz]; omega
      have e1 : (cur.toList.take k).length = k := by rw [List.length_take, hcl]; omega
      have e2 : ((cur.toList.take o.length).take k).length = k := by rw [List.length_take, List.length_take, hcl]; omega
      rw [List.getElem?_take, List.getElem?_append, List.getElem?_append, List.getElem?_append, List.getElem?_append, e1, e2, hll]
      simp only [List.getElem?_take, List.getElem?_drop]
      by_cases h1 : j < o.length
      · rw [if_pos h1]
        split
        · rfl
        · split
          · rfl
          · rw [if_pos (by omega)]
      · rw [if_neg h1, if_neg (by omega), if_neg (by omega), if_neg (by omega)]
section
variable {P : Program} {ops : Array Oper} {o : Oper} {a : Act} {Kc : Act → World → Prop} {Q : Exit → Act → World → Prop} {E : Prop}
/-- copy(dst, src) as one step of a region: a row of the call's own, from some place on. -/
theorem copy_step {w0 W : World} (base : Nat) (hw : Region.wanted o (yielded ops a.tmps) = true) (d s : Operand)
    (ho : o.op = .call { callee := .builtin .copy, args := #[d, s], argTypes := #[30, 30] }) (dp sp : Option Addr) (dLen dCap sLen sCap : Nat) (hd : a.eval d = .slice dp dLen dCap) (hs : a.eval s = .slice sp sLen sCap)
    (v : Value) (t : List UInt8) (HO : Byt W base v t) (off : Nat) (l : List UInt8) (hn : l.length = Nat.min sLen dLen)
    (hpos : 0 < l.length → ∃ g c ad, v = .slice (some ⟨g, 0, none⟩) t.length c ∧ dp = some ⟨g, off, none⟩ ∧ sp = some ad ∧ ∀ j (h : j < l.length), W.cell? (ad.add j) = some (.int .u8 (l[j].toNat : Int)))
    (hfit : off + l.length ≤ t.length) (HB : Below base w0 W)
    (h : ∀ w1, Hid (Byt w1 base v (splice t off l)) → Hid (Below base w0 w1) → Hid (W.grownBy w1 v.ownBlock) → Kc (a.put o.dst (.int .i64 l.length)) w1) :
    if Region.wanted o (yielded ops a.tmps) = true then Oper.wp Try.prog o a W Kc Q else E := by
  rw [if_pos hw]
  by_cases h0 : l.length = 0
  · obtain rfl : l = [] := List.eq_nil_of_length_eq_zero h0
    have hrun := run_copy_none (P := Try.prog) W 30 30 o.type 5 dp sp dLen dCap sLen sCap Try.underlying30 (by kernel_rfl) (by simpa using hn.symm)
    unfold Oper.wp
    simp [execOp, ho, resolve, invoke, builtin, hd, hs, hrun, Result.andThen]
    exact h W (Lib.hid (by simpa [splice] using HO)) (Lib.hid HB) (Lib.hid ⟨rfl, rfl, rfl, Nat.le_refl _, fun _ _ _ => rfl⟩)
  · obtain ⟨g, c, ad, rfl, rfl, rfl, hsrc⟩ := hpos (by omega)
    have HO' := HO
    obtain ⟨-, h1 | ⟨g', cap', cur, e, hb, hg, hle, hm, hsz, htk⟩⟩ := HO'
    · cases h1.1
    · cases e
      have hll : (nums .u8 (nb l)).length = l.length := by simp [nums, nb]
      have hrun := run_copy_row (P := Try.prog) W 30 30 o.type 5 g off dLen dCap ad sLen sCap cur 5 (nums .u8 (nb l)) Try.underlying30 (by kernel_rfl) hg (by rw [hll, hn])
        (fun j u hj => by
          have hjl : j < l.length := by rw [← hll]; exact (List.getElem?_eq_some_iff.1 hj).1
          rw [hsrc j hjl]
          simp [nums, nb, hjl] at hj
          rw [hj]) (by rw [hll, hsz]; omega) (fun u hu => by
          simp only [nums, List.mem_map] at hu
          obtain ⟨x, _, rfl⟩ := hu
          rfl)
      have HB1 := below_setRow HB hb (Go.splice cur.toList off (nums .u8 (nb l))).toArray
      have HO1 := Byt.splice HO off l hfit cur hg (setRow_heap W g _ (Go.splice cur.toList off (nums .u8 (nb l))).toArray _ _ hg)
      have HG1 : W.grownBy (W.setRow g (Go.splice cur.toList off (nums .u8 (nb l))).toArray) (some g) := ⟨rfl, rfl, rfl, by simp [World.setRow], fun k _ hk => setRow_other W g k _ (fun e => hk (by rw [e]))⟩
      unfold Oper.wp
      simp [execOp, ho, resolve, invoke, builtin, hd, hs, hrun, Result.andThen]
      have hfin := h _ (Lib.hid HO1) (Lib.hid HB1) (Lib.hid HG1)
      unfold Go.splice at hfin
      rw [hll] at hfin
      rw [hll]
      exact hfin
/-- copy(dst, a string), as one step of a region. -/
theorem copy_str_step {w0 W : World} (base : Nat) (hw : Region.wanted o (yielded ops a.tmps) = true) (d s : Operand)
    (ho : o.op = .call { callee := .builtin .copy, args := #[d, s], argTypes := #[30, 9] }) (g c off dLen dCap : Nat) (b : ByteArray) (hd : a.eval d = .slice (some ⟨g, off, none⟩) dLen dCap) (hs : a.eval s = .string b)
    (t : List UInt8) (HO : Byt W base (.slice (some ⟨g, 0, none⟩) t.length c) t) (hn : b.size ≤ dLen) (hfit : off + b.size ≤ t.length) (HB : Below base w0 W)
    (h : ∀ w1, Hid (Byt w1 base (.slice (some ⟨g, 0, none⟩) t.length c) (splice t off b.data.toList)) → Hid (Below base w0 w1) → Hid (W.grownBy w1 (some g)) → Kc (a.put o.dst (.int .i64 b.size)) w1) :
    if Region.wanted o (yielded ops a.tmps) = true then Oper.wp Try.prog o a W Kc Q else E := by
  rw [if_pos hw]
  have HO' := HO
  obtain ⟨-, h1 | ⟨g', cap', cur, e, hb, hg, hle, hm, hsz, htk⟩⟩ := HO'
  · cases h1.1
  · cases e
    have hrun := Lib.run_copy_row_string (P := Try.prog) W 30 9 o.type 5 g off dLen dCap b cur 5 Try.underlying30 (by kernel_rfl) hg hn (by rw [hsz]; omega)
    have hbc : Lib.byteCells b.data.toList = nums .u8 (nb b.data.toList) := by simp [Lib.byteCells, nums, nb]
    rw [hbc] at hrun
    have hll : (nums .u8 (nb b.data.toList)).length = b.size := by simp [nums, nb]
    have HB1 := below_setRow HB hb (Go.splice cur.toList off (nums .u8 (nb b.data.toList))).toArray
    have HO1 := Byt.splice HO off b.data.toList (by rw [data_len]; exact hfit) cur hg (setRow_heap W g _ (Go.splice cur.toList off (nums .u8 (nb b.data.toList))).toArray _ _ hg)
    have HG1 : W.grownBy (W.setRow g (Go.splice cur.toList off (nums .u8 (nb b.data.toList))).toArray) (some g) := ⟨rfl, rfl, rfl, by simp [World.setRow], fun k _ hk => setRow_other W g k _ (fun e => hk (by rw [e]))⟩
    unfold Oper.wp
    simp [execOp, ho, resolve, invoke, builtin, hd, hs, hrun, Result.andThen]
    have hfin := h _ (Lib.hid HO1) (Lib.hid HB1) (Lib.hid HG1)
    unfold Go.splice at hfin
    rw [hll] at hfin
    exact hfin
end
end Go.Proofs.Ytoandabafkdgjaa.My
