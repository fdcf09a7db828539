/- copy of elements of several cells; slices.Insert of one entry. -/
import Derived.Lib.AppendZerosOnto
import Derived.Laws.CopyRow
import Derived.Test.YtcnehponkgofiaaMv
namespace Go.Proofs.Ytcnehponkgofiaa.My
set_option linter.unusedSimpArgs false
set_option linter.unusedVariables false
open Go.RowKit Go.Proofs.YtcnehponkgofiaaW.PrintWords Go.Proofs.YtcnehponkgofiaaW.PrintLast Go.Proofs.Ytcnehponkgofiaa.Pm

theorem run_copyN {P : Program} (w : World) (dT sT ty elem : TypeId) (sz g o dLen dCap : Nat) (a : Addr) (sLen sCap : Nat) (cur : Array Value) (t : TypeId) (cs : List Value)
    (hu : P.underlying dT = some (.slice elem)) (hs : (P.info? elem).map (·.size) = some sz)
    (hg : w.heap[g]? = some (.cells cur t (0, 0))) (hn : cs.length = Nat.min sLen dLen * sz)
    (hsrc : ∀ j v, cs[j]? = some v → w.cell? (a.add j) = some v) (hfit : o + cs.length ≤ cur.size) (h1 : ∀ v ∈ cs, v.oneCell' = true) :
    (Builtin.copy_ #[dT, sT] ty #[.slice (some ⟨g, o, none⟩) dLen dCap, .slice (some a) sLen sCap]).run P w =
      .ok (goInt (Nat.min sLen dLen)) (w.setRow g (cur.toList.take o ++ cs ++ cur.toList.drop (o + cs.length)).toArray) := by
  have hl := run_loadCells_list (P := P) w a cs hsrc
  have hst := run_storeCells_at P g o t cs 0 cur w hg (by simpa using hfit) h1
  cases hq : P.info? elem with
  | none => simp [hq] at hs
  | some i =>
    have hi : i.size = sz := by simpa [hq] using hs
    simp [Builtin.copy_, run_underlying hu, Builtin.lenOf, Builtin.firstCells, sizeOf, typeInfo, hq, hi, ← hn, hl, hst]
section
variable {P : Program} {ops : Array Oper} {o : Oper} {a : Act} {Q : Exit → Act → World → Prop} {K : Act → World → Prop} {W w1 : World} {v u v1 : Value}
theorem step_copy (hw : Region.wanted o (yielded ops a.tmps) = true) (s x : Operand) (t t' : TypeId) (ho : o.op = .call { callee := .builtin .copy, args := #[s, x], argTypes := #[t, t'] }) (hs : a.eval s = v) (hx : a.eval x = u)
    (hr : (Builtin.copy_ #[t, t'] o.type #[v, u]).run P W = .ok v1 w1) (h : K (a.put o.dst v1) w1) :
    if Region.wanted o (yielded ops a.tmps) = true then Oper.wp P o a W K Q else K (a.put o.dst undef) W := by
  rw [if_pos hw]
  unfold Oper.wp execOp
  simp only [ho, resolve, invoke, builtin, Sem.run_bind, Sem.run_pure, Result.andThen_ok, List.map_toArray, List.map_cons, List.map_nil, hs, hx, hr]
  exact h
theorem wpl_copy {rest : List Oper} (hg : o.guard = none) (s x : Operand) (t t' : TypeId) (ho : o.op = .call { callee := .builtin .copy, args := #[s, x], argTypes := #[t, t'] }) (hs : a.eval s = v) (hx : a.eval x = u)
    (hr : (Builtin.copy_ #[t, t'] o.type #[v, u]).run P W = .ok v1 w1) (h : wpList P ops Q rest (a.put o.dst v1) w1) : wpList P ops Q (o :: rest) a W := by
  refine wpList_plain hg fun K hK => ?_
  unfold Oper.wp execOp
  simp only [ho, resolve, invoke, builtin, Sem.run_bind, Sem.run_pure, Result.andThen_ok, List.map_toArray, List.map_cons, List.map_nil, hs, hx, hr]
  exact hK _ _ h
theorem wpl_app2 {rest : List Oper} (hg : o.guard = none) (s x : Operand) (t t' : TypeId) (ho : o.op = .call { callee := .builtin .append, args := #[s, x], argTypes := #[t, t'] }) (hs : a.eval s = v) (hx : a.eval x = u)
    (hr : (Builtin.append_ #[t, t'] o.type #[v, u]).run P W = .ok v1 w1) (h : wpList P ops Q rest (a.put o.dst v1) w1) : wpList P ops Q (o :: rest) a W := by
  refine wpList_plain hg fun K hK => ?_
  unfold Oper.wp execOp
  simp only [ho, resolve, invoke, builtin, Sem.run_bind, Sem.run_pure, Result.andThen_ok, List.map_toArray, List.map_cons, List.map_nil, hs, hx, hr]
  exact hK _ _ h
end
theorem own_of_cells {α : Type} {w : World} {base e n g cap : Nat} {f : α → List Value} {l : List α} {cur : Array Value} (hg : w.heap[g]? = some (.cells cur e (0, 0))) (hb : base ≤ g) (hl : l.length ≤ cap) (hm : cap ≤ maxLen) (hs : cur.size = cap * n) (ht : cur.toList.take (l.length * n) = l.flatMap f) :
    OwnF w base e n f (.slice (some ⟨g, 0, none⟩) l.length cap) l := by
  refine ⟨?_, .inr ⟨g, cap, cur, rfl, hb, hg, hl, hm, hs, ht⟩⟩
  have h1 : (cur.toList.take (l.length * n)).length = l.length * n := by
    have e2 : cur.toList.length = cap * n := hs
    have h2 : l.length * n ≤ cap * n := Nat.mul_le_mul_right _ hl
    rw [List.length_take, e2, Nat.min_eq_left h2]
  rw [ht] at h1
  exact h1
/-- A slice's own block. -/
def OwnB (A : Option Addr) : Nat → Prop := fun k => ∃ o s, A = some ⟨k, o, s⟩
theorem Keeps.of_grownV {w w1 : World} {A : Option Addr} {n c : Nat} (h : w.grownBy w1 (Value.slice A n c).ownBlock) : Keeps (OwnB A) w w1 := ⟨h.os, h.tape, h.output, h.size, fun k hk hn => h.block k hk (fun e => hn (by
  cases A with
  | none => cases e
  | some a => cases e; exact ⟨a.off, a.spot, rfl⟩))⟩
/-- What two copies leave: the head, the new one, the tail. -/
theorem ins_cells {α : Type} {n i : Nat} {f : α → List Value} (hf : ∀ x, (f x).length = n) {es : List α} {x : α} (hi : i ≤ es.length) {cur cur1 cur2 : List Value} (hl : (es.length + 1) * n ≤ cur.length) (h0 : cur.take (i * n) = (es.take i).flatMap f)
    (h1 : cur1 = cur.take (i * n) ++ f x ++ cur.drop (i * n + n)) (h2 : cur2 = cur1.take ((i + 1) * n) ++ (es.drop i).flatMap f ++ cur1.drop ((i + 1) * n + (es.drop i).length * n)) :
    cur2.take ((es.take i ++ x :: es.drop i).length * n) = (es.take i ++ x :: es.drop i).flatMap f ∧ cur2.length = cur.length := by
  have e0 : (cur.take (i * n)).length = i * n := by
    rw [h0, flat_len hf, List.length_take]
    congr 1
    omega
  have e1 : (f x).length = n := hf x
  have ein : i * n + n = (i + 1) * n := by rw [Nat.succ_mul]
  have hle : (i + 1) * n ≤ (es.length + 1) * n := Nat.mul_le_mul_right _ (by omega)
  have e3 : cur1.take ((i + 1) * n) = (es.take i).flatMap f ++ f x := by
    rw [h1, List.take_append_of_le_length (by rw [List.length_append, e0, e1, ein]; exact Nat.le_refl _), List.take_of_length_le (by rw [List.length_append, e0, e1, ein]; exact Nat.le_refl _), h0]
  have e4 : cur1.length = cur.length := by
    rw [h1]
    simp only [List.length_append, e0, e1, List.length_drop]
    omega
  have e5 : ((es.drop i).flatMap f).length = (es.drop i).length * n := flat_len hf _
  have e6 : (es.take i ++ x :: es.drop i).length = es.length + 1 := by simp; omega
  have e7 : (i + 1) * n + (es.drop i).length * n = (es.length + 1) * n := by
    rw [← Nat.add_mul, List.length_drop]
    congr 1
    omega
  constructor
  · rw [h2, e3, e6]
    rw [List.take_append_of_le_length (by
      rw [List.length_append, List.length_append, e5, flat_len hf, e1, List.length_take, Nat.min_eq_left hi, ein, e7]
      exact Nat.le_refl _), List.take_of_length_le (by
      rw [List.length_append, List.length_append, e5, flat_len hf, e1, List.length_take, Nat.min_eq_left hi, ein, e7]
      exact Nat.le_refl _)]
    simp only [List.flatMap_append, List.flatMap_cons, List.append_assoc]
  · have e8 : (cur1.take ((i + 1) * n)).length = (i + 1) * n := by
      rw [e3, List.length_append, flat_len hf, e1, List.length_take, Nat.min_eq_left hi, ein]
    rw [h2, List.length_append, List.length_append, e8, e5, List.length_drop (l := cur1), e4, e7]
    omega
theorem run_overlaps {P : Program} (w : World) (t e : TypeId) (rs : Array TypeId) (gx gv ox ov la lb ca cb sz : Nat) (cx cv : Array Value) (tx tv : TypeId) (ht : P.underlying t = some (.slice e)) (hs : (P.info? e).map (·.size) = some sz) (h0 : 0 < sz) (h1 : 0 < la) (h2 : 0 < lb)
    (hx : w.heap[gx]? = some (.cells cx tx (0, 0))) (hv : w.heap[gv]? = some (.cells cv tv (0, 0))) (hne : gx ≠ gv) :
    (Extern.SlicesOverlaps.overlaps #[t, t] rs #[.slice (some ⟨gx, ox, none⟩) la ca, .slice (some ⟨gv, ov, none⟩) lb cb]).run P w = .ok (.bool false) w := by
  obtain ⟨i, hi, hi2⟩ := Option.map_eq_some_iff.1 hs
  have fx : ∀ o, w.frozen? ⟨gx, o, none⟩ = false := fun o => by simp [World.frozen?, hx]
  have fv : ∀ o, w.frozen? ⟨gv, o, none⟩ = false := fun o => by simp [World.frozen?, hv]
  have e1 : ((gx != gv) && false && false) = false := by simp
  have key : ∀ (a b : Addr), a = ⟨gx, ox, none⟩ → b = ⟨gv, ov, none⟩ → (Extern.SlicesOverlaps.overlaps #[t, t] rs #[.slice (some a) la ca, .slice (some b) lb cb]).run P w = .ok (.bool false) w := by
    intro a b ha hb
    show Sem.run P (Sem.bind (underlying t) _) w = _
    simp only [Sem.run_bind', run_underlying ht]
    subst ha hb
    simp [sizeOf, typeInfo, hi, hi2, hne, Nat.ne_of_gt h0, Nat.ne_of_gt h1, Nat.ne_of_gt h2, noView, mayBeOne, stringish, shape, viewAt, frozen, Sem.run, hx, hv, fx, fv, World.shape?]
  exact key _ _ rfl rfl
/-- The same, moved up in place. -/
theorem ins_cells2 {α : Type} {n i : Nat} {f : α → List Value} (hf : ∀ x, (f x).length = n) {es : List α} {x : α} (hi : i ≤ es.length) {cur cur1 cur2 : List Value} (hl : (es.length + 1) * n ≤ cur.length) (h0 : cur.take (i * n) = (es.take i).flatMap f)
    (h1 : cur1 = cur.take ((i + 1) * n) ++ (es.drop i).flatMap f ++ cur.drop ((i + 1) * n + (es.drop i).length * n)) (h2 : cur2 = cur1.take (i * n) ++ f x ++ cur1.drop (i * n + n)) :
    cur2.take ((es.take i ++ x :: es.drop i).length * n) = (es.take i ++ x :: es.drop i).flatMap f ∧ cur2.length = cur.length := by
  have ein : i * n + n = (i + 1) * n := by rw [Nat.succ_mul]
  have hle : (i + 1) * n ≤ (es.length + 1) * n := Nat.mul_le_mul_right _ (by omega)
  have e1 : (f x).length = n := hf x
  have e5 : ((es.drop i).flatMap f).length = (es.drop i).length * n := flat_len hf _
  have e6 : (es.take i ++ x :: es.drop i).length = es.length + 1 := by simp; omega
  have e7 : (i + 1) * n + (es.drop i).length * n = (es.length + 1) * n := by
    rw [← Nat.add_mul, List.length_drop]
    congr 1
    omega
  have e8 : (cur.take ((i + 1) * n)).length = (i + 1) * n := by rw [List.length_take]; omega
  have e9 : cur1.take (i * n) = (es.take i).flatMap f := by
    rw [h1, List.append_assoc, List.take_append_of_le_length (by rw [e8]; omega), List.take_take, Nat.min_eq_left (by omega), h0]
  have e10 : cur1.drop (i * n + n) = (es.drop i).flatMap f ++ cur.drop ((i + 1) * n + (es.drop i).length * n) := by
    rw [h1, ein, List.append_assoc, List.drop_append_of_le_length (by rw [e8]; exact Nat.le_refl _), List.drop_of_length_le (by rw [e8]; exact Nat.le_refl _), List.nil_append]
  have e11 : ((es.take i ++ x :: es.drop i).flatMap f).length = (es.length + 1) * n := by rw [flat_len hf, e6]
  have e12 : cur2 = (es.take i ++ x :: es.drop i).flatMap f ++ cur.drop ((es.length + 1) * n) := by
    rw [h2, e9, e10, e7]
    simp only [List.flatMap_append, List.flatMap_cons, List.append_assoc]
  constructor
  · rw [e12, e6, List.take_append_of_le_length (by rw [e11]; exact Nat.le_refl _), List.take_of_length_le (by rw [e11]; exact Nat.le_refl _)]
  · rw [e12, List.length_append, e11, List.length_drop]
    omega
set_option maxRecDepth 100000 in
set_option maxHeartbeats 8000000 in
theorem insert_any (base : Nat) (A : Option Addr) (n c i : Nat) (es : List EntP) (x : EntP) (gx : Nat) (w : World) (HO : OwnF w base 65 2 entC (.slice A n c) es) (hne : es.length = n) (hn : n ≤ 1000) (hi : i ≤ n) (hx : w.heap[gx]? = some (.cells (entC x).toArray 65 (0, 0))) (hbx : base ≤ gx) (hgx : (Value.slice A n c).ownBlock ≠ some gx) (hbase : base ≤ w.heap.size) :
    Calls Try.prog 35 #[.slice A n c, .int .i64 (i : Int), .slice (some ⟨gx, 0, none⟩) 1 1] w fun e w' => ∃ v', e = .returned v' ∧ OwnF w' base 65 2 entC v' (es.take i ++ x :: es.drop i) ∧ Keeps (OwnB A) w w' ∧ ∀ k, v'.ownBlock = some k → OwnB A k ∨ w.heap.size ≤ k := by
  have HR := Lib.hid (show RowF w 2 entC (some ⟨gx, 0, none⟩) 1 [x] from (OwnF.one (base := base) (f := entC) (x := x) hx hbx rfl (entC_len x)).row entC_len)
  have e1 : wrap64 ((n : Int) + 1) = ((n + 1 : Nat) : Int) := next_wrap (len := n + 1) (by omega) (by omega)
  by_cases hin : i = n
  · subst hin
    have x0 : ((i : Int) == (i : Int)) = true := beq_self_eq_true _
    obtain ⟨v1, w1, hr1, ho1, hg1, hat⟩ := run_app_rows (P := Try.prog) 54 54 Try.underlying54 info_ent rfl (by decide) (by decide) entC_len entC_one HO (c := 1) HR.out hbase (by omega)
    obtain ⟨A1, n1, c1, rfl⟩ : ∃ A m c, v1 = .slice A m c := by obtain ⟨A, c, e, _⟩ := ho1.slice_; exact ⟨_, _, _, e⟩
    have HO1 := Lib.hid (show OwnF w1 base 65 2 entC (.slice A1 n1 c1) (es.take i ++ x :: es.drop i) by rw [List.take_of_length_le (by omega), List.drop_of_length_le (by omega)]; exact ho1)
    have HG1 := Lib.hid (Keeps.of_grownV hg1)
    have HAT := Lib.hid (show ∀ k, (Value.slice A1 n1 c1).ownBlock = some k → OwnB A k ∨ w.heap.size ≤ k from fun k hk => by
      rcases hat with h | h
      · rw [h] at hk
        cases A with
        | none => cases hk
        | some a => cases hk; exact .inl ⟨a.off, a.spot, rfl⟩
      · rw [h] at hk; cases hk; exact .inr (Nat.le_refl _))
    clear hat hg1 ho1 HO hgx hbx hx hne e1
    go_enter Try.func35, Try.ntmps35
    go_wp2_with (at_builtin; refine wpl_app rfl (.tmp 23) (.tmp 24) 54 rfl rfl rfl hr1 ?_)
    all_goals
      go_ret
      exact ⟨_, rfl, HO1.out, HG1.out, HAT.out⟩
  · have hlt : i < n := by omega
    have x0 : ((i : Int) == (n : Int)) = false := beq_eq_false_iff_ne.2 (by omega)
    have x0n : (i == n) = false := beq_eq_false_iff_ne.2 hin
    have x00 : ¬ (i : Int) = (n : Int) := by omega
    rcases HO.2 with ⟨_, h0⟩ | ⟨gv, cap, cur, h0, hb, hg, hc, hm, hs, ht⟩
    · omega
    · injection h0 with h1 h2 h3
      subst h1 h2 h3
      have HX0 := Lib.hid hx
      obtain ⟨n, hn0⟩ : ∃ n, es.length = n := ⟨_, rfl⟩
      rw [hn0] at hn hi hlt hc ht x0 x0n x00 e1 hin HO hgx ⊢
      have htl : (es.drop i).length = n - i := by rw [List.length_drop, hn0]
      have hil : i * 2 ≤ n * 2 := Nat.mul_le_mul_right _ hi
      have hcs : cur.toList.length = c * 2 := hs
      have hti : cur.toList.take (i * 2) = (es.take i).flatMap entC := by
        have e2 : es.flatMap entC = (es.take i).flatMap entC ++ (es.drop i).flatMap entC := by rw [← List.flatMap_append, List.take_append_drop]
        have e3 : ((es.take i).flatMap entC).length = i * 2 := by rw [flat_len entC_len, List.length_take, hn0, Nat.min_eq_left hi]
        have e4 : cur.toList.take (i * 2) = (cur.toList.take (n * 2)).take (i * 2) := by rw [List.take_take, Nat.min_eq_left hil]
        rw [e4, ht, e2, List.take_append_of_le_length (by rw [e3]; exact Nat.le_refl _), List.take_of_length_le (by rw [e3]; exact Nat.le_refl _)]
      have htd : ∀ j v, ((es.drop i).flatMap entC)[j]? = some v → w.cell? ((⟨gv, i * 2, none⟩ : Addr).add j) = some v := fun j v hj => by
        have hjl : j < (n - i) * 2 := by rw [← htl, ← flat_len entC_len]; exact (List.getElem?_eq_some_iff.1 hj).1
        have e2 : es.flatMap entC = (es.take i).flatMap entC ++ (es.drop i).flatMap entC := by rw [← List.flatMap_append, List.take_append_drop]
        have e3 : ((es.take i).flatMap entC).length = i * 2 := by rw [flat_len entC_len, List.length_take, hn0, Nat.min_eq_left hi]
        have e4 : (cur.toList.take (n * 2))[i * 2 + j]? = some v := by rw [ht, e2, List.getElem?_append_right (by rw [e3]; omega), e3, Nat.add_sub_cancel_left]; exact hj
        rw [List.getElem?_take, if_pos (by omega)] at e4
        rw [Go.WideShapes.add_plain]
        exact (blk_cell hg _).trans (by simpa using e4)
      have hone : ∀ v ∈ (es.drop i).flatMap entC, v.oneCell' = true := fun u hu => by obtain ⟨y, _, hy⟩ := List.mem_flatMap.1 hu; exact entC_one y u hy
      have hdl : ((es.drop i).flatMap entC).length = (n - i) * 2 := by rw [flat_len entC_len, htl]
      have hil2 : i ≤ es.length := by omega
      by_cases hcap : c < n + 1
      · have x1 : decide ((c : Int) < ((n + 1 : Nat) : Int)) = true := by simp; omega
        have x1n : decide (c < n + 1) = true := decide_eq_true hcap
        obtain ⟨k, hk⟩ : ∃ k, n + 1 - i = k := ⟨_, rfl⟩
        have e2 : wrap64 (((n + 1 : Nat) : Int) - (i : Int)) = (k : Int) := (wrap64_id (by omega) (by omega)).trans (by omega)
        have hik : i + k = n + 1 := by omega
        obtain ⟨i0, hi0, hzz⟩ := Option.map_eq_some_iff.1 info_ent
        simp only [Prod.mk.injEq] at hzz
        obtain ⟨hz0, hz1, hz2⟩ := hzz
        have hr1 := Lib.run_append_grow_zeros (P := Try.prog) w 54 3 54 65 i0 _ .i64 .i64 Try.underlying54 Try.underlying3 hi0 hz0 (some ⟨gv, 0, none⟩) i c ((es.take i).flatMap entC)
          (by
            have e5 := run_loadCells_list (P := Try.prog) w.drew ⟨gv, 0, none⟩ ((es.take i).flatMap entC) (fun j v hj => by
              rw [← hti, List.getElem?_take] at hj
              split at hj
              · rw [Go.WideShapes.add_plain, Nat.zero_add]
                exact (blk_cell (blk_drew hg) _).trans (by simpa using hj)
              · cases hj)
            rw [flat_len entC_len, List.length_take, hn0, Nat.min_eq_left hi] at e5
            rw [hz1]
            simpa [Builtin.firstCells] using e5)
          k (by omega) (by rw [hz1]; decide) (by omega) (by omega) (by rw [hz2]; omega) (by rw [hz2]; exact growslice_fits (by omega) (by omega))
        obtain ⟨gc, hgc⟩ : ∃ gc, grownCap w (i + k) c 65 = gc := ⟨_, rfl⟩
        have hgc1 : n + 1 ≤ gc := by rw [← hgc, ← hik]; exact grownCap_ge _ _ _ _
        have hgc2 : gc ≤ maxLen := by rw [← hgc]; exact grownCap_le_maxLen _ _ _ _ (by simp only [maxLen]; omega)
        rw [hgc] at hr1
        obtain ⟨cur0, hcur0⟩ : ∃ cs : Array Value, ((es.take i).flatMap entC).toArray ++ Builtin.zeroCells (Value.agg #[.string ⟨#[]⟩, .slice none 0 0]).cells k ++ Builtin.zeroCells (Value.agg #[.string ⟨#[]⟩, .slice none 0 0]).cells (gc - (i + k)) = cs := ⟨_, rfl⟩
        have hs0 : cur0.size = gc * 2 := by
          rw [← hcur0, Array.size_append, Array.size_append, size_zeroCells, size_zeroCells, List.size_toArray, flat_len entC_len, List.length_take, hn0, Nat.min_eq_left hi]
          show i * 2 + k * 2 + (gc - (i + k)) * 2 = gc * 2
          omega
        have ht0 : cur0.toList.take (i * 2) = (es.take i).flatMap entC := by
          rw [← hcur0, Array.toList_append, Array.toList_append, List.append_assoc, List.take_append_of_le_length (by rw [List.toList_toArray, flat_len entC_len, List.length_take, hn0, Nat.min_eq_left hi]; exact Nat.le_refl _), List.toList_toArray, List.take_of_length_le (by rw [flat_len entC_len, List.length_take, hn0, Nat.min_eq_left hi]; exact Nat.le_refl _)]
        rw [hcur0] at hr1
        obtain ⟨W1, hW1⟩ : ∃ W1, w.drew.alloc (.cells cur0 65) = W1 := ⟨_, rfl⟩
        have KB := below_alloc (below_drew (Below.refl w.heap.size w)) (.cells cur0 65)
        have KG : (w.drew.alloc (.cells cur0 65)).heap[w.heap.size]? = some (.cells cur0 65 (0, 0)) := row_new w.drew _ rfl
        rw [hW1] at hr1 KB KG
        rw [hik, show ((k : Nat) : Int) = (n : Int) + 1 - (i : Int) by omega] at hr1
        clear hcur0 hgc hW1 hz0 hz1 hz2 hi0
        generalize hg2 : w.heap.size = g2 at *
        have hgvl := blk_lt hg
        have hgxl := blk_lt hx
        rw [hg2] at hgvl hgxl
        have HG2 := Lib.hid hg2
        clear hg2
        have kx := (KB.block gx hgxl).trans hx
        have kv := (KB.block gv hgvl).trans hg
        go_enter Try.func35, Try.ntmps35
        have hmn : Nat.min 1 k = 1 := Nat.min_eq_left (by omega)
        have hr2 := run_copyN (P := Try.prog) W1 54 54 3 65 2 g2 (i * 2) k (gc - i) ⟨gx, 0, none⟩ 1 1 cur0 65 (entC x) Try.underlying54 (by kernel_rfl) KG (by rw [hmn]; exact entC_len x) (fun j v hj => by rw [Go.WideShapes.add_plain, Nat.zero_add]; exact (blk_cell kx j).trans (by simpa using hj)) (by rw [entC_len, hs0]; omega) (entC_one x)
        obtain ⟨cur1, hcur1⟩ : ∃ cs : Array Value, (cur0.toList.take (i * 2) ++ entC x ++ cur0.toList.drop (i * 2 + (entC x).length)).toArray = cs := ⟨_, rfl⟩
        rw [hcur1] at hr2
        have hc1l : cur1.toList = cur0.toList.take (i * 2) ++ entC x ++ cur0.toList.drop (i * 2 + 2) := by rw [← hcur1]; rfl
        obtain ⟨W2, hW2⟩ : ∃ W2, W1.setRow g2 cur1 = W2 := ⟨_, rfl⟩
        have KG2 : (W1.setRow g2 cur1).heap[g2]? = some (.cells cur1 65 (0, 0)) := setRow_heap _ _ _ _ _ _ KG
        have kv2 : (W1.setRow g2 cur1).heap[gv]? = some (.cells cur 65 (0, 0)) := (setRow_other W1 g2 gv cur1 (by omega)).trans kv
        have KB2 : Below g2 w (W1.setRow g2 cur1) := below_setRow KB (Nat.le_refl _) cur1
        rw [hW2] at hr2 KG2 kv2 KB2
        clear hcur1 hW2
        have h2 := ins_cells (x := x) (cur := cur0.toList) entC_len hil2 (by have e : cur0.toList.length = gc * 2 := hs0; rw [e, hn0]; omega) ht0 hc1l rfl
        rw [htl] at h2
        have hs1 : cur1.size = gc * 2 := by
          have e : cur0.toList.length = gc * 2 := hs0
          have e' : cur1.toList.length = gc * 2 := by
            rw [hc1l, List.length_append, List.length_append, List.length_take, List.length_drop, e, entC_len]
            omega
          exact e'
        have hgi : ¬ gc = i := by clear e1 e2; omega
        have hgi2 : ¬ i = gc := by clear e1 e2; omega
        have hw1 : wrap64 ((i : Int) + 1) = ((i + 1 : Nat) : Int) := next_wrap hlt (by clear e1 e2; omega)
        have H2 := Lib.hid h2
        have HT := Lib.hid htd
        have HON := Lib.hid hone
        have HDL := Lib.hid hdl
        have HKV2 := Lib.hid kv2
        have HKG2 := Lib.hid KG2
        have HKB2 := Lib.hid KB2
        have HN0 := Lib.hid hn0
        have HS1 := Lib.hid hs1
        have HS0 := Lib.hid (show cur0.toList.length = gc * 2 from hs0)
        have HIK := Lib.hid hik
        have HW1 := Lib.hid hw1
        rw [hmn] at hr2
        have HGC := Lib.hid (And.intro hgc1 hgc2)
        clear hmn hs0 hs1 hik hw1 hil2 hgc1 hgc2
        clear h2 htd hone hdl kv2 KG2 KB2 hc1l ht0 hti ht hcs KG KB kx kv hg hx HO hgx hs hil hn0 hne htl
        go_upto_region 11 with (first | (at_builtin; refine wpl_app2 rfl (.tmp 34) (.tmp 39) 54 3 rfl rfl rfl hr1 ?_) | (at_builtin; refine wpl_copy rfl (.tmp 43) (.tmp 44) 54 54 rfl rfl rfl hr2 ?_))
        clear e1 e2 x1 x1n x0 x0n x00 hr1 hr2
        have hi1 : i + 1 ≤ n + 1 := by omega
        have hi2 : ((i + 1 : Nat) : Int) ≤ ((n + 1 : Nat) : Int) := by omega
        have hz1 : (0 : Int) ≤ (i : Int) + 1 := by omega
        have hgi1 : ¬ gc = i + 1 := by have := HGC.out.1; omega
        have hci : ¬ c = i := by omega
        have hmn2 : Nat.min (n - i) (n - i) = n - i := Nat.min_self _
        have hfit : (i + 1) * 2 + (n - i) * 2 ≤ gc * 2 := by have := HGC.out.1; omega
        have hr3 := run_copyN (P := Try.prog) W2.drew 54 54 3 65 2 g2 ((i + 1) * 2) (n - i) (gc - (i + 1)) ⟨gv, i * 2, none⟩ (n - i) (c - i) cur1 65 ((es.drop i).flatMap entC) Try.underlying54 (by kernel_rfl) (blk_drew HKG2.out) (by rw [hmn2]; exact HDL.out)
          (fun j v hj => by
            have h5 := HT.out j v hj
            rw [Go.WideShapes.add_plain] at h5 ⊢
            exact (congrFun (congrArg _ rfl) _).trans (((HKB2.out.cell (p := ⟨gv, i * 2 + j, none⟩) hgvl)).trans h5)) (by rw [HDL.out, HS1.out]; exact hfit) HON.out
        rw [hmn2, HDL.out] at hr3
        have HO3 := Lib.hid (show OwnF (W2.drew.setRow g2 (cur1.toList.take ((i + 1) * 2) ++ (es.drop i).flatMap entC ++ cur1.toList.drop ((i + 1) * 2 + (n - i) * 2)).toArray) base 65 2 entC (.slice (some ⟨g2, 0, none⟩) (n + 1) gc) (es.take i ++ x :: es.drop i) from by
          have e6 : (es.take i ++ x :: es.drop i).length = n + 1 := by
            rw [List.length_append, List.length_take, List.length_cons, List.length_drop, HN0.out]
            omega
          rw [← e6]
          refine own_of_cells (setRow_heap _ _ _ _ _ _ (blk_drew HKG2.out)) hbase (by rw [e6]; exact HGC.out.1) HGC.out.2 (by rw [List.size_toArray, H2.out.2]; exact HS0.out) (by rw [List.toList_toArray]; exact H2.out.1))
        have HK3 := Lib.hid (show Keeps (OwnB (some ⟨gv, 0, none⟩)) w (W2.drew.setRow g2 (cur1.toList.take ((i + 1) * 2) ++ (es.drop i).flatMap entC ++ cur1.toList.drop ((i + 1) * 2 + (n - i) * 2)).toArray) from Keeps.mono (Keeps.of_below (fun _ => False) (below_setRow (by rw [HG2.out]; exact HKB2.out.drew) (by rw [HG2.out]; exact Nat.le_refl _) _)) (fun _ h => h.elim))
        clear hmn2 hfit
        have hw1 := HW1.out
        refine start_ (n := 9) (S := fun w' => True) (ds := [8]) #[false, false, false, false, false, false, false, false, false] (by kernel_rfl) rfl rfl trivial (fun hHeld => ?_)
        refine pure_ (i := 0) (N := some 46) (v := ?_) (a' := ?_) #[true, false, false, false, false, false, false, false, false] rfl rfl (by kernel_rfl) (fun _ _ _ h => h) (Or.inl ⟨by rfl, ?_⟩) ?_ ?_
        rotate_left
        · intro w'
          go_simp
          with_reducible rfl
        rotate_left
        · simp only [Act.put, List.setIfInBounds_toArray, List.set_cons_zero, List.set_cons_succ, i64_w, i32_w]
          rfl
        refine pure_ (i := 1) (N := some 47) (v := ?_) (a' := ?_) #[true, true, false, false, false, false, false, false, false] rfl rfl (by kernel_rfl) (fun _ _ _ h => h) (Or.inl ⟨by rfl, ?_⟩) ?_ ?_
        rotate_left
        · intro w'
          go_simp
          with_reducible rfl
        rotate_left
        · simp only [Act.put, List.setIfInBounds_toArray, List.set_cons_zero, List.set_cons_succ, i64_w, i32_w]
          rfl
        refine pure_ (i := 2) (N := some 48) (v := ?_) (a' := ?_) #[true, true, true, false, false, false, false, false, false] rfl rfl (by kernel_rfl) (fun _ _ _ h => h) (Or.inl ⟨by rfl, ?_⟩) ?_ ?_
        rotate_left
        · intro w'
          go_simp
          with_reducible rfl
        rotate_left
        · simp only [Act.put, List.setIfInBounds_toArray, List.set_cons_zero, List.set_cons_succ, i64_w, i32_w]
          rfl
        refine pure_ (i := 3) (N := some 49) (v := ?_) (a' := ?_) #[true, true, true, true, false, false, false, false, false] rfl rfl (by kernel_rfl) (fun _ _ _ h => h) (Or.inl ⟨by rfl, ?_⟩) ?_ ?_
        rotate_left
        · intro w'
          go_simp
          with_reducible rfl
        rotate_left
        · simp only [Act.put, List.setIfInBounds_toArray, List.set_cons_zero, List.set_cons_succ, i64_w, i32_w]
          rfl
        refine pure_ (i := 4) (N := some 50) (v := ?_) (a' := ?_) #[true, true, true, true, true, false, false, false, false] rfl rfl (by kernel_rfl) (fun _ _ _ h => h) (Or.inl ⟨by rfl, ?_⟩) ?_ ?_
        rotate_left
        · intro w'
          go_simp
          with_reducible rfl
        rotate_left
        · simp only [Act.put, List.setIfInBounds_toArray, List.set_cons_zero, List.set_cons_succ, i64_w, i32_w]
          rfl
        refine pure_ (i := 5) (N := some 51) (v := ?_) (a' := ?_) #[true, true, true, true, true, true, false, false, false] rfl rfl (by kernel_rfl) (fun _ _ _ h => h) (Or.inl ⟨by rfl, ?_⟩) ?_ ?_
        rotate_left
        · intro w'
          go_simp
          with_reducible rfl
        rotate_left
        · simp only [Act.put, List.setIfInBounds_toArray, List.set_cons_zero, List.set_cons_succ, i64_w, i32_w]
          rfl
        refine pure_ (i := 6) (N := some 52) (v := ?_) (a' := ?_) #[true, true, true, true, true, true, true, false, false] rfl rfl (by kernel_rfl) (fun _ _ _ h => h) (Or.inl ⟨by rfl, ?_⟩) ?_ ?_
        rotate_left
        · intro w'
          go_simp
          with_reducible rfl
        rotate_left
        · simp only [Act.put, List.setIfInBounds_toArray, List.set_cons_zero, List.set_cons_succ, i64_w, i32_w]
          rfl
        refine pure_ (i := 7) (N := some 53) (v := ?_) (a' := ?_) #[true, true, true, true, true, true, true, true, false] rfl rfl (by kernel_rfl) (fun _ _ _ h => h) (Or.inl ⟨by rfl, ?_⟩) ?_ ?_
        rotate_left
        · intro w'
          go_simp
          with_reducible rfl
        rotate_left
        · simp only [Act.put, List.setIfInBounds_toArray, List.set_cons_zero, List.set_cons_succ, i64_w, i32_w]
          rfl
        refine last_ (i := 8) (N := some 54) #[true, true, true, true, true, true, true, true, true] rfl rfl (by kernel_rfl) (by decide) (fun K hK => ?_)
        refine step_copy (by rfl) (.tmp 50) (.tmp 53) 54 54 rfl rfl rfl hr3 ?_
        refine hK.out _ _ ?_
        clear hK K
        refine norm_ (a' := ?_) ?_ ?_
        rotate_left
        · show Act.put _ (some 54) _ = _
          simp only [Act.put, List.setIfInBounds_toArray, List.set_cons_zero, List.set_cons_succ, i64_w, i32_w]
          rfl
        refine done_ (by kernel_rfl) ?_

        clear hw1 hr3
        go_wp2
        go_ret
        exact ⟨_, rfl, HO3.out, HK3.out, fun k hk => by cases hk; exact .inr (by first | exact Nat.le_refl _ | exact Nat.le_of_eq HG2.out)⟩
      · obtain ⟨k, hk⟩ : ∃ k, n + 1 - i = k := ⟨_, rfl⟩
        have hmn2 : Nat.min k (n - i) = n - i := Nat.min_eq_right (by omega)
        have hmn1 : Nat.min 1 k = 1 := Nat.min_eq_left (by omega)
        have hgvl := blk_lt hg
        have hgne : gv ≠ gx := fun e => hgx (by rw [e]; rfl)
        have hr1 := run_copyN (P := Try.prog) w.drew 54 54 3 65 2 gv ((i + 1) * 2) (n - i) (c - (i + 1)) ⟨gv, i * 2, none⟩ k (c - i) cur 65 ((es.drop i).flatMap entC) Try.underlying54 (by kernel_rfl) (blk_drew hg) (by rw [hmn2]; exact hdl) htd (by rw [hdl, hs]; omega) hone
        rw [hmn2, hdl] at hr1
        obtain ⟨cur1, hcur1⟩ : ∃ cs : Array Value, (cur.toList.take ((i + 1) * 2) ++ (es.drop i).flatMap entC ++ cur.toList.drop ((i + 1) * 2 + (n - i) * 2)).toArray = cs := ⟨_, rfl⟩
        rw [hcur1] at hr1
        have hc1l : cur1.toList = cur.toList.take ((i + 1) * 2) ++ (es.drop i).flatMap entC ++ cur.toList.drop ((i + 1) * 2 + (es.drop i).length * 2) := by rw [← hcur1, htl]
        obtain ⟨W2, hW2⟩ : ∃ W2, w.drew.setRow gv cur1 = W2 := ⟨_, rfl⟩
        have KG2 : (w.drew.setRow gv cur1).heap[gv]? = some (.cells cur1 65 (0, 0)) := setRow_heap _ _ _ _ _ _ (blk_drew hg)
        have kx2 : (w.drew.setRow gv cur1).heap[gx]? = some (.cells (entC x).toArray 65 (0, 0)) := (setRow_other w.drew gv gx cur1 (fun e => hgne e.symm)).trans (blk_drew hx)
        have KK2 : Keeps (OwnB (some ⟨gv, 0, none⟩)) w (w.drew.setRow gv cur1) := keeps_setRow ((Keeps.refl _ w).drew) (.inl ⟨0, none, rfl⟩) _
        rw [hW2] at hr1 KG2 kx2 KK2
        have h2 := ins_cells2 (x := x) (cur := cur.toList) entC_len hil2 (by rw [hcs, hn0]; omega) hti hc1l rfl
        have hs1 : cur1.size = c * 2 := by
          have e' : cur1.toList.length = c * 2 := by
            rw [hc1l, List.length_append, List.length_append, List.length_take, List.length_drop (l := cur.toList), hcs, hdl, htl]
            omega
          exact e'
        have hr2 := run_copyN (P := Try.prog) W2 54 54 3 65 2 gv (i * 2) k (c - i) ⟨gx, 0, none⟩ 1 1 cur1 65 (entC x) Try.underlying54 (by kernel_rfl) KG2 (by rw [hmn1]; exact entC_len x) (fun j v hj => by rw [Go.WideShapes.add_plain, Nat.zero_add]; exact (blk_cell kx2 j).trans (by simpa using hj)) (by rw [entC_len, hs1]; omega) (entC_one x)
        rw [hmn1, entC_len] at hr2
        have e6 : (es.take i ++ x :: es.drop i).length = n + 1 := by
          rw [List.length_append, List.length_take, List.length_cons, List.length_drop, hn0]
          omega
        have HO3 := Lib.hid (show OwnF (W2.setRow gv (cur1.toList.take (i * 2) ++ entC x ++ cur1.toList.drop (i * 2 + 2)).toArray) base 65 2 entC (.slice (some ⟨gv, 0, none⟩) (n + 1) c) (es.take i ++ x :: es.drop i) from by
          rw [← e6]
          refine own_of_cells (setRow_heap _ _ _ _ _ _ KG2) hb (by rw [e6]; omega) hm (by rw [List.size_toArray, h2.2]; exact hcs) (by rw [List.toList_toArray]; exact h2.1))
        have HK3 := Lib.hid (show Keeps (OwnB (some ⟨gv, 0, none⟩)) w (W2.setRow gv (cur1.toList.take (i * 2) ++ entC x ++ cur1.toList.drop (i * 2 + 2)).toArray) from keeps_setRow KK2 (.inl ⟨0, none, rfl⟩) _)
        have hov := run_overlaps (P := Try.prog) w 54 65 #[4] gx gv 0 ((i + 1) * 2) 1 (n - i) 1 (c - (i + 1)) 2 _ _ _ _ Try.underlying54 (by kernel_rfl) (by decide) (by decide) (by omega) hx hg (fun e => hgne e.symm)
        have hi3 : (i : Int) ≤ (n : Int) + 1 := by omega
        have hi1 : i + 1 ≤ n + 1 := by omega
        have hi2 : ((i + 1 : Nat) : Int) ≤ ((n + 1 : Nat) : Int) := by omega
        have hz1 : (0 : Int) ≤ (i : Int) + 1 := by omega
        have hnc : n + 1 ≤ c := by omega
        have hgi1 : ¬ c = i + 1 := by omega
        have hci : ¬ c = i := by omega
        have x1 : decide ((c : Int) < ((n + 1 : Nat) : Int)) = false := by simp; omega
        have x1n : decide (c < n + 1) = false := decide_eq_false hcap
        have HW1 := Lib.hid (show wrap64 ((i : Int) + 1) = ((i + 1 : Nat) : Int) from next_wrap hlt (by clear e1; omega))
        have HHK := Lib.hid hk
        clear h2 htd hone hdl KG2 kx2 KK2 hc1l hti ht hcs hgvl hcur1 hW2 hmn1 hmn2 hs1 e6 hg hx HO hgx hs hil hn0 hne htl hil2
        go_enter Try.func35, Try.ntmps35
        go_upto_region 14 with fail
        clear e1 x1 x1n hk hcap hm hn hin hlt x0 x0n x00
        have HR1 := Lib.hid hr1
        have HR2 := Lib.hid hr2
        clear hr1 hr2
        have hw1 := HW1.out
        go_wp2_with fail
        rw [run_callFunc_extern Try.func52 (by kernel_rfl) (by kernel_rfl) (by kernel_rfl) (e := Extern.SlicesOverlaps.overlaps #[54, 54] #[4]) (by kernel_rfl), hov]
        simp only [Result.andThen]
        rw [Oper.upon_value]
        clear hov
        go_upto_region 15 with fail
        have hr1 := HR1.out
        rw [← HHK.out] at hr1
        refine start_ (n := 9) (S := fun w' => True) (ds := [8]) #[false, false, false, false, false, false, false, false, false] (by kernel_rfl) rfl rfl trivial (fun hHeld => ?_)
        refine pure_ (i := 0) (N := some 69) (v := ?_) (a' := ?_) #[true, false, false, false, false, false, false, false, false] rfl rfl (by kernel_rfl) (fun _ _ _ h => h) (Or.inl ⟨by rfl, ?_⟩) ?_ ?_
        rotate_left
        · intro w'
          go_simp
          with_reducible rfl
        rotate_left
        · simp only [Act.put, List.setIfInBounds_toArray, List.set_cons_zero, List.set_cons_succ, i64_w, i32_w]
          rfl
        refine pure_ (i := 1) (N := some 70) (v := ?_) (a' := ?_) #[true, true, false, false, false, false, false, false, false] rfl rfl (by kernel_rfl) (fun _ _ _ h => h) (Or.inl ⟨by rfl, ?_⟩) ?_ ?_
        rotate_left
        · intro w'
          go_simp
          with_reducible rfl
        rotate_left
        · simp only [Act.put, List.setIfInBounds_toArray, List.set_cons_zero, List.set_cons_succ, i64_w, i32_w]
          rfl
        refine pure_ (i := 2) (N := some 71) (v := ?_) (a' := ?_) #[true, true, true, false, false, false, false, false, false] rfl rfl (by kernel_rfl) (fun _ _ _ h => h) (Or.inl ⟨by rfl, ?_⟩) ?_ ?_
        rotate_left
        · intro w'
          go_simp
          with_reducible rfl
        rotate_left
        · simp only [Act.put, List.setIfInBounds_toArray, List.set_cons_zero, List.set_cons_succ, i64_w, i32_w]
          rfl
        refine pure_ (i := 3) (N := some 72) (v := ?_) (a' := ?_) #[true, true, true, true, false, false, false, false, false] rfl rfl (by kernel_rfl) (fun _ _ _ h => h) (Or.inl ⟨by rfl, ?_⟩) ?_ ?_
        rotate_left
        · intro w'
          go_simp
          with_reducible rfl
        rotate_left
        · simp only [Act.put, List.setIfInBounds_toArray, List.set_cons_zero, List.set_cons_succ, i64_w, i32_w]
          rfl
        refine pure_ (i := 4) (N := some 73) (v := ?_) (a' := ?_) #[true, true, true, true, true, false, false, false, false] rfl rfl (by kernel_rfl) (fun _ _ _ h => h) (Or.inl ⟨by rfl, ?_⟩) ?_ ?_
        rotate_left
        · intro w'
          go_simp
          with_reducible rfl
        rotate_left
        · simp only [Act.put, List.setIfInBounds_toArray, List.set_cons_zero, List.set_cons_succ, i64_w, i32_w]
          rfl
        refine pure_ (i := 5) (N := some 74) (v := ?_) (a' := ?_) #[true, true, true, true, true, true, false, false, false] rfl rfl (by kernel_rfl) (fun _ _ _ h => h) (Or.inl ⟨by rfl, ?_⟩) ?_ ?_
        rotate_left
        · intro w'
          go_simp
          with_reducible rfl
        rotate_left
        · simp only [Act.put, List.setIfInBounds_toArray, List.set_cons_zero, List.set_cons_succ, i64_w, i32_w]
          rfl
        refine pure_ (i := 6) (N := some 75) (v := ?_) (a' := ?_) #[true, true, true, true, true, true, true, false, false] rfl rfl (by kernel_rfl) (fun _ _ _ h => h) (Or.inl ⟨by rfl, ?_⟩) ?_ ?_
        rotate_left
        · intro w'
          go_simp
          with_reducible rfl
        rotate_left
        · simp only [Act.put, List.setIfInBounds_toArray, List.set_cons_zero, List.set_cons_succ, i64_w, i32_w]
          rfl
        refine pure_ (i := 7) (N := some 76) (v := ?_) (a' := ?_) #[true, true, true, true, true, true, true, true, false] rfl rfl (by kernel_rfl) (fun _ _ _ h => h) (Or.inl ⟨by rfl, ?_⟩) ?_ ?_
        rotate_left
        · intro w'
          go_simp
          with_reducible rfl
        rotate_left
        · simp only [Act.put, List.setIfInBounds_toArray, List.set_cons_zero, List.set_cons_succ, i64_w, i32_w]
          rfl
        refine last_ (i := 8) (N := some 77) #[true, true, true, true, true, true, true, true, true] rfl rfl (by kernel_rfl) (by decide) (fun K hK => ?_)
        refine step_copy (by rfl) (.tmp 73) (.tmp 76) 54 54 rfl rfl rfl hr1 ?_
        refine hK.out _ _ ?_
        clear hK K
        refine norm_ (a' := ?_) ?_ ?_
        rotate_left
        · show Act.put _ (some 77) _ = _
          simp only [Act.put, List.setIfInBounds_toArray, List.set_cons_zero, List.set_cons_succ, i64_w, i32_w]
          rfl
        refine done_ (by kernel_rfl) ?_

        clear hw1 hr1
        have hr2 := HR2.out
        rw [← HHK.out] at hr2
        go_wp2_with (at_builtin; refine wpl_copy rfl (.tmp 80) (.tmp 81) 54 54 rfl rfl rfl hr2 ?_)
        go_ret
        have HO4 := HO3.out
        have HK4 := HK3.out
        rw [List.append_assoc] at HO4 HK4
        first | exact ⟨_, rfl, HO4, HK4, fun k hk => by cases hk; exact .inl ⟨0, none, rfl⟩⟩ | exact ⟨_, rfl, HO3.out, HK3.out, fun k hk => by cases hk; exact .inl ⟨0, none, rfl⟩⟩
end Go.Proofs.Ytcnehponkgofiaa.My
