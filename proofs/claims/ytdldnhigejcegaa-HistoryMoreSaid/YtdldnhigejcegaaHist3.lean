/- history.Tx.last: slices.Backward, a range over a function. -/
import Derived.RangeFuncNested
import Derived.RangeFuncBound
import Derived.RangeFuncCalls
import Derived.RangeFuncLeaves
import Derived.RangeFuncBox
import Derived.Shelf.Abstract
import Derived.OwnWalkIn
import Derived.TacticsInMore
import Derived.LoopNIn
import Derived.LoopIn
import Derived.Test.YtdldnhigejcegaaHist2
namespace Go.Proofs.Ytdldnhigejcegaa.My
set_option linter.unusedSimpArgs false
set_option linter.unusedVariables false
open Go.RowKit Go.Shelf Go.Proofs.YtdldnhigejcegaaW.PrintWords Go.Proofs.YtdldnhigejcegaaW.PrintLast Go.Proofs.Ytdldnhigejcegaa.Pm
attribute [local go_sem] Oper.semAt_some

/-- What has come when k rounds are over. -/
def upto {α : Type} (f : Nat → α) (k : Nat) : List α := (List.range k).map f
theorem upto_succ {α : Type} (f : Nat → α) (k : Nat) : upto f (k + 1) = upto f k ++ [f k] := by simp [upto, List.range_succ]
theorem upto_length {α : Type} (f : Nat → α) (k : Nat) : (upto f k).length = k := by simp [upto]
def wr0 : WrT := (⟨#[]⟩, false, ⟨#[]⟩)
/-- The j-th from behind. -/
def bkw (ws : List WrT) (j : Nat) : Nat × WrT := (ws.length - 1 - j, ws[ws.length - 1 - j]?.getD wr0)
set_option maxRecDepth 100000 in
set_option maxHeartbeats 2000000 in
theorem bw1_in (F : Fence) (n : Nat) (h8 : F.fn 78) (hro : F.round = none) (hn : 1 ≤ n) (l Bs n₀ len cap : Nat) (A : Option Addr) (ws : List WrT) (hlen : len ≤ 140737488351232) (J Jx : List (Nat × WrT) → World → Prop)
    (hY : ∀ pre x W, J pre W → pre.length < len → YieldAt F (n - 1) Try.prog l #[.int .i64 (x.1 : Int), .agg #[.string x.2.1, .bool x.2.2.1, .string x.2.2.2]] W fun e W' =>
      (e = .returned (.bool true) ∧ J (pre ++ [x]) W' ∧ Below n₀ W W') ∨ (e = .returned (.bool false) ∧ Jx (pre ++ [x]) W'))
    (W : World) (hBs : W.cell? ⟨Bs, 0, none⟩ = some (.slice A len cap)) (hBn : Bs < n₀) (hb : 0 < len → ∀ b off, A = some ⟨b, off, none⟩ → b < n₀) (hA : RowF W 3 wrC A len ws) (h0 : J [] W) :
    CallsIn F n Try.prog 78 #[.func (.yield l) #[] #[], .pointer (some ⟨Bs, 0, none⟩)] W fun e W' => (∃ v, e = .returned v) ∧
      ((∃ ys, ys = upto (bkw ws) len ∧ J ys W') ∨ (∃ pre, (∃ k, k ≤ len ∧ pre = upto (bkw ws) k) ∧ Jx pre W')) := by
  have HA := Lib.hid hA; clear hA
  have HBB := Lib.hid hb; clear hb
  have e0 : wrap64 ((len : Int) - 1) = (len : Int) - 1 := prev_wrap hlen
  refine callsIn_of_wp Try.func78 rfl h8 ?_ hro
  simp only [Try.ntmps78, List.size_toArray, List.length_cons, List.length_nil, Nat.reduceAdd, Nat.reduceSub, Array.replicate_succ, Array.replicate_zero, List.push_toArray, List.append_toArray, List.nil_append, List.cons_append]
  gi_wp2
  gi_loopw [3] (fun i wr => ∃ (k : Nat) (z : Int), k ≤ len ∧ i = .int .i64 z ∧ z = (len : Int) - 1 - k ∧ J (upto (bkw ws) k) wr ∧ Below n₀ W wr)
    (fun i _ => (intOf i + 1).toNat)
  case atStart => exact ⟨0, _, Nat.zero_le _, rfl, by simp, h0, Below.refl _ _⟩
  case round =>
    obtain ⟨k, z, hk, rfl, hz, hJs, hnx⟩ := hrel
    have hBs1 := (hnx.cell (p := ⟨Bs, 0, none⟩) hBn).trans hBs
    by_cases hlt : k < len
    · obtain ⟨m, hm⟩ : ∃ m, len - 1 - k = m := ⟨_, rfl⟩
      obtain rfl : z = (m : Int) := by omega
      have hml : m < len := by omega
      obtain ⟨b, off, hj, rfl, hbW, hc⟩ := HA.out.get m hml
      have hcw : wr.rangeAt b (off + m * 3) (wrC ws[m]) := fun j v hj => (hnx.cell (p := ⟨b, off + m * 3 + j, none⟩) (HBB.out (by omega) b off rfl)).trans (hc j v hj)
      have hbk : bkw ws k = (m, ws[m]) := by
        unfold bkw
        rw [show ws.length - 1 - k = m by rw [HA.out.1]; exact hm, List.getElem?_eq_getElem hj, Option.getD_some]
      obtain ⟨⟨p0, p1, p2⟩, hp⟩ : ∃ p, ws[m] = p := ⟨_, rfl⟩
      rw [hp] at hcw hbk
      have c0 : wr.cell? ⟨b, off + m * 3, none⟩ = some (.string p0) := hcw 0 _ rfl
      have c1 : wr.cell? ⟨b, off + m * 3 + 1, none⟩ = some (.bool p1) := hcw 1 _ rfl
      have c2 : wr.cell? ⟨b, off + m * 3 + 2, none⟩ = some (.string p2) := hcw 2 _ rfl
      have e1 : wrap64 ((m : Int) - 1) = (m : Int) - 1 := prev_wrap (by omega)
      have HZ := Lib.hid hz
      clear hcw hc hp hz hm
      obtain ⟨fn, tmps, assign, body, hy, hR⟩ := hY _ (m, p0, p1, p2) wr hJs (by rw [upto_length]; exact hlt)
      dsimp only at hy
      gi_wp2
      refine hR.mono ?_
      rintro e W3 (⟨rfl, hJ3, hk3⟩ | ⟨rfl, hJx3⟩)
      · gi_wp2
        go_roundw
        case rel => exact ⟨k + 1, _, hlt, by go_num, by have := HZ.out; omega, by rw [upto_succ, hbk]; exact hJ3, hnx.trans hk3⟩
        case measure => simp [intOf]
      · gi_wp2
        refine bodyPost_ret (results_none rfl _ _ _) rfl ?_
        exact ⟨⟨_, rfl⟩, .inr ⟨_, ⟨k + 1, hlt, (upto_succ _ _).symm⟩, by rw [hbk]; exact hJx3⟩⟩
    · obtain rfl : k = len := by omega
      obtain rfl : z = -1 := by omega
      gi_wp2
      go_end0
      exact ⟨⟨_, rfl⟩, .inl ⟨_, rfl, hJs⟩⟩
set_option maxHeartbeats 1000000 in
theorem bw_in (F : Fence) (n : Nat) (h6 : F.fn 68) (hro : F.round = none) (A : Option Addr) (len cap : Nat) (w : World) :
    CallsIn F n Try.prog 68 #[.slice A len cap] w fun e w' => e = .returned (.func (.func 78) #[] #[.pointer (some ⟨w.heap.size, 0, none⟩)]) ∧ w' = w.alloc (.cells #[.slice A len cap] 23) := by
  refine callsIn_of_wp Try.func68 rfl h6 ?_ hro
  simp only [Try.ntmps68, List.size_toArray, List.length_cons, List.length_nil, Nat.reduceAdd, Nat.reduceSub, Array.replicate_succ, Array.replicate_zero, List.push_toArray, List.append_toArray, List.nil_append, List.cons_append]
  gi_wp2
  go_ret
  exact ⟨rfl, rfl⟩
theorem bw_stops (F : Fence) (n : Nat) (h8 : F.fn 78) (hro : F.round = none) (hn : 1 ≤ n) (Bs n₀ len cap : Nat) (A : Option Addr) (ws : List WrT) (hlen : len ≤ 140737488351232) (w : World) (hBs : Bs < n₀) (hn₀ : n₀ ≤ w.heap.size)
    (hc : w.cell? ⟨Bs, 0, none⟩ = some (.slice A len cap)) (hb : 0 < len → ∀ b off, A = some ⟨b, off, none⟩ → b < n₀) (hI : RowF w 3 wrC A len ws) :
    SeqStopsK F n Try.prog 78 #[.pointer (some ⟨Bs, 0, none⟩)] (fun x : Nat × WrT => #[Value.int .i64 (x.1 : Int), .agg #[.string x.2.1, .bool x.2.2.1, .string x.2.2.2]]) (Below n₀) (fun ys => ys = upto (bkw ws) len)
      (fun pre => ∃ k, k ≤ len ∧ pre = upto (bkw ws) k) len w := fun l J Jx W hW _ _ hY h0 =>
  bw1_in F n h8 hro hn l Bs n₀ len cap A ws hlen J Jx hY W ((hW.cell (p := ⟨Bs, 0, none⟩) (Nat.lt_of_lt_of_le hBs hn₀)).trans hc) hBs hb (hI.below (hW)) h0
/-- A block of cells stays under whatever the iterator does. -/
theorem blk_own {g : Nat} {o : Obj} (ho : o.isCells = true) : ∀ {A B : World} {row : Option Nat}, A.heap[g]? = some o → A.grownBy B row → (∀ r, row = some r → ∃ o : Obj, A.heap[r]? = some o ∧ o.isCells = false) → B.heap[g]? = some o := fun {A B row} h hg hr =>
  (hg.block g (Array.getElem?_eq_some_iff.1 h).1 (fun e => by obtain ⟨o', h1, h2⟩ := hr g e.symm; rw [h] at h1; cases h1; rw [ho] at h2; cases h2)).trans h
theorem beq_str (a b : ByteArray) : (a.toList == b.toList) = decide (a = b) := by
  rw [ByteArray.toList_eq, ByteArray.toList_eq]
  by_cases h : a = b
  · simp [h]
  · rw [decide_eq_false h]
    exact beq_eq_false_iff_ne.2 (fun e => h (Go.WideShapes.bytes_inj e))
theorem upto_rev {ws : List WrT} {k : Nat} (h : k ≤ ws.length) : (upto (bkw ws) k).map (·.2) = ws.reverse.take k := by
  refine List.ext_getElem (by simp [upto]; omega) fun i h1 h2 => ?_
  simp only [upto, List.length_map, List.length_range] at h1
  simp only [upto, bkw, List.getElem_map, List.getElem_range, List.getElem_take, List.getElem_reverse]
  rw [List.getElem?_eq_getElem (by omega), Option.getD_some]
theorem lastS_none {ws : List WrT} {key : ByteArray} (h : ∀ p ∈ upto (bkw ws) ws.length, p.2.1 ≠ key) : lastS ws key = none := by
  unfold lastS
  rw [List.find?_eq_none]
  intro x hx
  have e := upto_rev (Nat.le_refl ws.length)
  rw [List.take_of_length_le (by simp)] at e
  rw [← e] at hx
  obtain ⟨p, hp, rfl⟩ := List.mem_map.1 hx
  simpa using h p hp
theorem lastS_some {ws : List WrT} {key : ByteArray} {k : Nat} {ini : List (Nat × WrT)} {last : Nat × WrT} (hk : k ≤ ws.length) (e1 : upto (bkw ws) k = ini ++ [last]) (e2 : ∀ p ∈ ini, p.2.1 ≠ key) (e3 : last.2.1 = key) : lastS ws key = some last.2 := by
  unfold lastS
  rw [List.find?_eq_some_iff_append]
  refine ⟨by simpa using e3, ini.map (·.2), ws.reverse.drop k, ?_, fun a ha => ?_⟩
  · have e := upto_rev hk
    rw [e1, List.map_append, List.map_cons, List.map_nil] at e
    have := List.take_append_drop k ws.reverse
    rw [← e, List.append_assoc] at this
    exact this.symm
  · obtain ⟨p, hp, rfl⟩ := List.mem_map.1 ha
    simpa using e2 p hp
/-- A cell of another block written. -/
theorem far {w : World} {g : Nat} {o : Obj} {p : Addr} {u : Value} (hne : g ≠ p.block) (h : w.heap[g]? = some o) : (w.setCell p u).heap[g]? = some o := (Below.heap_setCell w p u g hne).trans h
set_option maxRecDepth 100000 in
set_option maxHeartbeats 4000000 in
theorem last_in (F : Fence) (n : Nat) (h3 : F.fn 53) (h6 : F.fn 68) (h8 : F.fn 78) (hro : F.round = none) (hn : 3 ≤ n) (a : TxP) (key : ByteArray) (w : World) (ha : TxOk w a) :
    CallsIn F n Try.prog 53 #[.agg a.arr, .string key] w fun e W' => ∃ u : WrT, ∃ ok : Bool, e = .returned (.tuple #[.agg #[.string u.1, .bool u.2.1, .string u.2.2], .bool ok]) ∧ ((ok = true ∧ lastS a.ws key = some u) ∨ (ok = false ∧ lastS a.ws key = none)) ∧ Below w.heap.size w W' := by
  have h1 : 1 ≤ n := by omega
  have HA := Lib.hid ha; clear ha
  unfold TxP.arr
  refine callsIn_of_wp_marks Try.func53 rfl h3 ?_ hro
  simp only [Try.ntmps53, List.size_toArray, List.length_cons, List.length_nil, Nat.reduceAdd, Nat.reduceSub, Array.replicate_succ, Array.replicate_zero, List.push_toArray, List.append_toArray, List.nil_append, List.cons_append]
  gi_wp2_with (gi_at_call 68; refine (bw_in F (n - 1) h6 hro _ _ _ _).mono ?_; rintro e w' ⟨rfl, rfl⟩)
  have HB0 : Below w.heap.size w (((((w.alloc (.cells #[.int .u64 (a.start : Int), .int .u64 (a.commit : Int), .slice a.rA a.rn a.rc, .slice a.wA a.wn a.wc] 68)).alloc (.cells #[.string key] 9)).alloc (.cells #[.string ⟨#[]⟩, .bool false, .string ⟨#[]⟩] 75)).alloc (.cells #[.bool false] 4)).alloc (.cells #[.slice a.wA a.wn a.wc] 23)) := below_alloc (below_alloc (below_alloc (below_alloc (below_alloc (Below.refl _ w) _) _) _) _) _
  have K1 : (((((w.alloc (.cells #[.int .u64 (a.start : Int), .int .u64 (a.commit : Int), .slice a.rA a.rn a.rc, .slice a.wA a.wn a.wc] 68)).alloc (.cells #[.string key] 9)).alloc (.cells #[.string ⟨#[]⟩, .bool false, .string ⟨#[]⟩] 75)).alloc (.cells #[.bool false] 4)).alloc (.cells #[.slice a.wA a.wn a.wc] 23)).heap[w.heap.size + 1]? = some (.cells #[.string key] 9 (0, 0)) := blk_alloc (blk_alloc (blk_alloc (row_new (w.alloc (.cells #[.int .u64 (a.start : Int), .int .u64 (a.commit : Int), .slice a.rA a.rn a.rc, .slice a.wA a.wn a.wc] 68)) (.cells #[.string key] 9) (by simp)) _) _) _
  have K2 : (((((w.alloc (.cells #[.int .u64 (a.start : Int), .int .u64 (a.commit : Int), .slice a.rA a.rn a.rc, .slice a.wA a.wn a.wc] 68)).alloc (.cells #[.string key] 9)).alloc (.cells #[.string ⟨#[]⟩, .bool false, .string ⟨#[]⟩] 75)).alloc (.cells #[.bool false] 4)).alloc (.cells #[.slice a.wA a.wn a.wc] 23)).heap[w.heap.size + 1 + 1]? = some (.cells #[.string ⟨#[]⟩, .bool false, .string ⟨#[]⟩] 75 (0, 0)) := blk_alloc (blk_alloc (row_new ((w.alloc (.cells #[.int .u64 (a.start : Int), .int .u64 (a.commit : Int), .slice a.rA a.rn a.rc, .slice a.wA a.wn a.wc] 68)).alloc (.cells #[.string key] 9)) (.cells #[.string ⟨#[]⟩, .bool false, .string ⟨#[]⟩] 75) (by simp)) _) _
  have K3 : (((((w.alloc (.cells #[.int .u64 (a.start : Int), .int .u64 (a.commit : Int), .slice a.rA a.rn a.rc, .slice a.wA a.wn a.wc] 68)).alloc (.cells #[.string key] 9)).alloc (.cells #[.string ⟨#[]⟩, .bool false, .string ⟨#[]⟩] 75)).alloc (.cells #[.bool false] 4)).alloc (.cells #[.slice a.wA a.wn a.wc] 23)).heap[w.heap.size + 1 + 1 + 1]? = some (.cells #[.bool false] 4 (0, 0)) := blk_alloc (row_new (((w.alloc (.cells #[.int .u64 (a.start : Int), .int .u64 (a.commit : Int), .slice a.rA a.rn a.rc, .slice a.wA a.wn a.wc] 68)).alloc (.cells #[.string key] 9)).alloc (.cells #[.string ⟨#[]⟩, .bool false, .string ⟨#[]⟩] 75)) (.cells #[.bool false] 4) (by simp)) _
  have K4 : (((((w.alloc (.cells #[.int .u64 (a.start : Int), .int .u64 (a.commit : Int), .slice a.rA a.rn a.rc, .slice a.wA a.wn a.wc] 68)).alloc (.cells #[.string key] 9)).alloc (.cells #[.string ⟨#[]⟩, .bool false, .string ⟨#[]⟩] 75)).alloc (.cells #[.bool false] 4)).alloc (.cells #[.slice a.wA a.wn a.wc] 23)).heap[w.heap.size + 1 + 1 + 1 + 1]? = some (.cells #[.slice a.wA a.wn a.wc] 23 (0, 0)) := row_new ((((w.alloc (.cells #[.int .u64 (a.start : Int), .int .u64 (a.commit : Int), .slice a.rA a.rn a.rc, .slice a.wA a.wn a.wc] 68)).alloc (.cells #[.string key] 9)).alloc (.cells #[.string ⟨#[]⟩, .bool false, .string ⟨#[]⟩] 75)).alloc (.cells #[.bool false] 4)) (.cells #[.slice a.wA a.wn a.wc] 23) (by simp)
  have hsz : (((((w.alloc (.cells #[.int .u64 (a.start : Int), .int .u64 (a.commit : Int), .slice a.rA a.rn a.rc, .slice a.wA a.wn a.wc] 68)).alloc (.cells #[.string key] 9)).alloc (.cells #[.string ⟨#[]⟩, .bool false, .string ⟨#[]⟩] 75)).alloc (.cells #[.bool false] 4)).alloc (.cells #[.slice a.wA a.wn a.wc] 23)).heap.size = w.heap.size + 5 := by simp
  obtain ⟨W0, hW0⟩ : ∃ W0, (((((w.alloc (.cells #[.int .u64 (a.start : Int), .int .u64 (a.commit : Int), .slice a.rA a.rn a.rc, .slice a.wA a.wn a.wc] 68)).alloc (.cells #[.string key] 9)).alloc (.cells #[.string ⟨#[]⟩, .bool false, .string ⟨#[]⟩] 75)).alloc (.cells #[.bool false] 4)).alloc (.cells #[.slice a.wA a.wn a.wc] 23)) = W0 := ⟨_, rfl⟩
  rw [hW0] at HB0 K1 K2 K3 K4 hsz ⊢
  clear hW0
  refine wpIn_rangeFunc_ownH hro h1 (gf := 78) (lb := #[.pointer (some ⟨w.heap.size + 1 + 1 + 1 + 1, 0, none⟩)]) rfl h8 (enters_of Try.func78 (by kernel_rfl) rfl)
    (bw_stops F (n - 1) h8 hro (by omega) (w.heap.size + 1 + 1 + 1 + 1) (w.heap.size + 1 + 1 + 1 + 1 + 1) a.wn a.wc a.wA a.ws HA.out.2.2.2.1 W0 (by omega) (by omega) ((blk_cell K4 0).trans rfl) (fun h0 b off e => by have := RowF.lt HA.out.2.1 e h0; omega) (HA.out.2.1.below HB0)) belowK_t (belowK_b (by omega)) (Below.refl _ _) (fun _ => rfl)
    (fun pre W => ((W.heap[w.heap.size + 1]? = some (.cells #[.string key] 9 (0, 0)) ∧ W.heap[w.heap.size + 1 + 1]? = some (.cells #[.string ⟨#[]⟩, .bool false, .string ⟨#[]⟩] 75 (0, 0)) ∧ W.heap[w.heap.size + 1 + 1 + 1]? = some (.cells #[.bool false] 4 (0, 0)) ∧ W.heap[w.heap.size + 1 + 1 + 1 + 1]? = some (.cells #[.slice a.wA a.wn a.wc] 23 (0, 0))) ∧ ∀ p ∈ pre, p.2.1 ≠ key) ∧ Below w.heap.size w W)
    (fun c pre W => (c = .ret ∧ ∃ (ini : List (Nat × WrT)) (last : Nat × WrT), pre = ini ++ [last] ∧ (∀ p ∈ ini, p.2.1 ≠ key) ∧ last.2.1 = key ∧ W.heap[w.heap.size + 1 + 1]? = some (.cells #[.string last.2.1, .bool last.2.2.1, .string last.2.2.2] 75 (0, 0)) ∧ W.heap[w.heap.size + 1 + 1 + 1]? = some (.cells #[.bool true] 4 (0, 0))) ∧ Below w.heap.size w W)
    (OwnFrom.and (Own.from (fun s A B row hs hg hr => ⟨⟨blk_own rfl hs.1.1 hg hr, blk_own rfl hs.1.2.1 hg hr, blk_own rfl hs.1.2.2.1 hg hr, blk_own rfl hs.1.2.2.2 hg hr⟩, hs.2⟩) _) (ownFrom_below (Nat.le_refl _) (by omega)))
    (fun c => OwnFrom.and (Own.from (fun s A B row hs hg hr => by obtain ⟨hc, ini, last, e1, e2, e3, e4, e5⟩ := hs; exact ⟨hc, ini, last, e1, e2, e3, blk_own rfl e4 hg hr, blk_own rfl e5 hg hr⟩) _) (ownFrom_below (Nat.le_refl _) (by omega)))
    ⟨⟨⟨K1, K2, K3, K4⟩, fun p hp => by simp at hp⟩, HB0⟩
    (fun x a' W => ∃ Bx, w.heap.size + 1 + 1 + 1 + 1 < Bx ∧ W.heap[Bx]? = some (.cells #[.string x.2.1, .bool x.2.2.1, .string x.2.2.2] 75 (0, 0)) ∧ a' = { tmps := #[.agg #[.int .u64 (a.start : Int), .int .u64 (a.commit : Int), .slice a.rA a.rn a.rc, .slice a.wA a.wn a.wc], .string key, .pointer (some ⟨w.heap.size, 0, none⟩), .pointer (some ⟨w.heap.size + 1, 0, none⟩), .pointer (some ⟨w.heap.size + 1 + 1, 0, none⟩), .pointer (some ⟨w.heap.size + 1 + 1 + 1, 0, none⟩), undef, .pointer (some ⟨Bx, 0, none⟩), .pointer (some ⟨w.heap.size, 3, none⟩), .slice a.wA a.wn a.wc, .func (.func 78) #[] #[.pointer (some ⟨w.heap.size + 1 + 1 + 1 + 1, 0, none⟩)], .int .i64 (x.1 : Int), .agg #[.string x.2.1, .bool x.2.2.1, .string x.2.2.2], undef, undef, undef, undef, undef, undef], defers := [] })
    (fun x a' _ X Y row hs hg hr => by obtain ⟨Bx, h1, h2, h3⟩ := hs; exact ⟨Bx, h1, blk_own rfl h2 hg (fun r e => (hr r e).2), h3⟩)
    ?assign ?body ?done ?stop
  case assign =>
    rintro l pre x W K hI hK
    obtain ⟨⟨⟨k1, k2, k3, k4⟩, hp⟩, hB⟩ := hI
    have hsz2 : w.heap.size + 1 + 1 + 1 + 1 + 1 ≤ W.heap.size := blk_lt k4
    gi_wp2
    exact hK _ _ ((KeepsOthers.alloc _ _).from _) ((Below.refl _ W).alloc hsz2 _) ⟨⟨⟨blk_alloc k1 _, blk_alloc k2 _, blk_alloc k3 _, blk_alloc k4 _⟩, hp⟩, hB.alloc hB.size _⟩ ⟨W.heap.size, hsz2, blk_new W _, rfl⟩
  case body =>
    rintro l pre x a' W hl hr ⟨⟨⟨k1, k2, k3, k4⟩, hp⟩, hB⟩ ⟨Bx, hBx, bX, rfl⟩ hlt
    have hne := beq_str x.2.1 key
    have x0 : W.cell? ⟨Bx, 0, none⟩ = some (.string x.2.1) := (blk_cell bX 0).trans rfl
    have x1 : W.cell? ⟨Bx, 1, none⟩ = some (.bool x.2.2.1) := (blk_cell bX 1).trans rfl
    have x2 : W.cell? ⟨Bx, 2, none⟩ = some (.string x.2.2.2) := (blk_cell bX 2).trans rfl
    have c1 : W.cell? ⟨w.heap.size + 1, 0, none⟩ = some (.string key) := (blk_cell k1 0).trans rfl
    have g0 : W.cell? ⟨w.heap.size + 1 + 1, 0, none⟩ = some (.string ⟨#[]⟩) := (blk_cell k2 0).trans rfl
    have g1 : W.cell? ⟨w.heap.size + 1 + 1, 1, none⟩ = some (.bool false) := (blk_cell k2 1).trans rfl
    have g2 : W.cell? ⟨w.heap.size + 1 + 1, 2, none⟩ = some (.string ⟨#[]⟩) := (blk_cell k2 2).trans rfl
    have f0 := blk_frozen k2 0
    have f1 := blk_frozen k2 1
    have f2 := blk_frozen k2 2
    have q0 : W.cell? ⟨w.heap.size + 1 + 1 + 1, 0, none⟩ = some (.bool false) := (blk_cell k3 0).trans rfl
    have q1 := blk_frozen k3 0
    by_cases he : x.2.1 = key
    · rw [decide_eq_true he] at hne
      gi_wp2
      exact ⟨((((KeepsOthers.setCell _ _ _).trans (KeepsOthers.setCell _ _ _)).trans (KeepsOthers.setCell _ _ _)).trans (KeepsOthers.setCell _ _ _)).from _, ⟨rfl, pre, x, rfl, hp, he, (by rw [he]; exact far (by simp) (blk_set (blk_set (blk_set k2 0 _) 1 _) 2 _)), blk_set (far (by simp) (far (by simp) (far (by simp) k3))) 0 _⟩,
        (((hB.setCell (p := ⟨w.heap.size + 1 + 1, 0, none⟩) (by simp; omega) _).setCell (p := ⟨w.heap.size + 1 + 1, 1, none⟩) (by simp; omega) _).setCell (p := ⟨w.heap.size + 1 + 1, 2, none⟩) (by simp; omega) _).setCell (p := ⟨w.heap.size + 1 + 1 + 1, 0, none⟩) (by simp; omega) _⟩
    · rw [decide_eq_false he] at hne
      gi_wp2
      exact ⟨KeepsFrom.refl _ _, Below.refl _ _, ⟨⟨k1, k2, k3, k4⟩, fun p hp' => (List.mem_append.1 hp').elim (hp p) (fun e => by simp at e; subst e; exact he)⟩, hB⟩
  case done =>
    rintro D ys W hD rfl ⟨⟨⟨k1, k2, k3, k4⟩, hp⟩, hB⟩ hK
    have g0 : W.cell? ⟨w.heap.size + 1 + 1, 0, none⟩ = some (.string ⟨#[]⟩) := (blk_cell k2 0).trans rfl
    have g1 : W.cell? ⟨w.heap.size + 1 + 1, 1, none⟩ = some (.bool false) := (blk_cell k2 1).trans rfl
    have g2 : W.cell? ⟨w.heap.size + 1 + 1, 2, none⟩ = some (.string ⟨#[]⟩) := (blk_cell k2 2).trans rfl
    have f0 := blk_frozen k2 0
    have f1 := blk_frozen k2 1
    have f2 := blk_frozen k2 2
    have q0 : W.cell? ⟨w.heap.size + 1 + 1 + 1, 0, none⟩ = some (.bool false) := (blk_cell k3 0).trans rfl
    have q1 := blk_frozen k3 0
    gi_wp2
    have K2 : ((((W.setCell ⟨w.heap.size + 1 + 1, 0, none⟩ (.string ⟨#[]⟩)).setCell ⟨w.heap.size + 1 + 1, 1, none⟩ (.bool false)).setCell ⟨w.heap.size + 1 + 1, 2, none⟩ (.string ⟨#[]⟩)).setCell ⟨w.heap.size + 1 + 1 + 1, 0, none⟩ (.bool false)).heap[w.heap.size + 1 + 1]? = some (.cells #[.string ⟨#[]⟩, .bool false, .string ⟨#[]⟩] 75 (0, 0)) := far (by simp) (blk_set (blk_set (blk_set k2 0 _) 1 _) 2 _)
    have K3 : ((((W.setCell ⟨w.heap.size + 1 + 1, 0, none⟩ (.string ⟨#[]⟩)).setCell ⟨w.heap.size + 1 + 1, 1, none⟩ (.bool false)).setCell ⟨w.heap.size + 1 + 1, 2, none⟩ (.string ⟨#[]⟩)).setCell ⟨w.heap.size + 1 + 1 + 1, 0, none⟩ (.bool false)).heap[w.heap.size + 1 + 1 + 1]? = some (.cells #[.bool false] 4 (0, 0)) := blk_set (far (by simp) (far (by simp) (far (by simp) k3))) 0 _
    have KD : ((((W.setCell ⟨w.heap.size + 1 + 1, 0, none⟩ (.string ⟨#[]⟩)).setCell ⟨w.heap.size + 1 + 1, 1, none⟩ (.bool false)).setCell ⟨w.heap.size + 1 + 1, 2, none⟩ (.string ⟨#[]⟩)).setCell ⟨w.heap.size + 1 + 1 + 1, 0, none⟩ (.bool false)).heap[D]? = some (.deferred (some [])) := far (by simp; omega) (far (by simp; omega) (far (by simp; omega) (far (by simp; omega) hK)))
    have KB : Below w.heap.size w ((((W.setCell ⟨w.heap.size + 1 + 1, 0, none⟩ (.string ⟨#[]⟩)).setCell ⟨w.heap.size + 1 + 1, 1, none⟩ (.bool false)).setCell ⟨w.heap.size + 1 + 1, 2, none⟩ (.string ⟨#[]⟩)).setCell ⟨w.heap.size + 1 + 1 + 1, 0, none⟩ (.bool false)) := (((hB.setCell (p := ⟨w.heap.size + 1 + 1, 0, none⟩) (by simp; omega) _).setCell (p := ⟨w.heap.size + 1 + 1, 1, none⟩) (by simp; omega) _).setCell (p := ⟨w.heap.size + 1 + 1, 2, none⟩) (by simp; omega) _).setCell (p := ⟨w.heap.size + 1 + 1 + 1, 0, none⟩) (by simp; omega) _
    generalize World.setCell _ _ _ = W2 at *
    refine ⟨by simp, .inl ⟨_, _, rfl, run_takeDeferred KD, ?_⟩⟩
    have k2' := blk_own rfl K2 (grownBy_putObj' _ D (.deferred none)) (fun r e => by cases e; exact ⟨_, KD, rfl⟩)
    have k3' := blk_own rfl K3 (grownBy_putObj' _ D (.deferred none)) (fun r e => by cases e; exact ⟨_, KD, rfl⟩)
    have c0 := (blk_cell k2' 0)
    have c1 := (blk_cell k2' 1)
    have c2 := (blk_cell k2' 2)
    have c3 := (blk_cell k3' 0)
    refine ⟨_, ?_, (⟨#[]⟩, false, ⟨#[]⟩), false, rfl, .inr ⟨rfl, lastS_none (fun p hp' => hp p (by rw [← HA.out.2.1.1]; exact hp'))⟩, KB.trans (belowK_b (w := w) (Nat.le_refl _) W2 D _ _ (by omega) KD rfl rfl)⟩
    simp [results, Try.f53, go_sem, c0, c1, c2, c3]
  case stop =>
    rintro D c pre W hD ⟨k, hk, rfl⟩ ⟨⟨rfl, ini, last, e1, e2, e3, k2, k3⟩, hB⟩ hK
    gi_wp2
    refine ⟨by simp, .inl ⟨_, _, rfl, run_takeDeferred hK, ?_⟩⟩
    have k2' := blk_own rfl k2 (grownBy_putObj' _ D (.deferred none)) (fun r e => by cases e; exact ⟨_, hK, rfl⟩)
    have k3' := blk_own rfl k3 (grownBy_putObj' _ D (.deferred none)) (fun r e => by cases e; exact ⟨_, hK, rfl⟩)
    have c0 := (blk_cell k2' 0)
    have c1 := (blk_cell k2' 1)
    have c2 := (blk_cell k2' 2)
    have c3 := (blk_cell k3' 0)
    refine ⟨_, ?_, last.2, true, rfl, .inl ⟨rfl, ?_⟩, hB.trans (belowK_b (w := w) (Nat.le_refl _) W D _ _ (by omega) hK rfl rfl)⟩
    · simp [results, Try.f53, go_sem, c0, c1, c2, c3]
    · exact lastS_some (by rw [HA.out.2.1.1]; exact hk) e1 e2 e3
theorem last_any (a : TxP) (key : ByteArray) (w : World) (ha : TxOk w a) :
    Calls Try.prog 53 #[.agg a.arr, .string key] w fun e W' => ∃ u : WrT, ∃ ok : Bool, e = .returned (.tuple #[.agg #[.string u.1, .bool u.2.1, .string u.2.2], .bool ok]) ∧ ((ok = true ∧ lastS a.ws key = some u) ∨ (ok = false ∧ lastS a.ws key = none)) ∧ Below w.heap.size w W' :=
  (callsIn_wide (n := 3)).1 (last_in _ 3 trivial trivial trivial rfl (Nat.le_refl _) a key w ha)
end Go.Proofs.Ytdldnhigejcegaa.My
