/- HistoryMore: the plain law; what the walk holds. -/
import Derived.Test.YtdldnhigejcegaaLawHA
import Derived.Test.YtdldnhigejcegaaAppR
namespace Go.Proofs.Ytdldnhigejcegaa.My
set_option linter.unusedSimpArgs false
set_option linter.unusedVariables false
open Go.RowKit Go.Proofs.YtdldnhigejcegaaW.PrintWords Go.Proofs.YtdldnhigejcegaaW.PrintLast Go.Proofs.Ytdldnhigejcegaa.Pm

/-- What stands of a key, as a read. -/
def rdOf (l : List TxP) (t : Nat) (k : ByteArray) : RdT := if 0 < (atS l k t).1 ∧ (atS l k t).2.1 = false then (k, true, atS l k t) else (k, false, (0, false, ⟨#[]⟩))
theorem atS_more (l : List TxP) (x : TxP) (h : x.ws = []) (k : ByteArray) (t : Nat) : atS (l ++ [x]) k t = atS l k t := by
  unfold atS
  rw [List.foldl_append, List.foldl_cons, List.foldl_nil]
  unfold atStep
  split
  · rfl
  · rw [h]
    rfl
theorem readOk_more (l : List TxP) (x : TxP) (h : x.ws = []) (t : Nat) (r : RdT) : readOk (l ++ [x]) t r = readOk l t r := by
  unfold readOk
  rw [atS_more l x h]
theorem readOk_of (l : List TxP) (t : Nat) (k : ByteArray) : readOk l t (rdOf l t k) = true := by
  unfold readOk rdOf
  by_cases h : 0 < (atS l k t).1 ∧ (atS l k t).2.1 = false
  · rw [if_pos h]
    simp only
    rw [if_neg (by rintro (e | e); omega; rw [h.2] at e; cases e)]
    simp
  · rw [if_neg h]
    simp only
    rw [if_pos (by
      rcases Nat.eq_zero_or_pos (atS l k t).1 with e | e
      · exact .inl e
      · right
        cases hg : (atS l k t).2.1 with
        | true => rfl
        | false => exact absurd ⟨e, hg⟩ h)]
    rfl
theorem fault_more {l : List TxP} {x : TxP} (h : x.ws = []) {i : Nat} (hi : i < l.length) (y : TxP) : faultS (l ++ [x]) i y = faultS l i y := by
  unfold faultS
  rw [List.take_append_of_le_length (Nat.le_of_lt hi)]
  simp only [readOk_more l x h]
theorem fault_last {l : List TxP} {x : TxP} (h : x.ws = []) (hr : ∀ r ∈ x.rs, readOk l x.start r = true) (i : Nat) : faultS (l ++ [x]) i x = 0 := by
  unfold faultS
  rw [if_neg (by rw [h]; rintro ⟨_, e, _⟩; exact absurd e (by decide))]
  have hc : ∀ y, clash x y = false := fun y => by
    have : sharedS x.ws y.ws = false := by
      rw [h]
      unfold sharedS
      simp
    unfold clash
    rw [this]
    simp
  rw [if_neg (by
    rintro ⟨_, e⟩
    obtain ⟨y, _, e⟩ := List.any_eq_true.1 e
    rw [hc] at e
    cases e)]
  rw [if_neg (by
    intro e
    obtain ⟨r, hm, e⟩ := List.any_eq_true.1 e
    rw [readOk_more l x h, hr r hm] at e
    cases e)]
theorem more_same {l : List TxP} {x : TxP} (h : x.ws = []) (hr : ∀ r ∈ x.rs, readOk l x.start r = true) {i j : Int} {k m : Nat} (h1 : FaultIs l i k) (h2 : FaultIs (l ++ [x]) j m) : k = m := by
  have hlen : (l ++ [x]).length = l.length + 1 := by simp
  have e : ∀ q (hq : q < l.length), faultS (l ++ [x]) q ((l ++ [x])[q]'(by rw [hlen]; omega)) = faultS l q l[q] := fun q hq => by
    rw [List.getElem_append_left hq]
    exact fault_more h hq _
  have e0 : faultS (l ++ [x]) l.length ((l ++ [x])[l.length]'(by rw [hlen]; omega)) = 0 := by
    rw [List.getElem_append_right (Nat.le_refl _)]
    simp only [Nat.sub_self, List.getElem_cons_zero]
    exact fault_last h hr _
  rcases h1 with ⟨_, rfl, h1⟩ | ⟨a, ha, _, hk, hk0, h1⟩
  · rcases h2 with ⟨_, rfl, _⟩ | ⟨b, hb, _, hm, hm0, _⟩
    · rfl
    · exfalso
      rcases Nat.lt_or_ge b l.length with hb' | hb'
      · rw [e b hb', h1 b hb'] at hm
        exact hm0 hm
      · obtain rfl : b = l.length := by omega
        rw [e0] at hm
        exact hm0 hm
  · rcases h2 with ⟨_, _, h2⟩ | ⟨b, hb, _, hm, hm0, h2⟩
    · exfalso
      have := h2 a (by omega)
      rw [e a ha, ← hk] at this
      exact hk0 this
    · rcases Nat.lt_or_ge b l.length with hb' | hb'
      · rw [e b hb'] at hm
        rcases Nat.lt_trichotomy a b with h | h | h
        · have := h2 a (by omega) h
          rw [e a ha, ← hk] at this
          exact absurd this hk0
        · subst h
          rw [hk, hm]
        · have := h1 b hb' h
          rw [← hm] at this
          exact absurd this hm0
      · exfalso
        obtain rfl : b = l.length := by omega
        rw [e0] at hm
        exact hm0 hm
theorem OwnF.ne_type {α : Type} {w : World} {base e n g t : Nat} {f : α → List Value} {v : Value} {l : List α} {cs : Array Value} {fr : Nat × Nat} (h : OwnF w base e n f v l) (hg : w.heap[g]? = some (.cells cs t fr)) (hne : e ≠ t) : v.ownBlock ≠ some g := by
  rcases h.2 with ⟨rfl, _⟩ | ⟨g', cap, cur, rfl, _, hh, _⟩
  · intro e; cases e
  · intro e
    cases e
    rw [hh] at hg
    cases hg
    exact hne rfl
theorem rdC_len (p : RdT) : (rdC p).length = 5 := rfl
theorem rdC_one (p : RdT) : ∀ u ∈ rdC p, u.oneCell' = true := by
  intro u hu
  simp only [rdC, List.mem_cons, List.not_mem_nil, or_false] at hu
  rcases hu with rfl | rfl | rfl | rfl | rfl <;> rfl
theorem txC_len (p : TxP) : (txC p).length = 4 := rfl
theorem txC_one (p : TxP) : ∀ u ∈ txC p, u.oneCell' = true := by
  intro u hu
  simp only [txC, TxP.arr, List.mem_cons, List.not_mem_nil, or_false] at hu
  rcases hu with rfl | rfl | rfl | rfl <;> rfl
theorem info_rd : (Try.prog.info? 43).map (fun i => (i.zero, i.size, i.bytes)) = some (some (.agg #[.string ⟨#[]⟩, .bool false, .int .u64 0, .bool false, .string ⟨#[]⟩]), 5, 56) := by kernel_rfl
theorem info_tx : (Try.prog.info? 68).map (fun i => (i.zero, i.size, i.bytes)) = some (some (.agg #[.int .u64 0, .int .u64 0, .slice none 0 0, .slice none 0 0]), 4, 64) := by kernel_rfl
def strC (s : ByteArray) : List Value := [.string s]
/-- What the walk holds while a transaction's reads grow: base, the transaction's block g, the reads' value. -/
structure Mo (w0 w : World) (g st : Nat) (v : Value) (rs : List RdT) : Prop where
  bel : Below w0.heap.size w0 w
  blk : w.heap[g]? = some (.cells #[.int .u64 (st : Int), .int .u64 (st : Int), v, .slice none 0 0] 68 (0, 0))
  own : OwnF w w0.heap.size 43 5 rdC v rs
  ge : w0.heap.size ≤ g
theorem Mo.alloc {w0 w : World} {g st : Nat} {v : Value} {rs : List RdT} (h : Mo w0 w g st v rs) (o : Obj) : Mo w0 (w.alloc o) g st v rs :=
  ⟨below_alloc h.bel o, blk_alloc h.blk o, h.own.below (below_alloc (Below.refl _ _) o), h.ge⟩
theorem Mo.drew {w0 w : World} {g st : Nat} {v : Value} {rs : List RdT} (h : Mo w0 w g st v rs) : Mo w0 w.drew g st v rs := ⟨h.bel.drew, h.blk, h.own.below (below_drew (Below.refl _ _)), h.ge⟩
theorem Mo.below {w0 w w1 : World} {g st : Nat} {v : Value} {rs : List RdT} (h : Mo w0 w g st v rs) (hb : Below w.heap.size w w1) : Mo w0 w1 g st v rs :=
  ⟨h.bel.trans (hb.mono h.bel.size), blk_below h.blk hb, h.own.below hb, h.ge⟩
/-- A block above all turns. -/
theorem Mo.turn {w0 w w1 : World} {g st b : Nat} {v : Value} {rs : List RdT} (h : Mo w0 w g st v rs) (hk : Keeps (Only b) w w1) (hb : w0.heap.size ≤ b) (h1 : b ≠ g) (h2 : v.ownBlock ≠ some b) : Mo w0 w1 g st v rs :=
  ⟨h.bel.trans (hk.to_below h.bel.size (fun i hi => by cases hi; exact hb)), hk.blk h.blk (fun e => h1 e.symm), h.own.keep fun x hx hlt => hk.block x hlt (fun e => h2 (by rw [hx]; exact congrArg some e)), h.ge⟩
theorem Keeps.of_grown {w w1 : World} {b : Nat} (h : w.grownBy w1 (some b)) : Keeps (Only b) w w1 := ⟨h.os, h.tape, h.output, h.size, fun k hk hn => h.block k hk (fun e => hn (by cases e; rfl))⟩
theorem Mo.row {w0 w : World} {g st : Nat} {v : Value} {rs : List RdT} (h : Mo w0 w g st v rs) : ∃ A c, v = .slice A rs.length c ∧ RowF w 5 rdC A rs.length rs := by
  obtain ⟨A, c, rfl, _⟩ := h.own.slice_
  exact ⟨A, c, rfl, h.own.row rdC_len⟩
/-- append([]Read{}, v...). -/
theorem copy_step {w0 W : World} {g st g80 : Nat} {v : Value} {rs : List RdT} (ty : TypeId) (hM : Mo w0 W g st v rs) (h80 : W.heap[g80]? = some (.cells #[] 43 (0, 0))) (hge : w0.heap.size ≤ g80) (hne : v.ownBlock ≠ some g80) (hrs : rs.length ≤ 100) :
    ∃ v1 w1, (Builtin.append_ #[50, 50] ty #[.slice (some ⟨g80, 0, none⟩) 0 0, v]).run Try.prog W = .ok v1 w1 ∧ Mo w0 w1 g st v rs ∧ OwnF w1 w0.heap.size 43 5 rdC v1 rs ∧ Keeps (Only g80) W w1 ∧ (v1.ownBlock = some g80 ∨ v1.ownBlock = some W.heap.size) := by
  obtain ⟨A, c, rfl, hr⟩ := hM.row
  obtain ⟨v1, w1, h1, h2, h3, h4⟩ := run_app_rows (P := Try.prog) (base := w0.heap.size) (xs := ([] : List RdT)) 50 ty Try.underlying50 info_rd rfl (by decide) (by decide) rdC_len rdC_one (OwnF.empty h80 hge 5 rdC) (c := c) hr hM.bel.size (by simp only [List.length_nil]; omega)
  have hk := Keeps.of_grown h3
  have hg : g80 ≠ g := fun e => by
    subst e
    have := hM.blk
    rw [h80] at this
    injection this with this
    injection this with _ e _
    exact absurd e (by decide)
  exact ⟨v1, w1, h1, hM.turn hk hge hg hne, h2, hk, h4⟩
/-- append(v, r): r lies in a block of its own. -/
theorem push_step {w0 W : World} {g st g85 : Nat} {v v83 : Value} {rs : List RdT} {r : RdT} {ar : Array Value} (ty : TypeId) (hM : Mo w0 W g st v rs) (ho : OwnF W w0.heap.size 43 5 rdC v83 rs) (h85 : W.heap[g85]? = some (.cells ar 43 (0, 0))) (har : ar.toList = rdC r) (hrs : rs.length ≤ 100) :
    ∃ v1 w1, (Builtin.append_ #[50, 50] ty #[v83, .slice (some ⟨g85, 0, none⟩) 1 1]).run Try.prog W = .ok v1 w1 ∧ Below w0.heap.size w0 w1 ∧ w1.heap[g]? = some (.cells #[.int .u64 (st : Int), .int .u64 (st : Int), v, .slice none 0 0] 68 (0, 0)) ∧ OwnF w1 w0.heap.size 43 5 rdC v1 (rs ++ [r]) := by
  have hr : RowF W 5 rdC (some ⟨g85, 0, none⟩) 1 [r] := (OwnF.one (base := 0) h85 (Nat.zero_le _) har (rdC_len r)).row rdC_len
  obtain ⟨v1, w1, h1, h2, h3, h4⟩ := run_app_rows (P := Try.prog) (base := w0.heap.size) 50 ty Try.underlying50 info_rd rfl (by decide) (by decide) rdC_len rdC_one ho (c := 1) hr hM.bel.size (by omega)
  refine ⟨v1, w1, h1, hM.bel.grown h3 hM.bel.size (fun k hk => (ho.block_ge k hk).1), ?_, h2⟩
  exact (h3.block g (blk_lt hM.blk) (fun e => ho.ne_type hM.blk (by decide) e.symm)).trans hM.blk
theorem copy_txs {w0 W : World} {g st g80 len c : Nat} {v : Value} {rs : List RdT} {A : Option Addr} {l : List TxP} (ty : TypeId) (hM : Mo w0 W g st v rs) (hA : RowF W 4 txC A len l) (h80 : W.heap[g80]? = some (.cells #[] 68 (0, 0))) (hge : w0.heap.size ≤ g80) (hg : g80 ≠ g) (hne : v.ownBlock ≠ some g80) (hrs : len ≤ 100) :
    ∃ v1 w1, (Builtin.append_ #[63, 63] ty #[.slice (some ⟨g80, 0, none⟩) 0 0, .slice A len c]).run Try.prog W = .ok v1 w1 ∧ Mo w0 w1 g st v rs ∧ OwnF w1 w0.heap.size 68 4 txC v1 l ∧ Keeps (Only g80) W w1 ∧ (v1.ownBlock = some g80 ∨ v1.ownBlock = some W.heap.size) := by
  obtain ⟨v1, w1, h1, h2, h3, h4⟩ := run_app_rows (P := Try.prog) (base := w0.heap.size) (xs := ([] : List TxP)) 63 ty Try.underlying63 info_tx rfl (by decide) (by decide) txC_len txC_one (OwnF.empty h80 hge 4 txC) (c := c) hA hM.bel.size (by simp only [List.length_nil]; omega)
  have hk := Keeps.of_grown h3
  exact ⟨v1, w1, h1, hM.turn hk hge hg hne, h2, hk, h4⟩
theorem push_txs {w0 W : World} {g st g85 : Nat} {v v83 : Value} {rs : List RdT} {l : List TxP} {x : TxP} (ty : TypeId) (hM : Mo w0 W g st v rs) (ho : OwnF W w0.heap.size 68 4 txC v83 l) (hg : v83.ownBlock ≠ some g) (h85 : W.heap[g85]? = some (.cells x.arr 68 (0, 0))) (hrs : l.length ≤ 100) :
    ∃ v1 w1, (Builtin.append_ #[63, 63] ty #[v83, .slice (some ⟨g85, 0, none⟩) 1 1]).run Try.prog W = .ok v1 w1 ∧ Mo w0 w1 g st v rs ∧ OwnF w1 w0.heap.size 68 4 txC v1 (l ++ [x]) := by
  have hr : RowF W 4 txC (some ⟨g85, 0, none⟩) 1 [x] := (OwnF.one (base := 0) (f := txC) h85 (Nat.zero_le _) rfl (txC_len x)).row txC_len
  obtain ⟨v1, w1, h1, h2, h3, h4⟩ := run_app_rows (P := Try.prog) (base := w0.heap.size) 63 ty Try.underlying63 info_tx rfl (by decide) (by decide) txC_len txC_one ho (c := 1) hr hM.bel.size (by omega)
  refine ⟨v1, w1, h1, ⟨hM.bel.grown h3 hM.bel.size (fun k hk => (ho.block_ge k hk).1), (h3.block g (blk_lt hM.blk) (fun e => hg e.symm)).trans hM.blk, hM.own.keep fun y hy hlt => h3.block y hlt (fun e => ?_), hM.ge⟩, h2⟩
  rcases ho.2 with ⟨e1, _⟩ | ⟨g', cap, cur, e1, _, hh, _⟩
  · rw [e1] at e; cases e
  · rw [e1] at e
    cases e
    exact hM.own.ne_type hh (by decide) hy
theorem Mo.set_row {w0 W : World} {g st : Nat} {v1 : Value} {cs : Array Value} {rs : List RdT} (hb : Below w0.heap.size w0 W) (hg : W.heap[g]? = some (.cells cs 68 (0, 0))) (ho : OwnF W w0.heap.size 43 5 rdC v1 rs) (hge : w0.heap.size ≤ g) :
    Mo w0 (W.setRow g #[.int .u64 (st : Int), .int .u64 (st : Int), v1, .slice none 0 0]) g st v1 rs :=
  ⟨hb.trans ((keeps_setRow (Keeps.refl (Only g) W) (.inl rfl) _).to_below hb.size (fun i hi => by cases hi; exact hge)), setRow_heap W g _ _ _ _ hg, ho.keep fun x hx hlt => setRow_other W g x _ (fun e => ho.ne_type hg (by decide) (by rw [hx]; exact congrArg some e)), hge⟩
end Go.Proofs.Ytdldnhigejcegaa.My
