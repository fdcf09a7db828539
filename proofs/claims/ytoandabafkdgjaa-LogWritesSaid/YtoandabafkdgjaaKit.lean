/- Small laws of our own that all walks of this seat use: appends to rows of bytes, forms of what make leaves. -/
import Derived.Test.YtoandabafkdgjaaProg
import Derived.Below
import Derived.Deep.Draws
import Derived.Deep.AppendLies
import Derived.Maps.AppendAt
import Derived.OwnWalk
import Derived.Laws.BytesArg
import Derived.Laws.MakeOwn
import Derived.Laws.OwnMore
import Derived.Deep.OwnRows
import Derived.Tactics
import Derived.Lib.ConvBytes
import Derived.Laws.Slices
import Derived.WalkKit
import Derived.KernelRfl
import Derived.RowKit3
import Derived.Deep.LoopGhost
import Derived.Deep.QuietTactic
import Derived.BigQuiet
import Derived.WideLaws
import Derived.Deep.DeepCutAuto
import Derived.Deep.CutBlock
import Derived.Deep.RegionHeld3
import Derived.Laws.Rows
import Derived.Laws.Tables
import Derived.Deep.WholeRow
import Derived.Laws.CopyOwn
import Derived.Lib.AppendStr
import Derived.ArgAppend
import Derived.Laws.IdiomCopy
import Derived.OrdersHeld
import Derived.StillTailTactics
import Derived.Deep.MidRow
import Derived.Laws.BitsLemmas
import Derived.RowKit
import Derived.Lib.Hide
import Derived.Outline
import Derived.Test.YtoandabafkdgjaaWWords
import Derived.Test.YtoandabafkdgjaaWLast
namespace Go.Proofs.Ytoandabafkdgjaa.My
open Go.RowKit Go.Proofs.YtoandabafkdgjaaW.PrintWords Go.Proofs.YtoandabafkdgjaaW.PrintLast

theorem info_u8 : (Try.prog.info? 5).map (fun i => (i.zero, i.size, i.bytes)) = some (some (.int .u8 0), 1, 1) := by kernel_rfl

/-- What make([]T, n) leaves, n at least 1: the slice's form. -/
theorem make_form {α : Type} {d : Kd α} {e : Nat} {w1 : World} {b size : Nat} {v : Value} {z : α} (h : Kd.R d e w1 b (fun _ => True) v (List.replicate (size : Int).toNat z)) (h1 : 1 ≤ size) :
    ∃ g cap, (v = .slice (some ⟨g, 0, none⟩) size cap ∧ Hid (Kd.R d e w1 b (fun _ => True) (.slice (some ⟨g, 0, none⟩) size cap) (List.replicate size z))) ∧ b ≤ g := by
  rw [Int.toNat_natCast] at h
  obtain ⟨g, cap, rfl, hg, -, -⟩ := Kd.R_form h (by simp; omega)
  rw [List.length_replicate] at h ⊢
  exact ⟨g, cap, ⟨rfl, h⟩, hg⟩

/-- Of the blocks that were there none has turned but those of S. -/
structure Keeps (S : Nat → Prop) (w w' : World) : Prop where
  os : w'.os = w.os
  tape : w'.tape = w.tape
  output : w'.output = w.output
  size : w.heap.size ≤ w'.heap.size
  block : ∀ k, k < w.heap.size → ¬ S k → w'.heap[k]? = w.heap[k]?
namespace Keeps
variable {S S' : Nat → Prop} {a b c w w' : World}
theorem refl (S : Nat → Prop) (w : World) : Keeps S w w := ⟨rfl, rfl, rfl, Nat.le_refl _, fun _ _ _ => rfl⟩
/-- Behind it a call that turns S', of which what was there at first is in S. -/
theorem then_ (h : Keeps S a b) (k : Keeps S' b c) (hs : ∀ i, S' i → S i ∨ a.heap.size ≤ i) : Keeps S a c :=
  ⟨k.os.trans h.os, k.tape.trans h.tape, k.output.trans h.output, Nat.le_trans h.size k.size, fun i hi hn =>
    (k.block i (Nat.lt_of_lt_of_le hi h.size) (fun hi' => (hs i hi').elim hn (fun hj => by omega))).trans (h.block i hi hn)⟩
theorem trans (h : Keeps S a b) (k : Keeps S b c) : Keeps S a c := h.then_ k (fun _ hi => .inl hi)
theorem mono (h : Keeps S a b) (hs : ∀ i, S i → S' i) : Keeps S' a b := ⟨h.os, h.tape, h.output, h.size, fun i hi hn => h.block i hi (fun hi' => hn (hs i hi'))⟩
theorem of_below (S : Nat → Prop) (h : Below a.heap.size a b) : Keeps S a b := ⟨h.os, h.tape, h.output, h.size, fun i hi _ => h.block i hi⟩
theorem below (h : Keeps S a b) (k : Below b.heap.size b c) : Keeps S a c := h.trans (of_below S k)
theorem alloc (h : Keeps S a b) (o : Obj) : Keeps S a (b.alloc o) := h.below (below_alloc (Below.refl _ _) o)
theorem drew (h : Keeps S a b) : Keeps S a b.drew := ⟨h.os, h.tape, h.output, h.size, h.block⟩
theorem drewN (h : Keeps S a b) (n : Nat) : Keeps S a (b.drewN n) := h.below (pw_below_drewN (Below.refl _ _) n)
theorem set (h : Keeps S a b) {p : Addr} (hp : S p.block ∨ a.heap.size ≤ p.block) (u : Value) : Keeps S a (b.setCell p u) :=
  ⟨h.os, h.tape, h.output, by simpa [World.setCell] using h.size, fun k hk hn => by
    have hne : k ≠ p.block := by
      rintro rfl
      rcases hp with hp | hp
      · exact hn hp
      · omega
    exact (Below.heap_setCell b p u k hne).trans (h.block k hk hn)⟩
/-- Where S lies from B on. -/
theorem to_below (h : Keeps S a b) {B : Nat} (hB : B ≤ a.heap.size) (hs : ∀ i, S i → B ≤ i) : Below B a b :=
  ⟨h.os, h.tape, h.output, h.size, fun k hk => h.block k (by omega) (fun hi => by have := hs k hi; omega)⟩
theorem blk (h : Keeps S w w') {g : Nat} {o : Obj} (hg : w.heap[g]? = some o) (hn : ¬ S g) : w'.heap[g]? = some o := (h.block g (blk_lt hg) hn).trans hg
end Keeps
/-- Only block alone. -/
def Only (g : Nat) : Nat → Prop := fun k => k = g
theorem Only.self (g : Nat) : Only g g := rfl
theorem Keeps.own {w w' : World} {g : Nat} (h : Keeps (Only g) w w') (i : Nat) (u : Value) : Keeps (Only g) w (w'.setCell ⟨g, i, none⟩ u) := h.set (p := ⟨g, i, none⟩) (.inl rfl) u
/-- What was below B, and what a call that turns blocks from B on leaves. -/
theorem below_keeps {B : Nat} {S : Nat → Prop} {a b c : World} (h : Below B a b) (k : Keeps S b c) (hB : B ≤ b.heap.size) (hs : ∀ i, S i → B ≤ i) : Below B a c := h.trans (k.to_below hB hs)

section
variable {ops : Array Oper} {rest : List Oper} {o : Oper} {a : Act} {Q : Exit → Act → World → Prop}
/-- append(b, x), b a row of bytes of the call's own. -/
theorem app_u8 {w0 W : World} (base : Nat) (hgd : o.guard = none) (s x : Operand) (v : Value) (xs : List Int) (p : Int) 
    (ho : o.op = .call { callee := .builtin .append, args := #[s, x], argTypes := #[30, 30] }) (hs : a.eval s = v) (hx : a.eval x = .slice (some ⟨W.heap.size, 0, none⟩) 1 1)
    (HO : Kd.R (Kd.int .u8) 5 W base (fun _ => True) v xs) (HB : Below base w0 W) (hbase : base ≤ W.heap.size) (hl : xs.length + 1 ≤ 140737488355328)
    (h : ∀ v1 w1, Hid (Kd.R (Kd.int .u8) 5 w1 base (fun _ => True) v1 (xs ++ [p])) → Hid (Below base w0 w1) → wpList Try.prog ops Q rest (a.put o.dst v1) w1) :
    wpList Try.prog ops Q (o :: rest) a (W.alloc (.cells #[.int .u8 p] 5)) :=
  Kd.R_append (Kd.int .u8) base hgd s x 30 5 (.int .u8 0) 1 ho Try.underlying30 info_u8 rfl (by decide) (by omega) v xs p [.int .u8 p] (fun _ => True) (fun _ => False) hs hx rfl (fun _ hk => hk.elim) (fun _ _ => trivial) HO HB hbase (by omega)
    (fun v1 w1 h1 h2 _ _ => h v1 w1 h1 h2)
end
section
variable {P : Program} {ops : Array Oper} {rest : List Oper} {o : Oper} {a : Act} {w : World} {Q : Act → Prop}
/-- In a region whose order is drawn: a whole row loaded. -/
theorem still_row (hw : Region.wanted o (yielded ops a.tmps) = true) (ty : TypeId) (x : Operand) (ho : o.op = .load ty x)
    (g : Nat) (hx : a.eval x = .pointer (some ⟨g, 0, none⟩)) (t : TypeId) (cs : Array Value) (fr : Nat × Nat) (d : TypeDesc) (hg : w.heap[g]? = some (.cells cs t fr))
    (hu : P.underlying ty = some d) (hd : (match d with | .struct _ | .array _ _ => true | _ => false) = true) (hi : (P.info? ty).map (·.size) = some cs.size)
    (h : wpStill P ops w Q rest (a.put o.dst (.agg cs))) : wpStill P ops w Q (o :: rest) a := by
  refine wpStill_step fun K hK => ?_
  rw [if_pos hw]
  unfold Oper.still
  have e : (execOp a.eval o).run P w = .ok (.value (.agg cs)) w := by
    unfold execOp
    simp only [ho, hx, Instr.loadAt, Instr.sureAddr, Sem.run_bind, Sem.run_pure, Result.andThen_ok, run_loadVar_row w g t ty cs fr d hg hu hd hi]
  rw [e, Oper.stillUpon_value]
  exact hK _ h
end
/-- A whole row loaded: the operation's run. -/
theorem run_row {P : Program} {o : Oper} {a : Act} {w : World} (ty : TypeId) (x : Operand) (ho : o.op = .load ty x)
    (g : Nat) (hx : a.eval x = .pointer (some ⟨g, 0, none⟩)) (t : TypeId) (cs : Array Value) (fr : Nat × Nat) (d : TypeDesc) (hg : w.heap[g]? = some (.cells cs t fr))
    (hu : P.underlying ty = some d) (hd : (match d with | .struct _ | .array _ _ => true | _ => false) = true) (hi : (P.info? ty).map (·.size) = some cs.size) :
    (execOp a.eval o).run P w = .ok (.value (.agg cs)) w := by
  unfold execOp
  simp only [ho, hx, Instr.loadAt, Instr.sureAddr, Sem.run_bind, Sem.run_pure, Result.andThen_ok, run_loadVar_row w g t ty cs fr d hg hu hd hi]
/-! ### A slice of bytes cell by cell -/
def ByteRow (w : World) (g : Nat) (l : List UInt8) : Prop := ∀ j (h : j < l.length), w.cell? ⟨g, j, none⟩ = some (.int .u8 ((l[j]'h).toNat : Int)) ∧ w.frozen? ⟨g, j, none⟩ = false
theorem ByteRow.set {w : World} {g : Nat} {l : List UInt8} (h : ByteRow w g l) (i : Nat) (c : UInt8) (v : Int) (hv : v = (c.toNat : Int)) (hi : i < l.length) : ByteRow (w.setCell ⟨g, i, none⟩ (.int .u8 v)) g (l.set i c) := by
  subst hv
  intro j hj
  rw [List.length_set] at hj
  refine ⟨?_, ?_⟩
  · rw [List.getElem_set]
    by_cases e : i = j
    · subst e
      rw [if_pos rfl]
      obtain ⟨x, hx⟩ : ∃ x, w.cell? ⟨g, i, none⟩ = some x := ⟨_, (h i hi).1⟩
      exact World.cell?_setCell_same _ _ _ hx
    · rw [if_neg e, ← (h j hj).1]
      exact World.cell?_setCell_other _ _ _ _ (fun h => e (congrArg Addr.off h))
  · rw [← (h j hj).2]
    exact World.frozen?_setCell _ _ _ _
theorem ByteRow.of_bytes (w : World) (e : TypeId) (s : ByteArray) : ByteRow (Lib.bytesWorld w e s) w.heap.size s.data.toList := by
  intro j hj
  have hj' : j < s.size := by simpa using hj
  refine ⟨?_, ?_⟩
  · rw [Lib.bytesWorld_cell w e s j hj', List.getD_eq_getElem?_getD, List.getElem?_eq_getElem hj]
    rfl
  · unfold World.frozen?
    rw [Lib.bytesWorld_at_new]
    have : s.size ≤ (Lib.bytesCells w e s).size := by
      show s.data.size ≤ _
      simp only [Lib.bytesCells, Array.size_append, Array.size_map]
      omega
    simp
    omega
theorem ByteRow.str {w : World} {g : Nat} {l : List UInt8} (h : ByteRow w g l) (cap : Nat) : (convert 30 9 (.slice (some ⟨g, 0, none⟩) l.length cap)).run Try.prog w = .ok (.string ⟨l.toArray⟩) w :=
  run_convert_bytes_back w 30 9 5 ⟨g, 0, none⟩ cap l Try.underlying30 Try.underlying5 Try.underlying9 (fun j hj => by
    rw [show (⟨g, 0, none⟩ : Addr).add j = ⟨g, j, none⟩ from by unfold Addr.add; split <;> simp_all]
    exact (h j hj).1)
theorem ByteRow.below {w w1 : World} {g : Nat} {l : List UInt8} (h : ByteRow w g l) (hb : Below w.heap.size w w1) (hg : g < w.heap.size) : ByteRow w1 g l := fun j hj =>
  ⟨(hb.cell (p := ⟨g, j, none⟩) hg).trans (h j hj).1, (hb.frozen (p := ⟨g, j, none⟩) hg).trans (h j hj).2⟩
theorem ByteRow.drew {w : World} {g : Nat} {l : List UInt8} (h : ByteRow w g l) : ByteRow w.drew g l := h
/-- A conversion that only reads: the operation's run. -/
theorem run_conv {P : Program} {o : Oper} {a : Act} {w : World} (src dst : TypeId) (x : Operand) (ho : o.op = .convert src dst x) (v s : Value) (hx : a.eval x = v) (h : (convert src dst v).run P w = .ok s w) :
    (execOp a.eval o).run P w = .ok (.value s) w := by
  unfold execOp
  simp only [ho, hx, Sem.run_bind, h, Result.andThen_ok, Sem.run_pure]
theorem cell_block_lt {w : World} {p : Addr} {v : Value} (h : w.cell? p = some v) : p.block < w.heap.size := by
  rcases Nat.lt_or_ge p.block w.heap.size with h1 | h1
  · exact h1
  · exfalso
    have : w.heap[p.block]? = none := Array.getElem?_eq_none h1
    simp [World.cell?, this] at h
end Go.Proofs.Ytoandabafkdgjaa.My
