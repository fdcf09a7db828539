/- Results of which some lie in cells. -/
import Derived.Test.YtoandabafkdgjaaKit
namespace Go.Proofs.Ytoandabafkdgjaa.My
set_option linter.unusedSimpArgs false
open Go.RowKit
/-- A row read as a value. -/
theorem load_row {P : Program} {w : World} {g t : Nat} {cs : Array Value} {fr : Nat × Nat} (hg : w.heap[g]? = some (.cells cs t fr)) (ty : TypeId) (d : TypeDesc)
    (hu : P.underlying ty = some d) (hd : (match d with | .struct _ | .array _ _ => true | _ => false) = true) (hi : (P.info? ty).map (·.size) = some cs.size) :
    (loadVar ty ⟨g, 0, none⟩).run P w = .ok (.agg cs) w := run_loadVar_row w g t ty cs fr d hg hu hd hi
theorem res_ct {fn : Func} {p u : Tmp} {ty : TypeId} (h : fn.results = #[.cell p ty, .tmp u]) {tmps : Array Value} {P : Program} {w : World} {a : Addr} {v : Value}
    (hp : tmps.getD p undef = .pointer (some a)) (hl : (loadVar ty a).run P w = .ok v w) : (results fn tmps).run P w = .ok (.tuple #[v, tmps.getD u undef]) w := by
  have hp' : tmps[p]?.getD undef = .pointer (some a) := by simpa using hp
  simp [results, h, hp', asAddr, Sem.run_bind, hl]
theorem res_ctt {fn : Func} {p u x : Tmp} {ty : TypeId} (h : fn.results = #[.cell p ty, .tmp u, .tmp x]) {tmps : Array Value} {P : Program} {w : World} {a : Addr} {v : Value}
    (hp : tmps.getD p undef = .pointer (some a)) (hl : (loadVar ty a).run P w = .ok v w) : (results fn tmps).run P w = .ok (.tuple #[v, tmps.getD u undef, tmps.getD x undef]) w := by
  have hp' : tmps[p]?.getD undef = .pointer (some a) := by simpa using hp
  simp [results, h, hp', asAddr, Sem.run_bind, hl]
theorem res_tc {fn : Func} {p u : Tmp} {ty : TypeId} (h : fn.results = #[.tmp u, .cell p ty]) {tmps : Array Value} {P : Program} {w : World} {a : Addr} {v : Value}
    (hp : tmps.getD p undef = .pointer (some a)) (hl : (loadVar ty a).run P w = .ok v w) : (results fn tmps).run P w = .ok (.tuple #[tmps.getD u undef, v]) w := by
  have hp' : tmps[p]?.getD undef = .pointer (some a) := by simpa using hp
  simp [results, h, hp', asAddr, Sem.run_bind, hl]
theorem row_new (w : World) (o : Obj) {n : Nat} (h : n = w.heap.size) : (w.alloc o).heap[n]? = some o := by subst h; exact heap_alloc_new w o
theorem row_drew (w : World) (o : Obj) {n : Nat} (h : n = w.heap.size) : (w.alloc o).drew.heap[n]? = some o := row_new w o h
/-- A whole row stored: the operation's run. -/
theorem run_strow {P : Program} {o : Oper} {a : Act} {w : World} (ty : TypeId) (x y : Operand) (ho : o.op = .store ty x y) (g : Nat) (cells : Array Value) (hx : a.eval x = .pointer (some ⟨g, 0, none⟩)) (hy : a.eval y = .agg cells)
    (t : TypeId) (old : Array Value) (hg : w.heap[g]? = some (.cells old t (0, 0))) (hi : (P.info? ty).map (·.size) = some cells.size) (hold : old.size = cells.size) (h1 : cells.all (·.oneCell') = true) :
    (execOp a.eval o).run P w = .ok .skip (w.setRow g cells) := by
  unfold execOp
  simp only [ho, hx, hy, Instr.storeAt, Instr.sureAddr, Sem.run_bind, Sem.run_pure, Result.andThen_ok, run_storeVar_row w g t ty old cells hg hi hold h1]
/-- A struct in the midst of a block read: the operation's run. -/
theorem run_midrow {P : Program} {o : Oper} {a : Act} {w : World} (ty : TypeId) (x : Operand) (ho : o.op = .load ty x) (b f : Nat) (hx : a.eval x = .pointer (some ⟨b, f, none⟩)) (cs : List Value) (d : TypeDesc) (hc : w.rangeAt b f cs)
    (hu : P.underlying ty = some d) (hd : d.isRow = true) (hi : (P.info? ty).map (·.size) = some cs.length) :
    (execOp a.eval o).run P w = .ok (.value (.agg cs.toArray)) w := by
  unfold execOp
  simp only [ho, hx, Instr.loadAt, Instr.sureAddr, Sem.run_bind, Sem.run_pure, Result.andThen_ok, run_loadVar_mid w b f ty cs d hc hu hd hi]
theorem range_below {w w' : World} {b f : Nat} {cs : List Value} (h : w.rangeAt b f cs) (hb : Below w.heap.size w w') (hlt : b < w.heap.size) : w'.rangeAt b f cs := fun j v hj => (hb.cell (p := ⟨b, f + j, none⟩) hlt).trans (h j v hj)
theorem range_setRow {w : World} {b f g : Nat} {cs : List Value} (h : w.rangeAt b f cs) (hne : b ≠ g) (us : Array Value) : (w.setRow g us).rangeAt b f cs := fun j v hj => (cell_setRow_other w g us ⟨b, f + j, none⟩ hne).trans (h j v hj)
theorem keeps_setRow {S : Nat → Prop} {a b : World} (h : Keeps S a b) {g : Nat} (hg : S g ∨ a.heap.size ≤ g) (cs : Array Value) : Keeps S a (b.setRow g cs) :=
  ⟨h.os, h.tape, h.output, by simpa using h.size, fun k hk hn => by
    have hne : k ≠ g := by
      rintro rfl
      rcases hg with hg | hg
      · exact hn hg
      · omega
    exact (setRow_other b g k cs hne).trans (h.block k hk hn)⟩
end Go.Proofs.Ytoandabafkdgjaa.My
