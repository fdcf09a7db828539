/- A row of bytes of the call's own, beside other blocks; a store into one cell. -/
import Derived.Test.YtoandabafkdgjaaRes
import Derived.Laws.IdiomCopy
namespace Go.Proofs.Ytoandabafkdgjaa.My
set_option linter.unusedSimpArgs false
set_option linter.unusedVariables false
open Go.RowKit Go.Proofs.YtoandabafkdgjaaW.PrintWords Go.Proofs.YtoandabafkdgjaaW.PrintLast

theorem cells_one {v : Value} (h : v.oneCell' = true) : v.cells = #[v] := by
  cases v <;> first | rfl | simp [Value.oneCell'] at h
/-- A value of one cell stored: the operation's run. -/
theorem run_stcell {P : Program} {o : Oper} {a : Act} {w : World} (ty : TypeId) (x y : Operand) (ho : o.op = .store ty x y) (b i : Nat) (v : Value) (hx : a.eval x = .pointer (some ⟨b, i, none⟩)) (hy : a.eval y = v) (hv : v.oneCell' = true)
    (hi : (P.info? ty).map (·.size) = some 1) (hc : (w.cell? ⟨b, i, none⟩).isSome = true) (hf : w.frozen? ⟨b, i, none⟩ = false) :
    (execOp a.eval o).run P w = .ok .skip (w.setCell ⟨b, i, none⟩ v) := by
  have h1 := run_storeCells_cells (P := P) b i [v] 0 w (fun j hj => by
    have : j = 0 := by simpa using hj
    subst this
    simpa using hc) (fun j hj => by
    have : j = 0 := by simpa using hj
    subst this
    simpa using hf) (fun u hu => by rw [List.mem_singleton.1 hu]; exact hv)
  have h2 : (storeVar ty ⟨b, i, none⟩ v).run P w = .ok () (w.setCell ⟨b, i, none⟩ v) := by
    cases hq : P.info? ty with
    | none => simp [hq] at hi
    | some k =>
      have hs : k.size = 1 := by simpa [hq] using hi
      simp only [Nat.add_zero] at h1
      have h3 : (World.setCells w b i [v]) = w.setCell ⟨b, i, none⟩ v := rfl
      rw [h3] at h1
      simp [storeVar, sizeOf, typeInfo, hq, cells_one hv, hs, h1]
  unfold execOp
  simp only [ho, hx, hy, Instr.storeAt, Instr.sureAddr, Sem.run_bind, Sem.run_pure, Result.andThen_ok, h2]
/-- A value of one cell loaded: the operation's run. -/
def nb (o : List UInt8) : List Int := o.map fun b => (b.toNat : Int)
theorem nb_length (o : List UInt8) : (nb o).length = o.length := by simp [nb]
theorem nb_append (o p : List UInt8) : nb (o ++ p) = nb o ++ nb p := by simp [nb]
theorem bytesOf_nb (s : ByteArray) : bytesOf s = nb s.data.toList := rfl
theorem strOfNums_nb (o : List UInt8) : strOfNums (nb o) = ⟨o.toArray⟩ := by
  unfold strOfNums nb
  rw [List.map_map]
  congr 2
  conv => rhs; rw [← List.map_id o]
  refine List.map_congr_left fun b _ => ?_
  simp
/-- A row of bytes of the call's own. -/
def Byt (w : World) (base : Nat) (v : Value) (o : List UInt8) : Prop := w.ownsRow base 5 1 v o.length (nums .u8 (nb o))
namespace Byt
variable {w w1 : World} {base : Nat} {v : Value} {o : List UInt8}
theorem none_ (w : World) (base : Nat) : Byt w base (.slice none 0 0) [] := own_nil _ _ _ _
theorem below (h : Byt w base v o) (hb : Below w.heap.size w w1) : Byt w1 base v o := pw_own_below h hb
theorem lower {b' : Nat} (h : Byt w base v o) (hb : b' ≤ base) : Byt w b' v o := own_weaken h hb
theorem set (h : Byt w base v o) {g t : Nat} {cs : Array Value} (hg : w.heap[g]? = some (.cells cs t (0, 0))) (ht : 5 ≠ t) (i : Nat) (u : Value) : Byt (w.setCell ⟨g, i, none⟩ u) base v o := own_setCell h (own_ne h hg ht) u
theorem ne (h : Byt w base v o) {g t : Nat} {cs : Array Value} (hg : w.heap[g]? = some (.cells cs t (0, 0))) (ht : 5 ≠ t) : some g ≠ v.ownBlock := own_ne h hg ht
theorem keeps {S : Nat → Prop} (h : Byt w base v o) (hk : Keeps S w w1) (hn : ∀ k, S k → k < w.heap.size → some k ≠ v.ownBlock) : Byt w1 base v o := by
  refine own_move h fun k hk' => ?_
  have hlt := own_lt h k hk'
  exact hk.block k hlt fun hs => hn k hs hlt hk'.symm
theorem slice (h : Byt w base v o) : ∃ A c, v = .slice A o.length c := own_slice h
theorem slice_ (h : Byt w base v o) : ∃ A m c, v = .slice A m c := by
  obtain ⟨A, c, h⟩ := h.slice
  exact ⟨A, _, c, h⟩
theorem form (h : Byt w base v o) (hp : 0 < o.length) : ∃ g cap, v = .slice (some ⟨g, 0, none⟩) o.length cap ∧ base ≤ g ∧ g < w.heap.size ∧ ∀ i (hi : i < o.length), w.cell? ⟨g, i, none⟩ = some (.int .u8 (o[i].toNat : Int)) := by
  obtain ⟨g, cap, rfl, hb, hl⟩ := World.ownsRow.form h hp
  refine ⟨g, cap, rfl, hb, hl, fun i hi => ?_⟩
  have := World.ownsRow.cells h rfl i (.int .u8 (o[i].toNat : Int)) (by simp [nums, nb, hi])
  rw [Go.WideShapes.add_plain, Nat.zero_add] at this
  exact this
theorem conv (h : Byt w base v o) : (convert 30 9 v).run Try.prog w = .ok (.string ⟨o.toArray⟩) w := by
  have h' : w.ownsRow base 5 1 v (nb o).length (nums .u8 (nb o)) := by rw [nb_length]; exact h
  have := own_string (P := Try.prog) Try.underlying30 Try.underlying5 Try.underlying9 h'
  rw [strOfNums_nb] at this
  exact this
end Byt
theorem below_setc {B : Nat} {a b : World} {p : Addr} (h : Below B a b) (hp : B ≤ p.block) (u : Value) : Below B a (b.setCell p u) := h.trans ⟨rfl, rfl, rfl, by simp [World.setCell], fun k hk => Below.heap_setCell b p u k (by omega)⟩
theorem blk_grown {w w1 : World} {row : Option Nat} {g : Nat} {o : Obj} (h : w.heap[g]? = some o) (hg : w.grownBy w1 row) (hn : some g ≠ row) : w1.heap[g]? = some o := (hg.block g (blk_lt h) hn).trans h
section
variable {P : Program} {ops : Array Oper} {rest : List Oper} {o : Oper} {a : Act} {Q : Exit → Act → World → Prop} {Kc : Act → World → Prop}
/-- append(v, s...): s a string. -/
theorem app_str {w0 W : World} (base : Nat) (hgd : o.guard = none) (s x : Operand) (v : Value) (xs : List UInt8) (y : ByteArray)
    (ho : o.op = .call { callee := .builtin .append, args := #[s, x], argTypes := #[30, 9] }) (hs : a.eval s = v) (hx : a.eval x = .string y)
    (HO : Byt W base v xs) (HB : Below base w0 W) (hbase : base ≤ W.heap.size) (hl : xs.length + y.size ≤ 140737488355328)
    (h : ∀ v1 w1, Hid (Byt w1 base v1 (xs ++ y.data.toList)) → Hid (Below base w0 w1) → Hid (W.grownBy w1 v.ownBlock) → wpList Try.prog ops Q rest (a.put o.dst v1) w1) :
    wpList Try.prog ops Q (o :: rest) a W := by
  refine print_append_str (w0 := w0) base hgd s x 30 9 5 ho Try.underlying30 Try.underlying9 info_u8 v (nb xs) y hs hx (by rw [nb_length]; exact HO) HB hbase (by rw [nb_length]; exact hl) ?_
  intro v1 w1 h1 h2 h3
  refine h v1 w1 ?_ h2 h3
  show Byt w1 base v1 _
  unfold Byt
  rw [bytesOf_nb, ← nb_append, nb_length] at h1
  exact h1
/-- append(v, b), as one step of a region that draws. -/
theorem app_byte_step {w0 W : World} (base : Nat) (hw : Region.wanted o (yielded ops a.tmps) = true) (s x : Operand) (v : Value) (xs : List UInt8) (p : UInt8)
    (ho : o.op = .call { callee := .builtin .append, args := #[s, x], argTypes := #[30, 30] }) (hs : a.eval s = v) (hx : a.eval x = .slice (some ⟨W.heap.size, 0, none⟩) 1 1)
    (HO : Byt W base v xs) (HB : Below base w0 W) (hbase : base ≤ W.heap.size) (hl : xs.length + 1 ≤ 140737488355328)
    (h : ∀ v1 w1, Hid (Byt w1 base v1 (xs ++ [p])) → Hid (Below base w0 w1) → Hid (W.grownBy w1 v.ownBlock) → Kc (a.put o.dst v1) w1) :
    if Region.wanted o (yielded ops a.tmps) = true then Oper.wp Try.prog o a (W.alloc (.cells #[.int .u8 (p.toNat : Int)] 5)) Kc Q else Kc (a.put o.dst undef) (W.alloc (.cells #[.int .u8 (p.toNat : Int)] 5)) := by
  refine Kd.R_append_step (Kd.int .u8) (w0 := w0) base hw s x 30 5 (.int .u8 0) 1 ho Try.underlying30 info_u8 rfl (by decide) (by omega) v (nb xs) (p.toNat : Int) [.int .u8 (p.toNat : Int)] (fun _ => True) (fun _ => False) hs hx rfl (fun _ hk => hk.elim) (fun _ _ => trivial)
    (Kd.R_of_own (by rw [nb_length]; exact HO) (fun _ _ => trivial)) HB hbase (by rw [nb_length]; omega) ?_
  intro v1 w1 h1 h2 h3 _
  refine h v1 w1 ?_ h2 h3
  have := Kd.own_of_R h1
  rw [show nb xs ++ [(p.toNat : Int)] = nb (xs ++ [p]) by simp [nb], nb_length] at this
  exact this
end
end Go.Proofs.Ytoandabafkdgjaa.My
