/- frame.Splitter. -/
import Derived.Test.YthooihkkghfhkaaFrame
import Derived.Test.YthooihkkghfhkaaByt
import Derived.Test.YthooihkkghfhkaaRes
namespace Go.Proofs.Ythooihkkghfhkaa.My
set_option linter.unusedSimpArgs false
set_option linter.unusedVariables false
open Go.RowKit Go.Proofs.YthooihkkghfhkaaW.PrintWords Go.Proofs.YthooihkkghfhkaaW.PrintLast Go.Proofs.Ythooihkkghfhkaa.Pm

theorem wpList_build {P : Program} {ops : Array Oper} {rest : List Oper} {o : Oper} {a : Act} {w : World} {Q : Exit → Act → World → Prop} (hgd : o.guard = none) (t : TypeId) (parts : Array (Nat × Operand)) (ho : o.op = .build t parts) (cells : Array Value)
    (hf : P.built t (parts.map fun (i, x) => (i, a.eval x)).toList = some cells) (h : wpList P ops Q rest (a.put o.dst (.agg cells)) w) : wpList P ops Q (o :: rest) a w :=
  wpList_plain hgd fun _ hK => wp_build t parts ho (by rw [hf]; rfl) (hK _ _ (by rw [hf]; exact h))
def spCells (T : Array Value) (s : ByteArray) (q : Value) (br : Bool) : Array Value := T ++ #[.string s, q, .bool br]
theorem sp_built : Try.prog.built 58 [(0, .agg tab)] = some (spCells tab ⟨#[]⟩ (.slice none 0 0) false) := by kernel_rfl
/-- A splitter in memory. -/
def IsSp (T : Array Value) (w : World) (h : Nat) (s : ByteArray) (q : Value) (br : Bool) : Prop := T.size = 256 ∧ w.heap[h]? = some (.cells (spCells T s q br) 58 (0, 0))
variable {T : Array Value} {w : World} {h : Nat} {s : ByteArray} {q : Value} {br : Bool}
set_option maxRecDepth 100000 in
theorem sp_at (hT : T.size = 256) (i : Nat) : (spCells T s q br)[256 + i]? = (#[.string s, q, .bool br] : Array Value)[i]? := by
  unfold spCells
  rw [Array.getElem?_append_right (by omega), hT]
  congr 1
  omega
set_option maxRecDepth 100000 in
theorem sp_low (hT : T.size = 256) (i : Nat) (hi : i < 256) : (spCells T s q br)[i]? = T[i]? := by
  unfold spCells
  rw [Array.getElem?_append_left (by omega)]
theorem IsSp.c0 (k : IsSp T w h s q br) : w.cell? ⟨h, 256, none⟩ = some (.string s) := (blk_cell k.2 256).trans ((sp_at k.1 0).trans rfl)
theorem IsSp.c1 (k : IsSp T w h s q br) : w.cell? ⟨h, 257, none⟩ = some q := (blk_cell k.2 257).trans ((sp_at k.1 1).trans rfl)
theorem IsSp.c2 (k : IsSp T w h s q br) : w.cell? ⟨h, 258, none⟩ = some (.bool br) := (blk_cell k.2 258).trans ((sp_at k.1 2).trans rfl)
theorem IsSp.f (k : IsSp T w h s q br) (i : Nat) : w.frozen? ⟨h, i, none⟩ = false := blk_frozen k.2 i
set_option maxRecDepth 100000 in
theorem IsSp.range (k : IsSp T w h s q br) : w.rangeAt h 0 T.toList := fun j v hv => by
  have hj : j < 256 := by
    have := (List.getElem?_eq_some_iff.1 hv).1
    rw [Array.length_toList, k.1] at this
    exact this
  rw [Nat.zero_add]
  refine (blk_cell k.2 j).trans ((sp_low k.1 j hj).trans ?_)
  rw [← Array.getElem?_toList]
  exact hv
set_option maxRecDepth 100000 in
theorem sp_set (hT : T.size = 256) (i : Nat) (v : Value) : (spCells T s q br).setIfInBounds (256 + i) v = T ++ (#[.string s, q, .bool br] : Array Value).setIfInBounds i v := by
  unfold spCells
  rw [Array.setIfInBounds_append_right (by omega), hT]
  congr 2
  omega
theorem IsSp.set0 (k : IsSp T w h s q br) (s' : ByteArray) : IsSp T (w.setCell ⟨h, 256, none⟩ (.string s')) h s' q br := ⟨k.1, by rw [blk_set k.2 256 (.string s'), sp_set k.1 0]; rfl⟩
theorem IsSp.set1 (k : IsSp T w h s q br) (q' : Value) : IsSp T (w.setCell ⟨h, 257, none⟩ q') h s q' br := ⟨k.1, by rw [blk_set k.2 257 q', sp_set k.1 1]; rfl⟩
theorem IsSp.set2 (k : IsSp T w h s q br) (b : Bool) : IsSp T (w.setCell ⟨h, 258, none⟩ (.bool b)) h s q b := ⟨k.1, by rw [blk_set k.2 258 (.bool b), sp_set k.1 2]; rfl⟩
theorem IsSp.below {w' : World} (k : IsSp T w h s q br) (hb : Below w.heap.size w w') : IsSp T w' h s q br := ⟨k.1, blk_below k.2 hb⟩

set_option maxRecDepth 100000 in
set_option maxHeartbeats 2000000 in
theorem sp_new (w : World) :
    Calls Try.prog 13 #[.agg tab] w fun e w' => ∃ h, e = .returned (.pointer (some ⟨h, 0, none⟩)) ∧ w.heap.size ≤ h ∧ IsSp tab w' h ⟨#[]⟩ (.slice none 0 0) false ∧ Below w.heap.size w w' := by
  have hi1 : (Try.prog.info? 28).map (·.size) = some tab.size := by unfold tab; rw [tabTo_size]; kernel_rfl
  have HI := Lib.hid hi1; clear hi1
  have HS := Lib.hid (show tab.size = 256 by unfold tab; exact tabTo_size 256)
  have HBU := Lib.hid sp_built
  generalize tab = T at *
  have hcells : (spCells T ⟨#[]⟩ (.slice none 0 0) false).size = 259 := by unfold spCells; rw [Array.size_append, HS.out]; rfl
  generalize hSC : spCells T ⟨#[]⟩ (.slice none 0 0) false = SC at *
  have HSC := Lib.hid hSC; clear hSC
  go_enter Try.func13, Try.ntmps13
  go_wp2_with (refine wpList_load_row rfl 28 (.tmp 1) rfl w.heap.size rfl 28 T (0, 0) _ (blk_new _ _) Try.underlying28 rfl HI.out ?_; refine wpList_build rfl 58 #[(0, .tmp 3)] rfl SC (by simp only [List.map_toArray, List.map_cons, List.map_nil]; exact HBU.out) ?_)
  go_ret
  refine ⟨_, rfl, by simp, ⟨HS.out, ?_⟩, below_alloc (below_alloc (Below.refl _ _) _) _⟩
  rw [HSC.out]
  exact row_new _ _ (by simp)
end Go.Proofs.Ythooihkkghfhkaa.My
