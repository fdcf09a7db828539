/- log.Log: in memory; End, Over, done. -/
import Derived.Test.YtoandabafkdgjaaLog5
namespace Go.Proofs.Ytoandabafkdgjaa.My
set_option linter.unusedSimpArgs false
set_option linter.unusedVariables false
open Go.RowKit Go.Proofs.YtoandabafkdgjaaW.PrintWords Go.Proofs.YtoandabafkdgjaaW.PrintLast Go.Proofs.Ytoandabafkdgjaa.Pm

def lgCells (T : Array Value) (h : Nat) (e : Int) (ov : Bool) : Array Value := T ++ #[.pointer (some ⟨h, 0, none⟩), .int .i64 e, .bool ov]
/-- A log in memory: its table, its disk's block, the end, is it over? -/
def IsLg (T : Array Value) (w : World) (g h : Nat) (e : Int) (ov : Bool) : Prop := T.size = 256 ∧ w.heap[g]? = some (.cells (lgCells T h e ov) 79 (0, 0))
section
variable {T : Array Value} {w : World} {g h : Nat} {e : Int} {ov : Bool}
set_option maxRecDepth 100000 in
theorem lg_at (hT : T.size = 256) (i : Nat) : (lgCells T h e ov)[256 + i]? = (#[.pointer (some ⟨h, 0, none⟩), .int .i64 e, .bool ov] : Array Value)[i]? := by
  unfold lgCells
  rw [Array.getElem?_append_right (by omega), hT]
  congr 1
  omega
set_option maxRecDepth 100000 in
theorem lg_low (hT : T.size = 256) (i : Nat) (hi : i < 256) : (lgCells T h e ov)[i]? = T[i]? := by
  unfold lgCells
  rw [Array.getElem?_append_left (by omega)]
theorem IsLg.c0 (k : IsLg T w g h e ov) : w.cell? ⟨g, 256, none⟩ = some (.pointer (some ⟨h, 0, none⟩)) := (blk_cell k.2 256).trans ((lg_at k.1 0).trans rfl)
theorem IsLg.c1 (k : IsLg T w g h e ov) : w.cell? ⟨g, 257, none⟩ = some (.int .i64 e) := (blk_cell k.2 257).trans ((lg_at k.1 1).trans rfl)
theorem IsLg.c2 (k : IsLg T w g h e ov) : w.cell? ⟨g, 258, none⟩ = some (.bool ov) := (blk_cell k.2 258).trans ((lg_at k.1 2).trans rfl)
theorem IsLg.f (k : IsLg T w g h e ov) (i : Nat) : w.frozen? ⟨g, i, none⟩ = false := blk_frozen k.2 i
set_option maxRecDepth 100000 in
theorem IsLg.range (k : IsLg T w g h e ov) : w.rangeAt g 0 T.toList := fun j v hv => by
  have hj : j < 256 := by
    have := (List.getElem?_eq_some_iff.1 hv).1
    rw [Array.length_toList, k.1] at this
    exact this
  rw [Nat.zero_add]
  refine (blk_cell k.2 j).trans ((lg_low k.1 j hj).trans ?_)
  rw [← Array.getElem?_toList]
  exact hv
set_option maxRecDepth 100000 in
theorem lg_set (hT : T.size = 256) (i : Nat) (v : Value) : (lgCells T h e ov).setIfInBounds (256 + i) v = T ++ (#[.pointer (some ⟨h, 0, none⟩), .int .i64 e, .bool ov] : Array Value).setIfInBounds i v := by
  unfold lgCells
  rw [Array.setIfInBounds_append_right (by omega), hT]
  congr 2
  omega
theorem IsLg.set1 (k : IsLg T w g h e ov) (n : Int) : IsLg T (w.setCell ⟨g, 257, none⟩ (.int .i64 n)) g h n ov := ⟨k.1, by rw [blk_set k.2 257 (.int .i64 n), lg_set k.1 1]; rfl⟩
theorem IsLg.set2 (k : IsLg T w g h e ov) (b : Bool) : IsLg T (w.setCell ⟨g, 258, none⟩ (.bool b)) g h e b := ⟨k.1, by rw [blk_set k.2 258 (.bool b), lg_set k.1 2]; rfl⟩
theorem IsLg.below {w' : World} (k : IsLg T w g h e ov) (hb : Below w.heap.size w w') : IsLg T w' g h e ov := ⟨k.1, blk_below k.2 hb⟩
theorem lg_end (k : IsLg T w g h e ov) : Calls Try.prog 25 #[.pointer (some ⟨g, 0, none⟩)] w fun x w' => x = .returned (.int .i64 e) ∧ w = w' := by
  have c1 := k.c1
  clear k
  go_enter Try.func25, Try.ntmps25
  go_wp2
  go_ret
  exact ⟨rfl, rfl⟩
theorem lg_over (k : IsLg T w g h e ov) : Calls Try.prog 30 #[.pointer (some ⟨g, 0, none⟩)] w fun x w' => x = .returned (.bool ov) ∧ w = w' := by
  have c2 := k.c2
  clear k
  go_enter Try.func30, Try.ntmps30
  go_wp2
  go_ret
  exact ⟨rfl, rfl⟩
end
end Go.Proofs.Ytoandabafkdgjaa.My
