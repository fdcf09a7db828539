/- prim.Cursor: what its methods leave, over the bytes that it still has. -/
import Derived.Test.YtoandabafkdgjaaKit
import Derived.Test.YtoandabafkdgjaaPm
namespace Go.Proofs.Ytoandabafkdgjaa.My
open Go.RowKit Go.Proofs.YtoandabafkdgjaaW.PrintWords Go.Proofs.YtoandabafkdgjaaW.PrintLast

/-- A cursor in memory: its bytes, is it bad? -/
def IsCur (w : World) (g : Nat) (s : ByteArray) (bad : Bool) : Prop := w.heap[g]? = some (.cells #[.string s, .bool bad] 109 (0, 0))
theorem IsCur.c0 {w : World} {g : Nat} {s : ByteArray} {bad : Bool} (h : IsCur w g s bad) : w.cell? ⟨g, 0, none⟩ = some (.string s) := (blk_cell h 0).trans rfl
theorem IsCur.c1 {w : World} {g : Nat} {s : ByteArray} {bad : Bool} (h : IsCur w g s bad) : w.cell? ⟨g, 1, none⟩ = some (.bool bad) := (blk_cell h 1).trans rfl
theorem IsCur.f {w : World} {g : Nat} {s : ByteArray} {bad : Bool} (h : IsCur w g s bad) (i : Nat) : w.frozen? ⟨g, i, none⟩ = false := blk_frozen h i
theorem IsCur.set0 {w : World} {g : Nat} {s : ByteArray} {bad : Bool} (h : IsCur w g s bad) (t : ByteArray) : IsCur (w.setCell ⟨g, 0, none⟩ (.string t)) g t bad := blk_set h 0 _
theorem IsCur.set1 {w : World} {g : Nat} {s : ByteArray} {bad : Bool} (h : IsCur w g s bad) (t : Bool) : IsCur (w.setCell ⟨g, 1, none⟩ (.bool t)) g s t := blk_set h 1 _
theorem IsCur.lt {w : World} {g : Nat} {s : ByteArray} {bad : Bool} (h : IsCur w g s bad) : g < w.heap.size := blk_lt h
theorem IsCur.kept {S : Nat → Prop} {w w' : World} {g : Nat} {s : ByteArray} {bad : Bool} (h : IsCur w g s bad) (k : Keeps S w w') (hn : ¬ S g) : IsCur w' g s bad := k.blk h hn

theorem cur_new (s : ByteArray) (w : World) :
    Calls Try.prog 50 #[.string s] w fun e w' => e = .returned (.pointer (some ⟨w.heap.size, 0, none⟩)) ∧ IsCur w' w.heap.size s false ∧ Below w.heap.size w w' := by
  go_enter Try.func50, Try.ntmps50
  go_wp2
  go_ret
  exact ⟨rfl, blk_new _ _, below_alloc (Below.refl _ _) _⟩

theorem cur_made (s : ByteArray) (w : World) :
    Calls Try.prog 50 #[.string s] w fun e w' => ∃ g, e = .returned (.pointer (some ⟨g, 0, none⟩)) ∧ w.heap.size ≤ g ∧ IsCur w' g s false ∧ Below w.heap.size w w' :=
  (cur_new s w).mono fun _ _ h => ⟨_, h.1, Nat.le_refl _, h.2⟩

/-- Bytes(n): what it answers, what is left, is it bad? -/
def curBytes (s : ByteArray) (bad : Bool) (n : Int) : ByteArray × ByteArray × Bool :=
  if bad = true ∨ n < 0 ∨ (s.size : Int) < n then (⟨#[]⟩, s, true) else (s.extract 0 n.toNat, s.extract n.toNat s.size, false)

set_option maxHeartbeats 1000000 in
theorem cur_bytes (s : ByteArray) (bad : Bool) (n : Int) (g : Nat) (w : World) (hc : IsCur w g s bad) :
    Calls Try.prog 60 #[.pointer (some ⟨g, 0, none⟩), .int .i64 n] w fun e w' => e = .returned (.string (curBytes s bad n).1) ∧ IsCur w' g (curBytes s bad n).2.1 (curBytes s bad n).2.2 ∧ Keeps (Only g) w w' := by
  have h0 := hc.c0
  have h1 := hc.c1
  have f0 := hc.f 0
  have f1 := hc.f 1
  have HC := Lib.hid hc; clear hc
  unfold curBytes
  cases bad with
  | true =>
    rw [if_pos (.inl rfl)]
    go_enter Try.func60, Try.ntmps60
    go_wp2
    go_ret
    exact ⟨rfl, HC.out.set1 true, (Keeps.refl _ _).own _ _⟩
  | false =>
    by_cases hn : n < 0
    · rw [if_pos (.inr (.inl hn))]
      have hnb : decide (n < 0) = true := by simp [hn]
      go_enter Try.func60, Try.ntmps60
      go_wp2
      go_ret
      exact ⟨rfl, HC.out.set1 true, (Keeps.refl _ _).own _ _⟩
    · have hnb : decide (n < 0) = false := by simp; omega
      by_cases hs : (s.size : Int) < n
      · rw [if_pos (.inr (.inr hs))]
        have hsb : decide ((s.size : Int) < n) = true := by simp [hs]
        go_enter Try.func60, Try.ntmps60
        go_wp2
        go_ret
        exact ⟨rfl, HC.out.set1 true, (Keeps.refl _ _).own _ _⟩
      · have hsb : decide ((s.size : Int) < n) = false := by simp; omega
        rw [if_neg (by simp; omega)]
        obtain ⟨m, rfl⟩ := Int.eq_ofNat_of_zero_le (show 0 ≤ n by omega)
        have hm : m ≤ s.size := by omega
        go_enter Try.func60, Try.ntmps60
        go_wp2
        go_ret
        exact ⟨rfl, HC.out.set0 _, (Keeps.refl _ _).own _ _⟩

/-- Fixed(size, big). -/
def valBE (l : List UInt8) : Nat := l.foldl (fun n b => n * 256 + b.toNat) 0
def valOf (s : ByteArray) (big : Bool) : Nat := if big then valBE s.data.toList else valBE s.data.toList.reverse
end Go.Proofs.Ytoandabafkdgjaa.My
