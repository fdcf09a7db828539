/- disk.Disk: in memory; New, Sectors, Waits, may, here. -/
import Derived.Test.YtoandabafkdgjaaKit
import Derived.Test.YtoandabafkdgjaaRes
import Derived.Test.YtoandabafkdgjaaPm
import Derived.Test.YtoandabafkdgjaaByt
import Derived.Test.YtoandabafkdgjaaShelf
namespace Go.Proofs.Ytoandabafkdgjaa.My
set_option linter.unusedSimpArgs false
set_option linter.unusedVariables false
open Go.RowKit Go.Proofs.YtoandabafkdgjaaW.PrintWords Go.Proofs.YtoandabafkdgjaaW.PrintLast Go.Proofs.Ytoandabafkdgjaa.Pm

/-- A disk: sectors as they are sure (none: noughts), writes that wait, the fuse, is the power gone. -/
structure DkS where
  sure : List ByteArray
  waits : List (Nat × ByteArray)
  fuse : Int
  gone : Bool
def nought : ByteArray := ⟨(List.replicate 64 (0 : UInt8)).toArray⟩
theorem nought_size : nought.size = 64 := by decide
def hereS (sure : List ByteArray) (i : Nat) : ByteArray := if (sure.getD i ⟨#[]⟩).size = 0 then nought else sure.getD i ⟨#[]⟩
/-- What is said of a disk at all times. -/
structure DkS.Ok (d : DkS) : Prop where
  len : d.sure.length ≤ 4096
  size : ∀ s ∈ d.sure, s.size = 0 ∨ s.size = 64
  wait : ∀ p ∈ d.waits, p.1 < d.sure.length ∧ p.2.size = 64
  fuse : -1 ≤ d.fuse ∧ d.fuse ≤ 9223372036854775807
def mayS (d : DkS) (i : Int) : Nat := if d.gone = true then 6 else if i < 0 ∨ (d.sure.length : Int) ≤ i then 1 else 0

theorem r_slice3 {α : Type} {d : Kd α} {e : Nat} {w : World} {base : Nat} {ok : Nat → Prop} {v : Value} {xs : List α} (h : d.R e w base ok v xs) : ∃ A m c, v = .slice A m c := by
  obtain ⟨A, c, e⟩ := Kd.R_slice h
  exact ⟨A, _, c, e⟩
def kW : Kd (Nat × ByteArray) := Kd.iso (Kd.pair (Kd.int .i64) Kd.string) (fun p => ((p.1 : Int), p.2))
theorem kW_mkM (w : World) (base : Nat) (ok : Nat → Prop) (p : Nat × ByteArray) : kW.M w base ok p [.int .i64 (p.1 : Int), .string p.2] := ⟨[.int .i64 (p.1 : Int)], [.string p.2], rfl, rfl, rfl⟩
theorem kW_open {w : World} {p : Nat × ByteArray} {cs : List Value} (h : kW.K w p cs) : cs = [.int .i64 (p.1 : Int), .string p.2] := by
  obtain ⟨c0, c1, rfl, h0, h1⟩ := h
  rw [show c0 = _ from h0, show c1 = _ from h1]
  rfl
abbrev Srs (w : World) (base : Nat) (v : Value) (l : List ByteArray) : Prop := Kd.string.R 9 w base (fun _ => True) v l
abbrev Wts (w : World) (base : Nat) (v : Value) (l : List (Nat × ByteArray)) : Prop := kW.R 73 w base (fun _ => True) v l
def IsDk (w : World) (h : Nat) (V W : Value) (fuse : Int) (gone : Bool) : Prop := w.heap[h]? = some (.cells #[V, W, .int .i64 fuse, .bool gone] 70 (0, 0))
section
variable {w : World} {h : Nat} {V W : Value} {fuse : Int} {gone : Bool}
theorem IsDk.c0 (k : IsDk w h V W fuse gone) : w.cell? ⟨h, 0, none⟩ = some V := (blk_cell k 0).trans rfl
theorem IsDk.c1 (k : IsDk w h V W fuse gone) : w.cell? ⟨h, 1, none⟩ = some W := (blk_cell k 1).trans rfl
theorem IsDk.c2 (k : IsDk w h V W fuse gone) : w.cell? ⟨h, 2, none⟩ = some (.int .i64 fuse) := (blk_cell k 2).trans rfl
theorem IsDk.c3 (k : IsDk w h V W fuse gone) : w.cell? ⟨h, 3, none⟩ = some (.bool gone) := (blk_cell k 3).trans rfl
theorem IsDk.f (k : IsDk w h V W fuse gone) (i : Nat) : w.frozen? ⟨h, i, none⟩ = false := blk_frozen k i
end
/-- A disk in memory. -/
structure Dk (w : World) (base h : Nat) (V W : Value) (d : DkS) : Prop where
  dk : IsDk w h V W d.fuse d.gone
  sr : Srs w base V d.sure
  wt : Wts w base W d.waits
  hb : base ≤ h
section
variable {w w1 : World} {base h : Nat} {V W : Value} {d : DkS}
theorem string_E : Kd.string.E = [] := rfl
theorem kW_E : kW.E = [] := rfl
theorem Dk.below (k : Dk w base h V W d) (hb : Below w.heap.size w w1) : Dk w1 base h V W d := ⟨blk_below k.dk hb, Kd.R_below k.sr hb, Kd.R_below k.wt hb, k.hb⟩
theorem Dk.drew (k : Dk w base h V W d) : Dk w.drew base h V W d := k.below (below_drew (Below.refl _ _))
theorem Dk.drewN (k : Dk w base h V W d) (n : Nat) : Dk (w.drewN n) base h V W d := k.below (pw_below_drewN (Below.refl _ _) n)
theorem Dk.alloc (k : Dk w base h V W d) (o : Obj) : Dk (w.alloc o) base h V W d := k.below (below_alloc (Below.refl _ _) o)
theorem Dk.lower {b' : Nat} (k : Dk w base h V W d) (hb : b' ≤ base) : Dk w b' h V W d := ⟨k.dk, Kd.R_lower k.sr hb, Kd.R_lower k.wt hb, Nat.le_trans hb k.hb⟩
theorem Dk.rows_set (k : Dk w base h V W d) (i : Nat) (u : Value) : Srs (w.setCell ⟨h, i, none⟩ u) base V d.sure ∧ Wts (w.setCell ⟨h, i, none⟩ u) base W d.waits :=
  ⟨Kd.R_set k.sr k.dk (fun q hq => by rw [string_E] at hq; rw [List.mem_singleton.1 hq]; decide) i u, Kd.R_set k.wt k.dk (fun q hq => by rw [kW_E] at hq; rw [List.mem_singleton.1 hq]; decide) i u⟩
theorem Dk.set2 (k : Dk w base h V W d) (n : Int) : Dk (w.setCell ⟨h, 2, none⟩ (.int .i64 n)) base h V W ⟨d.sure, d.waits, n, d.gone⟩ := ⟨blk_set k.dk 2 _, (k.rows_set 2 _).1, (k.rows_set 2 _).2, k.hb⟩
theorem Dk.set3 (k : Dk w base h V W d) (g : Bool) : Dk (w.setCell ⟨h, 3, none⟩ (.bool g)) base h V W ⟨d.sure, d.waits, d.fuse, g⟩ := ⟨blk_set k.dk 3 _, (k.rows_set 3 _).1, (k.rows_set 3 _).2, k.hb⟩
theorem Dk.none1 (k : Dk w base h V W d) : Dk (w.setCell ⟨h, 1, none⟩ (.slice none 0 0)) base h V (.slice none 0 0) ⟨d.sure, [], d.fuse, d.gone⟩ := ⟨blk_set k.dk 1 _, (k.rows_set 1 _).1, Kd.R_nil _ _ _ _ _, k.hb⟩
/-- A sector is made sure. -/
theorem Dk.put {g c : Nat} (k : Dk w base h (.slice (some ⟨g, 0, none⟩) d.sure.length c) W d) (i : Nat) (hi : i < d.sure.length) (s : ByteArray) : Dk (w.setCell ⟨g, i, none⟩ (.string s)) base h (.slice (some ⟨g, 0, none⟩) d.sure.length c) W ⟨d.sure.set i s, d.waits, d.fuse, d.gone⟩ := by
  obtain ⟨g', c', e, hgb, hgl, cells, hcs⟩ := Kd.R_form k.sr (Nat.lt_of_le_of_lt (Nat.zero_le _) hi)
  cases e
  have hne : h ≠ g := blk_ne k.dk hcs (by decide)
  have hp := (Kd.R_putg k.sr (i : Int) s).1
  rw [Int.toNat_natCast] at hp
  exact ⟨blk_far k.dk (p := ⟨g, i, none⟩) hne _, hp, Kd.R_set k.wt hcs (fun q hq => by rw [kW_E] at hq; rw [List.mem_singleton.1 hq]; decide) i _, k.hb⟩
end
theorem info_str' : (Try.prog.info? 9).map (fun i => (i.zero, i.size, i.bytes)) = some (some (.string ⟨#[]⟩), 1, 16) := by kernel_rfl
theorem repeat_nought (w : World) : Calls Try.prog 44 #[.string ⟨#[0]⟩, .int .i64 64] w fun e w' => e = .returned (.string nought) ∧ Below w.heap.size w w' := by
  have h := Try.strings_Repeat ⟨#[0]⟩ 64 w (by decide) (by decide)
  have e : (Lib.repeatL (⟨#[0]⟩ : ByteArray).data.toList 64) = List.replicate 64 (0 : UInt8) := by decide
  rw [e] at h
  exact h
theorem dk_waits {w : World} {base h : Nat} {V W : Value} {d : DkS} (k : Dk w base h V W d) : Calls Try.prog 19 #[.pointer (some ⟨h, 0, none⟩)] w fun e w' => e = .returned (.int .i64 d.waits.length) ∧ w = w' := by
  have c1 := k.dk.c1
  obtain ⟨A, c, rfl⟩ := Kd.R_slice k.wt
  clear k
  go_enter Try.func19, Try.ntmps19
  go_wp2
  go_ret
  exact ⟨rfl, rfl⟩
theorem dk_sectors {w : World} {base h : Nat} {V W : Value} {d : DkS} (k : Dk w base h V W d) : Calls Try.prog 20 #[.pointer (some ⟨h, 0, none⟩)] w fun e w' => e = .returned (.int .i64 d.sure.length) ∧ w = w' := by
  have c0 := k.dk.c0
  obtain ⟨A, c, rfl⟩ := Kd.R_slice k.sr
  clear k
  go_enter Try.func20, Try.ntmps20
  go_wp2
  go_ret
  exact ⟨rfl, rfl⟩
theorem dk_may {w : World} {base h : Nat} {V W : Value} {d : DkS} (k : Dk w base h V W d) (i : Int) : Calls Try.prog 33 #[.pointer (some ⟨h, 0, none⟩), .int .i64 i] w fun e w' => e = .returned (.int .i64 (mayS d i)) ∧ w = w' := by
  have c0 := k.dk.c0
  have c3 := k.dk.c3
  obtain ⟨A, c, rfl⟩ := Kd.R_slice k.sr
  clear k
  obtain ⟨sure, waits, fuse, gone⟩ := d
  simp only at *
  unfold mayS
  simp only
  cases gone with
  | true =>
    rw [if_pos rfl]
    go_enter Try.func33, Try.ntmps33
    go_wp2
    go_ret
    exact ⟨rfl, rfl⟩
  | false =>
    rw [if_neg (by decide)]
    by_cases h0 : i < 0
    · rw [if_pos (.inl h0)]
      have x0 : decide (i < 0) = true := decide_eq_true h0
      go_enter Try.func33, Try.ntmps33
      go_wp2
      go_ret
      exact ⟨rfl, rfl⟩
    · have x0 : decide (i < 0) = false := decide_eq_false h0
      by_cases h1 : (sure.length : Int) ≤ i
      · rw [if_pos (.inr h1)]
        have x1 : decide ((sure.length : Int) ≤ i) = true := decide_eq_true h1
        go_enter Try.func33, Try.ntmps33
        go_wp2
        go_ret
        exact ⟨rfl, rfl⟩
      · rw [if_neg (by omega)]
        have x1 : decide ((sure.length : Int) ≤ i) = false := decide_eq_false h1
        go_enter Try.func33, Try.ntmps33
        go_wp2
        go_ret
        exact ⟨rfl, rfl⟩
end Go.Proofs.Ytoandabafkdgjaa.My
