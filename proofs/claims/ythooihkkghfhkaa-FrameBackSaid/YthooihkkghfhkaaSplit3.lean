/- frame.Splitter: Feed, Next, Broken, Waiting. -/
import Derived.Test.YthooihkkghfhkaaSplit2
namespace Go.Proofs.Ythooihkkghfhkaa.My
set_option linter.unusedSimpArgs false
set_option linter.unusedVariables false
open Go.RowKit Go.Proofs.YthooihkkghfhkaaW.PrintWords Go.Proofs.YthooihkkghfhkaaW.PrintLast Go.Proofs.Ythooihkkghfhkaa.Pm

def msp (w : World) (h : Nat) : Nat := match w.cell? ⟨h, 256, none⟩ with | some (.string s) => s.size | _ => 0
theorem IsSp.msp {T : Array Value} {w : World} {h : Nat} {s : ByteArray} {q : Value} {br : Bool} (k : IsSp T w h s q br) : msp w h = s.size := by
  unfold My.msp
  rw [k.c0]
theorem empty_app (f : ByteArray) : (⟨#[]⟩ : ByteArray) ++ f = f := by apply bl_ext; rw [bl_append, bl_empty, List.nil_append]
set_option maxRecDepth 100000 in
set_option maxHeartbeats 8000000 in
theorem feed_any (b : ByteArray) (l l1 : List ByteArray) (hb0 : (∃ p, b = frameS p ∧ 1 ≤ p.size ∧ p.size ≤ 4000 ∧ l1 = l ++ [p]) ∨ (b = ⟨#[]⟩ ∧ l1 = l)) {w : World} {h base : Nat} {q : Value} (k : IsSp tab w h ⟨#[]⟩ q false) (hq : Qs w base q l) (hbh : base ≤ h) (hl : l.length ≤ 100) (hbw : base ≤ w.heap.size) :
    Calls Try.prog 14 #[.pointer (some ⟨h, 0, none⟩), .string b] w fun e w' => e = .returned (.tuple #[]) ∧ ∃ q', IsSp tab w' h ⟨#[]⟩ q' false ∧ Qs w' base q' l1 ∧ Below base w w' := by
  have hbs : b.size ≤ 4008 := by
    rcases hb0 with ⟨p, rfl, h1, h2, -⟩ | ⟨rfl, -⟩
    · rw [frameS_size]; omega
    · decide
  have HK := Lib.hid k; clear k
  have HQ := Lib.hid hq; clear hq
  have HB := Lib.hid (Below.refl base w)
  have k0 := HK.out.c0
  have k2 := HK.out.c2
  have f0 := HK.out.f 256
  have hea := empty_app b
  have hsz : (⟨#[]⟩ : ByteArray).size + b.size ≤ 140737488355328 := by show 0 + b.size ≤ _; omega
  have HBB := Lib.hid hb0; clear hb0
  go_enter Try.func14, Try.ntmps14
  go_wp2
  have HQ := Lib.hid (HQ.out.setsp HK.out 256 (.string b))
  have HK := Lib.hid (HK.out.set0 b)
  have HB := Lib.hid (below_setc (p := ⟨h, 256, none⟩) HB.out hbh (.string b))
  clear k0 k2 f0
  go_loopw [] (fun wr => ∃ f q, IsSp tab wr h f q false ∧ ((f = ⟨#[]⟩ ∧ Qs wr base q l1) ∨ (∃ p, f = frameS p ∧ 1 ≤ p.size ∧ p.size ≤ 4000 ∧ l1 = l ++ [p] ∧ Qs wr base q l)) ∧ Below base w wr) (fun wr => msp wr h)
  case atStart =>
    refine ⟨b, _, HK.out, ?_, HB.out⟩
    rcases HBB.out with ⟨p, rfl, h1, h2, rfl⟩ | ⟨rfl, rfl⟩
    · exact .inr ⟨p, rfl, h1, h2, rfl, HQ.out⟩
    · exact .inl ⟨rfl, HQ.out⟩
  case round =>
    clear HK HQ HB
    obtain ⟨f, q, hk, hs, hb⟩ := hrel
    have HK := Lib.hid hk; clear hk
    have HB := Lib.hid hb; clear hb
    have hbs2 := Nat.le_trans hbw HB.out.size
    rcases hs with ⟨rfl, hq⟩ | ⟨p, rfl, h1, h2, rfl, hq⟩
    · have HQ := Lib.hid hq; clear hq
      go_wp2_with fail
      refine (take_short HK.out (by decide)).mono ?_
      rintro e w1 ⟨rfl, hb⟩
      have HQ := Lib.hid (HQ.out.below hb)
      have HK := Lib.hid (HK.out.below hb)
      have HB := Lib.hid (HB.out.trans (hb.mono hbs2)); clear hb
      have k2 := HK.out.c2
      go_wp2
      go_end0
      exact ⟨rfl, _, HK.out, HQ.out, HB.out⟩
    · have HQ := Lib.hid hq; clear hq
      have hm := HK.out.msp
      rw [frameS_size] at hm
      have HM := Lib.hid hm; clear hm
      go_wp2_with fail
      refine (take_frame p h1 h2 HK.out HQ.out hbh hl hbs2).mono ?_
      rintro e w1 ⟨q', rfl, hk, hq, hb⟩
      have HQ := Lib.hid hq; clear hq
      have HB := Lib.hid (HB.out.trans hb); clear hb
      have HK := Lib.hid hk; clear hk
      have hm2 : msp w1 h = 0 := HK.out.msp
      have HM2 := Lib.hid hm2; clear hm2
      go_wp2
      go_roundw
      case rel => exact ⟨⟨#[]⟩, q', HK.out, .inl ⟨rfl, HQ.out⟩, HB.out⟩
      case measure => rw [HM.out, HM2.out]; omega
theorem sp_broken {T : Array Value} {w : World} {h : Nat} {s : ByteArray} {q : Value} {br : Bool} (k : IsSp T w h s q br) :
    Calls Try.prog 16 #[.pointer (some ⟨h, 0, none⟩)] w fun e w' => e = .returned (.bool br) ∧ w = w' := by
  have k2 := k.c2
  clear k
  go_enter Try.func16, Try.ntmps16
  go_wp2
  go_ret
  exact ⟨rfl, rfl⟩
theorem sp_waiting {T : Array Value} {w : World} {h : Nat} {s : ByteArray} {q : Value} {br : Bool} (k : IsSp T w h s q br) :
    Calls Try.prog 17 #[.pointer (some ⟨h, 0, none⟩)] w fun e w' => e = .returned (.int .i64 s.size) ∧ w = w' := by
  have k0 := k.c0
  clear k
  go_enter Try.func17, Try.ntmps17
  go_wp2
  go_ret
  exact ⟨rfl, rfl⟩
/-- What is left of a queue, in a slice that moves on. -/
def Rest (w : World) (base : Nat) (v : Value) (l : List ByteArray) (j : Nat) : Prop := ∃ A m c, v = .slice A m c ∧ m + j = l.length ∧ m ≤ c ∧ (0 < m → ∃ b, A = some ⟨b, j, none⟩ ∧ base ≤ b ∧ b < w.heap.size ∧ (∃ cs, w.heap[b]? = some (.cells cs 9 (0, 0))) ∧ ∀ i (h : i < l.length), w.cell? ⟨b, i, none⟩ = some (.string l[i]))
theorem Qs.rest {w : World} {base : Nat} {v : Value} {l : List ByteArray} (hq : Qs w base v l) : Rest w base v l 0 := by
  obtain ⟨A, c, rfl⟩ := Kd.R_slice hq
  have hr := Kd.R_reads' hq
  refine ⟨A, _, c, rfl, rfl, hr.2.1, fun h0 => ?_⟩
  obtain ⟨g, cap, e, hb, hlt, cells⟩ := Kd.R_form hq h0
  cases e
  refine ⟨g, rfl, hb, hlt, cells, fun i hi => ?_⟩
  have := (Kd.R_celln ⟨#[]⟩ hq (i : Int) (by omega) (by omega)).1
  rw [Int.toNat_natCast] at this
  rw [this]
  congr 1
  simp [rdOf, hi]
theorem Rest.setsp {T : Array Value} {w : World} {base h : Nat} {v q : Value} {l : List ByteArray} {s : ByteArray} {b : Bool} {j : Nat} (hq : Rest w base v l j) (k : IsSp T w h s q b) (i : Nat) (u : Value) : Rest (w.setCell ⟨h, i, none⟩ u) base v l j := by
  obtain ⟨A, m, c, rfl, h1, h2, h3⟩ := hq
  refine ⟨A, m, c, rfl, h1, h2, fun h0 => ?_⟩
  obtain ⟨b, rfl, hb, hlt, ⟨cs, hcs⟩, hc⟩ := h3 h0
  have hne : b ≠ h := fun e => by
    subst e
    rw [k.2] at hcs
    simp only [Option.some.injEq, Obj.cells.injEq] at hcs
    exact absurd hcs.2.1 (by decide)
  have hh := Below.heap_setCell w ⟨h, i, none⟩ u b hne
  exact ⟨b, rfl, hb, by simpa [World.setCell] using hlt, ⟨cs, hh.trans hcs⟩, fun i hi => by
    rw [← hc i hi]
    unfold World.cell?
    simp only [hh]⟩
theorem Rest.next {w : World} {base b j m c : Nat} {l : List ByteArray} (hm : m + j = l.length) (hc : m ≤ c) (h0 : 0 < m) (hb : base ≤ b) (hlt : b < w.heap.size) (hcs : ∃ cs, w.heap[b]? = some (.cells cs 9 (0, 0))) (hcell : ∀ i (h : i < l.length), w.cell? ⟨b, i, none⟩ = some (.string l[i])) :
    Rest w base (.slice (some ⟨b, j + 1, none⟩) (m - 1) (c - 1)) l (j + 1) := ⟨_, _, _, rfl, by omega, by omega, fun _ => ⟨b, rfl, hb, hlt, hcs, hcell⟩⟩
set_option maxRecDepth 100000 in
set_option maxHeartbeats 4000000 in
theorem next_some {T : Array Value} {w : World} {h base j : Nat} {s : ByteArray} {q : Value} {br : Bool} {l : List ByteArray} (k : IsSp T w h s q br) (hq : Rest w base q l j) (hj : j < l.length) (hbh : base ≤ h) (hl : l.length ≤ 100) :
    Calls Try.prog 15 #[.pointer (some ⟨h, 0, none⟩)] w fun e w' => e = .returned (.tuple #[.string l[j], .bool true]) ∧ ∃ q', IsSp T w' h s q' br ∧ Rest w' base q' l (j + 1) ∧ Below base w w' := by
  obtain ⟨A, m, c, rfl, hm, hmc, hr⟩ := hq
  have h0 : 0 < m := by omega
  obtain ⟨b, rfl, hb, hlt, hcs, hc⟩ := hr h0
  have HN := Lib.hid (Rest.next (w := w) hm hmc h0 hb hlt hcs hc)
  have HN1 : Hid (c = 1 → Rest w base (.slice (some ⟨b, j, none⟩) (m - 1) 0) l (j + 1)) := Lib.hid (fun e => ⟨_, _, _, rfl, by omega, by omega, fun h => absurd h (by omega)⟩)
  have hcj := hc j hj
  generalize l[j] = x at *
  have x1 : ((m : Int) == 0) = false := beq_eq_false_iff_ne.2 (by omega)
  have h1m : 1 ≤ m := h0
  have HK := Lib.hid k; clear k
  have HB := Lib.hid (Below.refl base w)
  have k1 := HK.out.c1
  have f1 := HK.out.f 257
  clear hc hcs hr hm
  by_cases hc1 : c = 1
  · have HN := Lib.hid (HN1.out hc1)
    go_enter Try.func15, Try.ntmps15
    go_wp2
    go_ret2
    exact ⟨rfl, _, HK.out.set1 _, HN.out.setsp HK.out 257 _, below_setc HB.out hbh _⟩
  · go_enter Try.func15, Try.ntmps15
    go_wp2
    go_ret2
    exact ⟨rfl, _, HK.out.set1 _, HN.out.setsp HK.out 257 _, below_setc HB.out hbh _⟩
set_option maxRecDepth 100000 in
theorem next_none {T : Array Value} {w : World} {h base j : Nat} {s : ByteArray} {q : Value} {br : Bool} {l : List ByteArray} (k : IsSp T w h s q br) (hq : Rest w base q l j) (hj : ¬ j < l.length) :
    Calls Try.prog 15 #[.pointer (some ⟨h, 0, none⟩)] w fun e w' => e = .returned (.tuple #[.string ⟨#[]⟩, .bool false]) ∧ w = w' := by
  obtain ⟨A, m, c, rfl, hm, hmc, hr⟩ := hq
  obtain rfl : m = 0 := by omega
  have k1 := k.c1
  clear k hr hm hj
  go_enter Try.func15, Try.ntmps15
  go_wp2
  go_ret2
  exact ⟨rfl, rfl⟩
theorem Rest.below {w w1 : World} {base : Nat} {v : Value} {l : List ByteArray} {j : Nat} (hq : Rest w base v l j) (hb : Below w.heap.size w w1) : Rest w1 base v l j := by
  obtain ⟨A, m, c, rfl, h1, h2, h3⟩ := hq
  refine ⟨A, m, c, rfl, h1, h2, fun h0 => ?_⟩
  obtain ⟨b, rfl, hb0, hlt, ⟨cs, hcs⟩, hc⟩ := h3 h0
  exact ⟨b, rfl, hb0, Nat.lt_of_lt_of_le hlt hb.size, ⟨cs, (hb.block b hlt).trans hcs⟩, fun i hi => (hb.cell (p := ⟨b, i, none⟩) hlt).trans (hc i hi)⟩
end Go.Proofs.Ythooihkkghfhkaa.My
