/- Histories: transactions that come in; what the chapter's functions tell of them. -/
import Derived.Test.YtdldnhigejcegaaRow
namespace Go.Proofs.Ytdldnhigejcegaa.My
set_option linter.unusedSimpArgs false
set_option linter.unusedVariables false
open Go.RowKit Go.Proofs.YtdldnhigejcegaaW.PrintWords Go.Proofs.YtdldnhigejcegaaW.PrintLast Go.Proofs.Ytdldnhigejcegaa.Pm

/-- A version: its time, is it gone, its value. -/
abbrev VerT := Nat × Bool × ByteArray
/-- A write: its key, is it gone, its value. -/
abbrev WrT := ByteArray × Bool × ByteArray
/-- What was read: the key, was it found, the version. -/
abbrev RdT := ByteArray × Bool × VerT
def verC (p : VerT) : List Value := [.int .u64 (p.1 : Int), .bool p.2.1, .string p.2.2]
def wrC (p : WrT) : List Value := [.string p.1, .bool p.2.1, .string p.2.2]
def rdC (p : RdT) : List Value := [.string p.1, .bool p.2.1, .int .u64 (p.2.2.1 : Int), .bool p.2.2.2.1, .string p.2.2.2.2]
/-- A transaction, with the places of what it reads and writes. -/
structure TxP where
  start : Nat
  commit : Nat
  rs : List RdT
  rA : Option Addr
  rn : Nat
  rc : Nat
  ws : List WrT
  wA : Option Addr
  wn : Nat
  wc : Nat
def TxP.arr (p : TxP) : Array Value := #[.int .u64 (p.start : Int), .int .u64 (p.commit : Int), .slice p.rA p.rn p.rc, .slice p.wA p.wn p.wc]
def txC (p : TxP) : List Value := p.arr.toList
def TxOk (w : World) (p : TxP) : Prop := RowF w 5 rdC p.rA p.rn p.rs ∧ RowF w 3 wrC p.wA p.wn p.ws ∧ p.rn ≤ 140737488351232 ∧ p.wn ≤ 140737488351232 ∧ p.rn ≤ p.rc ∧ p.wn ≤ p.wc ∧ ∀ x ∈ p.ws, x.1.size ≤ 140737488351232
theorem TxOk.below {w w1 : World} {p : TxP} (h : TxOk w p) (hb : Below w.heap.size w w1) : TxOk w1 p := ⟨h.1.below hb, h.2.1.below hb, h.2.2⟩
def Txs (w : World) (A : Option Addr) (len : Nat) (l : List TxP) : Prop := RowF w 4 txC A len l ∧ ∀ p ∈ l, TxOk w p
theorem Txs.below {w w1 : World} {A : Option Addr} {len : Nat} {l : List TxP} (h : Txs w A len l) (hb : Below w.heap.size w w1) : Txs w1 A len l := ⟨h.1.below hb, fun p hp => (h.2 p hp).below hb⟩
theorem Txs.take {w : World} {A : Option Addr} {len : Nat} {l : List TxP} (h : Txs w A len l) {k : Nat} (hk : k ≤ len) : Txs w A k (l.take k) := ⟨h.1.take hk, fun p hp => h.2 p (List.mem_of_mem_take hp)⟩
/-- The last write of a key. -/
def lastS (ws : List WrT) (k : ByteArray) : Option WrT := ws.reverse.find? fun w => decide (w.1 = k)
def atStep (k : ByteArray) (t : Nat) (best : VerT) (x : TxP) : VerT :=
  if x.commit ≤ best.1 ∨ t < x.commit then best else match lastS x.ws k with
  | some w => (x.commit, w.2.1, w.2.2)
  | none => best
/-- What stands of a key at a time. -/
def atS (l : List TxP) (k : ByteArray) (t : Nat) : VerT := l.foldl (atStep k t) (0, false, ⟨#[]⟩)
def overS (a b : TxP) : Bool := decide (a.start < b.commit) && decide (b.start < a.commit)
def sharedS (a b : List WrT) : Bool := b.any fun w => a.any fun v => decide (v.1 = w.1)
def readOk (l : List TxP) (t : Nat) (r : RdT) : Bool := if (atS l r.1 t).1 = 0 ∨ (atS l r.1 t).2.1 = true then !r.2.1 else r.2.1 && decide (r.2.2 = atS l r.1 t)
def clash (x y : TxP) : Bool := decide (0 < y.commit) && (overS x y && sharedS x.ws y.ws)
/-- A transaction's fault. -/
def faultS (l : List TxP) (i : Nat) (x : TxP) : Nat :=
  if 0 < x.commit ∧ 0 < x.ws.length ∧ x.commit ≤ x.start then 1
  else if 0 < x.commit ∧ (l.take i).any (clash x) = true then 2
  else if (x.rs.any fun r => !readOk l x.start r) = true then 3 else 0
/-- The first fault, and where. -/
def FaultIs (l : List TxP) (i : Int) (k : Nat) : Prop :=
  (i = -1 ∧ k = 0 ∧ ∀ j (h : j < l.length), faultS l j l[j] = 0) ∨ ∃ j, ∃ h : j < l.length, i = j ∧ k = faultS l j l[j] ∧ k ≠ 0 ∧ ∀ m (hm : m < l.length), m < j → faultS l m l[m] = 0
theorem faultS_le (l : List TxP) (i : Nat) (x : TxP) : faultS l i x ≤ 3 := by
  unfold faultS
  split
  · decide
  · split
    · decide
    · split <;> decide
section
variable {H : Type} {enc : TypeId × Value → H} {w : World} {base : Nat} {spare : Nat → Bool} {held : Bool}
theorem write_opens : Opens enc Try.prog w base spare held 75 fun (p : WrT) cs => cs = wrC p ∧ p.1.size ≤ 140737488351232 :=
  (opens_struct3 Try.underlying75 (opens_string Try.underlying9) (opens_bool Try.underlying4) (opens_string Try.underlying9)).imp fun p cs ⟨hl, ⟨h0, hs⟩, h1, ⟨h2, _⟩⟩ => by
    have e : Try.prog.cellsOf 75 = 3 := by kernel_rfl
    have e0 : Try.prog.cellsOf 9 = 1 := by kernel_rfl
    have e1 : Try.prog.cellsOf 4 = 1 := by kernel_rfl
    obtain ⟨a, b, c⟩ := p
    rw [e] at hl
    simp only [e0, e1] at h0 h1 h2
    refine ⟨(a, b, c), ?_, hs⟩
    match cs, hl with
    | [x, y, z], _ => simp at h0 h1 h2; rw [h0, h1, h2]; rfl
theorem version_opens : Opens enc Try.prog w base spare held 41 fun (p : VerT) cs => cs = verC p ∧ cs.length = 3 :=
  (opens_struct3 Try.underlying41 (opens_int Try.underlying39) (opens_bool Try.underlying4) (opens_string Try.underlying9)).imp fun p cs ⟨hl, ⟨h0, hw⟩, h1, ⟨h2, _⟩⟩ => by
    have e : Try.prog.cellsOf 41 = 3 := by kernel_rfl
    have e0 : Try.prog.cellsOf 9 = 1 := by kernel_rfl
    have e1 : Try.prog.cellsOf 4 = 1 := by kernel_rfl
    have e2 : Try.prog.cellsOf 39 = 1 := by kernel_rfl
    obtain ⟨a, b, c⟩ := p
    have hw := wf_u64 hw
    obtain ⟨a, rfl⟩ := Int.eq_ofNat_of_zero_le hw.1
    rw [e] at hl
    simp only [e0, e1, e2] at h0 h1 h2
    refine ⟨(a, b, c), ?_, hl⟩
    match cs, hl with
    | [x, y, z], _ => simp at h0 h1 h2; rw [h0, h1, h2]; rfl
set_option maxRecDepth 10000 in
theorem read_opens : Opens enc Try.prog w base spare held 43 fun (p : RdT) cs => cs = rdC p :=
  (opens_struct3 Try.underlying43 (opens_string Try.underlying9) (opens_bool Try.underlying4) version_opens).imp fun p cs ⟨hl, ⟨h0, _⟩, h1, ⟨h2, _⟩⟩ => by
    have e : Try.prog.cellsOf 43 = 5 := by kernel_rfl
    have e0 : Try.prog.cellsOf 9 = 1 := by kernel_rfl
    have e1 : Try.prog.cellsOf 4 = 1 := by kernel_rfl
    have e2 : Try.prog.cellsOf 41 = 3 := by kernel_rfl
    obtain ⟨a, b, c, d, f⟩ := p
    rw [e] at hl
    simp only [e0, e1, e2] at h0 h1 h2
    refine ⟨(a, b, c, d, f), ?_⟩
    match cs, hl with
    | [x, y, z, u, v], _ =>
      simp [verC] at h0 h1 h2
      obtain ⟨h2, h3, h4⟩ := h2
      subst h0 h1 h2 h3 h4
      rfl
set_option maxRecDepth 10000 in
theorem tx_opens : Opens enc Try.prog w base spare held 68 fun (p : TxP) cs => cs = txC p ∧ TxOk w p := fun fuel cs x hx hf => by
  obtain ⟨hl, hh⟩ := fits_struct Try.underlying68 hx hf
  have e : Try.prog.cellsOf 68 = 4 := by kernel_rfl
  have eu : Try.prog.cellsOf 39 = 1 := by kernel_rfl
  have er : Try.prog.cellsOf 50 = 1 := by kernel_rfl
  have ew : Try.prog.cellsOf 23 = 1 := by kernel_rfl
  have er1 : Try.prog.cellsOf 43 = 5 := by kernel_rfl
  have ew1 : Try.prog.cellsOf 75 = 3 := by kernel_rfl
  have br : Try.prog.bytesOf 43 = 56 := by kernel_rfl
  have bw : Try.prog.bytesOf 75 = 40 := by kernel_rfl
  obtain ⟨_, _, a0, b0⟩ := hh 0 _ rfl
  obtain ⟨_, _, a1, b1⟩ := hh 1 _ rfl
  obtain ⟨_, _, a2, b2⟩ := hh 2 _ rfl
  obtain ⟨_, _, a3, b3⟩ := hh 3 _ rfl
  clear hh
  obtain ⟨s, h0, w0⟩ := opens_int (enc := enc) Try.underlying39 _ _ _ a0 b0
  obtain ⟨c, h1, w1⟩ := opens_int (enc := enc) Try.underlying39 _ _ _ a1 b1
  obtain ⟨rs, rA, rn, rc, h2, g2, _, s2, r2⟩ := opens_slice (enc := enc) Try.underlying50 (by decide +kernel) read_opens _ _ _ a2 b2
  obtain ⟨ws, wA, wn, wc, h3, g3, _, s3, r3⟩ := opens_slice (enc := enc) Try.underlying23 (by decide +kernel) write_opens _ _ _ a3 b3
  clear a0 a1 a2 a3 b0 b1 b2 b3 hx hf
  have w0 := wf_u64 w0
  have w1 := wf_u64 w1
  obtain ⟨s, rfl⟩ := Int.eq_ofNat_of_zero_le w0.1
  obtain ⟨c, rfl⟩ := Int.eq_ofNat_of_zero_le w1.1
  rw [e] at hl
  rw [br] at s2
  rw [bw] at s3
  rw [er1] at r2
  rw [ew1] at r3
  refine ⟨⟨s, c, rs, rA, rn, rc, ws, wA, wn, wc⟩, ?_, RowF.of_says r2, RowF.of_says (r3.imp fun _ _ h => h.1), by simp only; omega, by simp only; omega, g2, g3, r3.all fun _ _ h => h.2⟩
  match cs, hl with
  | [x, y, z, u], _ =>
    simp [eu, er, ew] at h0 h1 h2 h3
    rw [h0, h1, h2, h3]
    rfl
theorem txs_opens : Opens enc Try.prog w base spare held 63 fun (l : List TxP) cs => ∃ A len cap, cs = [.slice A len cap] ∧ len ≤ cap ∧ cap ≤ maxLen ∧ len * Try.prog.bytesOf 68 ≤ 140737488351232 ∧ RowSays w (Try.prog.cellsOf 68) (fun p cs => cs = txC p ∧ TxOk w p) A len l :=
  opens_slice Try.underlying63 (by decide +kernel) tx_opens
theorem Txs.of_says {w : World} {A : Option Addr} {len : Nat} {l : List TxP} (h : RowSays w 4 (fun p cs => cs = txC p ∧ TxOk w p) A len l) : Txs w A len l :=
  ⟨RowF.of_says (h.imp fun _ _ h => h.1), fun p hp => by
    obtain ⟨j, hj, rfl⟩ := List.getElem_of_mem hp
    obtain ⟨b, off, e, hlt, hc⟩ := h.2 (by have := h.1; omega)
    obtain ⟨c, _, h2, _⟩ := hc j hj
    exact h2.2⟩
end
end Go.Proofs.Ytdldnhigejcegaa.My
