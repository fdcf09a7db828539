/- msg.Msg: in memory; its fields as bytes; msg.known, number, flag, head, small. -/
import Derived.Test.YtemhmgpihkemjaaKit
import Derived.Test.YtemhmgpihkemjaaRes
import Derived.Test.YtemhmgpihkemjaaPm
import Derived.Test.YtemhmgpihkemjaaPrim
import Derived.Test.YtemhmgpihkemjaaCode
import Derived.Test.YtemhmgpihkemjaaStrE
import Derived.Test.YtemhmgpihkemjaaRText
namespace Go.Proofs.Ytemhmgpihkemjaa.My
set_option linter.unusedSimpArgs false
set_option linter.unusedVariables false
open Go.RowKit Go.Proofs.YtemhmgpihkemjaaW.PrintWords Go.Proofs.YtemhmgpihkemjaaW.PrintLast Go.Proofs.Ytemhmgpihkemjaa.Pm

/-- A write: its key, is it gone, its value. -/
abbrev WrT := ByteArray × Bool × ByteArray
structure MsgS where
  kind : Int
  frm : Int
  tow : Int
  node : Int
  life : Int
  seq : Int
  a : Nat
  b : Nat
  key : ByteArray
  found : Bool
  time : Nat
  gone : Bool
  value : ByteArray
  ws : List WrT
  note : ByteArray
  hint : Nat
  must : Nat
def wrC (p : WrT) : List Value := [.string p.1, .bool p.2.1, .string p.2.2]
/-- Writes that can be read. -/
def Wrs (w : World) (A : Option Addr) (n : Nat) (ws : List WrT) : Prop :=
  ws.length = n ∧ (0 < n → ∃ b off, A = some ⟨b, off, none⟩ ∧ b < w.heap.size ∧ ∀ j (h : j < ws.length), w.rangeAt b (off + j * 3) (wrC (ws[j]'h)))
theorem Wrs.below {w w1 : World} {A : Option Addr} {n : Nat} {ws : List WrT} (h : Wrs w A n ws) (hb : Below w.heap.size w w1) : Wrs w1 A n ws :=
  ⟨h.1, fun h0 => by
    obtain ⟨b, off, e, hl, hc⟩ := h.2 h0
    exact ⟨b, off, e, Nat.lt_of_lt_of_le hl hb.size, fun j hj => range_below (hc j hj) hb hl⟩⟩
theorem Wrs.nil (w : World) : Wrs w none 0 [] := ⟨rfl, fun h => absurd h (by decide)⟩
theorem Wrs.cells {w : World} {A : Option Addr} {n : Nat} {ws : List WrT} (h : Wrs w A n ws) (j : Nat) (hj : j < n) : ∃ b off k g v, A = some ⟨b, off, none⟩ ∧ b < w.heap.size ∧ ws[j]? = some (k, g, v) ∧
    w.cell? ⟨b, off + j * 3, none⟩ = some (.string k) ∧ w.cell? ⟨b, off + j * 3 + 1, none⟩ = some (.bool g) ∧ w.cell? ⟨b, off + j * 3 + 2, none⟩ = some (.string v) := by
  obtain ⟨b, off, e, hl, hc⟩ := h.2 (by omega)
  have hj' : j < ws.length := by rw [h.1]; exact hj
  have := hc j hj'
  exact ⟨b, off, ws[j].1, ws[j].2.1, ws[j].2.2, e, hl, List.getElem?_eq_getElem hj', this 0 _ rfl, this 1 _ rfl, this 2 _ rfl⟩
def MsgS.arr (m : MsgS) (A : Option Addr) (n c : Nat) : Array Value := #[.int .i64 m.kind, .int .i64 m.frm, .int .i64 m.tow, .int .i64 m.node, .int .i64 m.life, .int .i64 m.seq, .int .u64 m.a, .int .u64 m.b, .string m.key, .bool m.found, .int .u64 m.time, .bool m.gone, .string m.value, .slice A n c, .string m.note, .int .u64 m.hint, .int .u64 m.must]
def flagS (g : Bool) : ByteArray := if g then ⟨#[1]⟩ else ⟨#[0]⟩
def writesS : List WrT → ByteArray
  | [] => ⟨#[]⟩
  | p :: r => flagS p.2.1 ++ (textS p.1 ++ (textS p.2.2 ++ writesS r))
def Ok32 (x : Int) : Prop := 0 ≤ x ∧ x ≤ 2147483647
def fieldS (m : MsgS) (tag : Nat) : ByteArray × Bool :=
  if tag = 1 then (uvS m.frm.toNat, decide (m.frm ≠ 0)) else if tag = 2 then (uvS m.tow.toNat, decide (m.tow ≠ 0))
  else if tag = 3 then (uvS m.node.toNat ++ uvS m.life.toNat ++ uvS m.seq.toNat, decide (¬ (m.node = 0 ∧ m.life = 0 ∧ m.seq = 0)))
  else if tag = 4 then (uvS m.a, decide (m.a ≠ 0)) else if tag = 5 then (uvS m.b, decide (m.b ≠ 0))
  else if tag = 6 then (m.key, decide (m.key.size ≠ 0)) else if tag = 7 then (⟨#[]⟩, m.found)
  else if tag = 8 then (uvS m.time ++ flagS m.gone ++ m.value, decide (¬ (m.time = 0 ∧ m.gone = false ∧ m.value.size = 0)))
  else if tag = 9 then (uvS m.ws.length ++ writesS m.ws, decide (0 < m.ws.length))
  else if tag = 10 then (m.note, decide (m.note.size ≠ 0)) else if tag = 11 then (uvS m.hint, decide (m.hint ≠ 0))
  else if tag = 12 then (uvS m.must, decide (m.must ≠ 0)) else (⟨#[]⟩, false)
/-- What is said of a message whose bytes are asked. -/
structure MsgS.Fit (m : MsgS) : Prop where
  frm : Ok32 m.frm
  tow : Ok32 m.tow
  node : Ok32 m.node
  life : Ok32 m.life
  seq : Ok32 m.seq
  kind : Ok32 m.kind
  a : m.a < 18446744073709551616
  b : m.b < 18446744073709551616
  key : m.key.size ≤ 20000
  time : m.time < 18446744073709551616
  value : m.value.size ≤ 20000
  ws : m.ws.length ≤ 20
  wss : ∀ p ∈ m.ws, p.1.size ≤ 20000 ∧ p.2.2.size ≤ 20000
  note : m.note.size ≤ 20000
  hint : m.hint < 18446744073709551616
  must : m.must < 18446744073709551616
theorem conv_ok {x : Int} (h : Ok32 x) : IntKind.u64.wrap x = ((x.toNat : Nat) : Int) := by
  obtain ⟨n, rfl⟩ := Int.eq_ofNat_of_zero_le h.1
  rw [Int.toNat_natCast]
  exact wrap_u64_nat (by have := h.2; omega)
theorem ok32_lt {x : Int} (h : Ok32 x) : x.toNat < 18446744073709551616 := by unfold Ok32 at h; omega
theorem ne0_nat (n : Nat) : ((n : Int) != 0) = decide (n ≠ 0) := by
  by_cases h : n = 0
  · subst h; rfl
  · have : ((n : Int) != 0) = true := by simp [h]
    rw [this, decide_eq_true h]
theorem ne0_int (n : Int) : (n != 0) = decide (n ≠ 0) := by
  by_cases h : n = 0
  · subst h; rfl
  · have : (n != 0) = true := by simp [h]
    rw [this, decide_eq_true h]
theorem flagS_size (g : Bool) : (flagS g).size = 1 := by cases g <;> rfl
def knownS (v : Int) : Nat := if v = 1 then 9 else if v = 2 then 10 else if v = 3 then 12 else 0
theorem known_any (v : Int) (w : World) : Calls Try.prog 21 #[.int .i64 v] w fun e w' => e = .returned (.int .i64 (knownS v : Nat)) ∧ w = w' := by
  unfold knownS
  by_cases h1 : v = 1
  · subst h1
    go_enter Try.func21, Try.ntmps21
    go_wp2
    go_ret
    exact ⟨rfl, rfl⟩
  · have x1 : (v == 1) = false := by simpa using h1
    rw [if_neg h1]
    by_cases h2 : v = 2
    · subst h2
      clear h1 x1
      go_enter Try.func21, Try.ntmps21
      go_wp2
      go_ret
      exact ⟨rfl, rfl⟩
    · have x2 : (v == 2) = false := by simpa using h2
      rw [if_neg h2]
      by_cases h3 : v = 3
      · subst h3
        clear h1 x1 h2 x2
        go_enter Try.func21, Try.ntmps21
        go_wp2
        go_ret
        exact ⟨rfl, rfl⟩
      · have x3 : (v == 3) = false := by simpa using h3
        rw [if_neg h3]
        clear h1 h2 h3
        go_enter Try.func21, Try.ntmps21
        go_wp2
        go_ret
        exact ⟨rfl, rfl⟩
theorem number_any (n : Nat) (w : World) (hn : n < 18446744073709551616) : Calls Try.prog 42 #[.int .u64 (n : Int)] w fun e w' => e = .returned (.tuple #[.string (uvS n), .bool (decide (n ≠ 0))]) ∧ Below w.heap.size w w' := by
  have U := Lib.hid (fun w => uint_any n w hn)
  have HB := Lib.hid (Below.refl w.heap.size w)
  rw [← ne0_nat]
  generalize uvS n = t at *
  go_enter Try.func42, Try.ntmps42
  go_wp2_with fail
  refine (U.out _).mono ?_
  rintro e wq1 ⟨rfl, hb⟩
  have HB := Lib.hid (HB.out.trans (hb.mono HB.out.size)); clear hb
  go_wp2
  go_ret2
  exact ⟨rfl, HB.out⟩
theorem flag_any (g : Bool) (w : World) : Calls Try.prog 43 #[.bool g] w fun e w' => e = .returned (.string (flagS g)) ∧ w = w' := by
  cases g
  all_goals
    go_enter Try.func43, Try.ntmps43
    go_wp2
    go_ret
    exact ⟨rfl, rfl⟩
def headS (tag : Nat) : Nat := if tag = 12 then 25 else 2 * tag
theorem head_any (tag : Nat) (w : World) (ht : tag ≤ 1000000) : Calls Try.prog 36 #[.int .i64 (tag : Int)] w fun e w' => e = .returned (.int .u64 (headS tag : Nat)) ∧ w = w' := by
  unfold headS
  by_cases h : tag = 12
  · subst h
    go_enter Try.func36, Try.ntmps36
    go_wp2
    go_ret
    exact ⟨rfl, rfl⟩
  · have x : ((tag : Int) == 12) = false := by simp; omega
    have xn : (tag == 12) = false := by simpa using h
    rw [if_neg h]
    have z1 : wrap64 (2 * (tag : Int)) = ((2 * tag : Nat) : Int) := (wrap64_id (by omega) (by omega)).trans (by omega)
    have z2 : IntKind.u64.wrap ((2 * tag : Nat) : Int) = ((2 * tag : Nat) : Int) := wrap_u64_nat (by clear z1; omega)
    generalize 2 * tag = q at *
    clear h ht
    go_enter Try.func36, Try.ntmps36
    go_wp2
    go_ret
    exact ⟨rfl, rfl⟩
end Go.Proofs.Ytemhmgpihkemjaa.My
