/- isoglossref11.Store: Last, At. -/
import Derived.Test.YtcnehponkgofiaaMvLaw
namespace Go.Proofs.Ytcnehponkgofiaa.My
set_option linter.unusedSimpArgs false
set_option linter.unusedVariables false
open Go.RowKit Go.Proofs.YtcnehponkgofiaaW.PrintWords Go.Proofs.YtcnehponkgofiaaW.PrintLast Go.Proofs.Ytcnehponkgofiaa.Pm

theorem str_eqb (a b : ByteArray) : (a.toList == b.toList) = decide (a = b) := by
  rw [ByteArray.toList_eq, ByteArray.toList_eq]
  by_cases h : a = b
  · simp [h]
  · rw [decide_eq_false h]
    exact beq_eq_false_iff_ne.2 (fun e => h (Go.WideShapes.bytes_inj e))
theorem up_w {j n : Nat} (h : j < n) (hw : wrap64 ((j : Int) + 1) = ((j + 1 : Nat) : Int)) : n - (intOf (.int .i64 (wrap64 ((j : Int) + 1)))).toNat < n - (intOf (.int .i64 (j : Int))).toNat := by
  rw [hw]
  simp only [intOf]
  clear hw
  omega
theorem up_n {j n : Nat} (h : j < n) : n - (intOf (.int .i64 ((j : Int) + 1))).toNat < n - (intOf (.int .i64 (j : Int))).toNat := by
  simp only [intOf]
  omega
/-- The reference's: a key's last time, and how many versions it has. -/
def rLast (L : List ItT) (key : ByteArray) : Nat × Nat := L.foldl (fun s p => if p.1 = key then (max s.1 p.2.1, s.2 + 1) else s) (0, 0)
theorem rLast_take {L : List ItT} {key : ByteArray} {i : Nat} (h : i < L.length) : rLast (L.take (i + 1)) key = if L[i].1 = key then (max (rLast (L.take i) key).1 L[i].2.1, (rLast (L.take i) key).2 + 1) else rLast (L.take i) key := by
  unfold rLast
  rw [List.take_add_one, List.getElem?_eq_getElem h]
  simp only [Option.toList_some, List.foldl_append, List.foldl_cons, List.foldl_nil]
theorem rLast_le (key : ByteArray) : ∀ (L : List ItT) (i : Nat), i ≤ L.length → (rLast (L.take i) key).2 ≤ i
  | L, 0, _ => by simp [rLast]
  | L, i + 1, h => by
    rw [rLast_take (by omega)]
    have := rLast_le key L i (by omega)
    split
    · simp only; omega
    · omega
set_option maxRecDepth 100000 in
set_option maxHeartbeats 4000000 in
theorem rlast_any (A : Option Addr) (n c : Nat) (L : List ItT) (key : ByteArray) (w : World) (hA : RowF w 4 itC A n L) (hn : n ≤ 1000) :
    Calls Try.prog 16 #[.agg #[.slice A n c], .string key] w fun e w' => e = .returned (.tuple #[.int .u64 ((rLast L key).1 : Nat), .int .i64 ((rLast L key).2 : Nat)]) ∧ Below w.heap.size w w' := by
  have HA := Lib.hid hA; clear hA
  have HB := Lib.hid (below_alloc (Below.refl w.heap.size w) (.cells #[.slice A n c] 44))
  have HG := Lib.hid (blk_new w (.cells #[.slice A n c] 44))
  have HL := Lib.hid HA.out.1
  go_enter Try.func16, Try.ntmps16
  go_wp2
  generalize World.alloc _ _ = W0 at *
  obtain ⟨g, hg⟩ : ∃ g, w.heap.size = g := ⟨_, rfl⟩
  rw [hg] at HG ⊢
  have g0 : W0.cell? ⟨g, 0, none⟩ = some (.slice A n c) := (blk_cell HG.out 0).trans rfl
  clear hg
  go_loopw [6, 7, 8] (fun a b u wr => ∃ i : Nat, a = .int .u64 ((rLast (L.take i) key).1 : Nat) ∧ b = .int .i64 ((rLast (L.take i) key).2 : Nat) ∧ u = .int .i64 i ∧ i ≤ n ∧ wr = W0) (fun _ _ u _ => n - (intOf u).toNat)
  case atStart => exact ⟨0, rfl, rfl, rfl, Nat.zero_le _, rfl⟩
  case round =>
    obtain ⟨i, rfl, rfl, rfl, hi, rfl⟩ := hrel
    by_cases hlt : i < n
    · obtain ⟨bb, off, hj, rfl, hbW, hc⟩ := HA.out.get i hlt
      replace hc := range_below hc HB.out hbW
      have HT := Lib.hid (rLast_take (key := key) hj)
      have h2 := rLast_le key L i (by omega)
      obtain ⟨⟨k, x0, x1, x2⟩, hx⟩ : ∃ x, L[i] = x := ⟨_, rfl⟩
      rw [hx] at hc HT
      have c0 : wr.cell? ⟨bb, off + i * 4, none⟩ = some (.string k) := hc 0 _ rfl
      have c1 : wr.cell? ⟨bb, off + i * 4 + 1, none⟩ = some (.int .u64 (x0 : Int)) := hc 1 _ rfl
      obtain ⟨a, ha⟩ : ∃ a, (rLast (L.take i) key).1 = a := ⟨_, rfl⟩
      obtain ⟨b, hb⟩ : ∃ b, (rLast (L.take i) key).2 = b := ⟨_, rfl⟩
      rw [ha, hb] at HT
      rw [ha, hb]
      rw [hb] at h2
      have HLT := Lib.hid hlt
      have hw := next_wrap hlt (by omega)
      have HW2 := Lib.hid (show wrap64 ((b : Int) + 1) = ((b + 1 : Nat) : Int) from next_wrap (len := 1001) (by clear hw; omega) (by decide))
      have he := str_eqb k key
      clear hc hbW hj hx h2 hn
      replace ha := Lib.hid ha
      replace hb := Lib.hid hb
      by_cases hk : k = key
      · rw [decide_eq_true hk] at he
        have hw2 := HW2.out
        replace HT := Lib.hid (HT.out.trans (if_pos hk))
        clear hk
        go_wp2
        go_roundw
        case rel => exact ⟨i + 1, by rw [HT.out]; show Value.int .u64 (max (a : Int) (x0 : Int)) = Value.int .u64 ((max a x0 : Nat) : Int); rw [show ((max a x0 : Nat) : Int) = max (a : Int) (x0 : Int) from by omega], by rw [HT.out]; first | rw [hw2] | rfl, by go_num, HLT.out, trivial⟩
        case measure => first | exact up_w HLT.out hw | exact up_n HLT.out
      · rw [decide_eq_false hk] at he
        replace HT := Lib.hid (HT.out.trans (if_neg hk))
        clear hk
        go_wp2
        go_roundw
        case rel => exact ⟨i + 1, by rw [HT.out, ha.out], by rw [HT.out, hb.out], by go_num, HLT.out, trivial⟩
        case measure => first | exact up_w HLT.out hw | exact up_n HLT.out
    · obtain rfl : i = n := by omega
      go_wp2
      go_ret2
      rw [List.take_of_length_le (by rw [HL.out]; exact Nat.le_refl _)]
      exact ⟨rfl, HB.out⟩
end Go.Proofs.Ytcnehponkgofiaa.My
