/- keys.Encode; the law's value. -/
import Derived.Test.YtbbjnnbabikefaaDoorKeys3
import Derived.Test.YtbbjnnbabikefaaDoorAppR
namespace Go.Proofs.YtbbjnnbabikefaaDoor.My
set_option linter.unusedSimpArgs false
set_option linter.unusedVariables false
open Go.RowKit Go.Proofs.YtbbjnnbabikefaaDoorW.PrintWords Go.Proofs.YtbbjnnbabikefaaDoorW.PrintLast Go.Proofs.YtbbjnnbabikefaaDoor.Pm

abbrev ItX := PIt × Bool
def itC (x : ItX) : List Value := [itV x.1 x.2]
theorem itC_len (x : ItX) : (itC x).length = 1 := rfl
theorem itC_one (x : ItX) : ∀ u ∈ itC x, u.oneCell' = true := by
  obtain ⟨p, d⟩ := x
  intro u hu
  simp only [itC, List.mem_cons, List.not_mem_nil, or_false] at hu
  subst hu
  cases d <;> cases p <;> rfl
def encF (s : ByteArray) (x : ItX) : ByteArray := s ++ itemS x.1 x.2
def encL (l : List ItX) : ByteArray := l.foldl encF ⟨#[]⟩
theorem encL_take {l : List ItX} {i : Nat} (h : i < l.length) : encL (l.take (i + 1)) = encL (l.take i) ++ itemS l[i].1 l[i].2 := by
  unfold encL
  rw [List.take_add_one, List.getElem?_eq_getElem h, List.foldl_append]
  rfl
theorem notB_size (s : ByteArray) : (notB s).size = s.size := by
  unfold notB
  show ((bl s).map notU).toArray.size = _
  rw [List.size_toArray, List.length_map, bl_length]
theorem itemS_size {x : ItX} (h : x.1.ok) : (itemS x.1 x.2).size ≤ 2003 := by
  unfold itemS
  split
  · rw [notB_size]; exact oneS_size h
  · exact oneS_size h
theorem encL_size {l : List ItX} (h : ∀ x ∈ l, x.1.ok) : ∀ i, i ≤ l.length → (encL (l.take i)).size ≤ i * 2003
  | 0, _ => Nat.le_refl _
  | i + 1, hi => by
    rw [encL_take (by omega), ByteArray.size_append]
    have h1 := encL_size h i (by omega)
    have h2 := itemS_size (h _ (List.getElem_mem (show i < l.length by omega)))
    omega
set_option maxRecDepth 100000 in
set_option maxHeartbeats 4000000 in
theorem encode_any (A : Option Addr) (n c : Nat) (l : List ItX) (w : World) (hA : RowF w 1 itC A n l) (hn : n ≤ 1000) (hl : ∀ x ∈ l, x.1.ok) (hg : Glob w) :
    Calls Tryd.prog 10 #[.slice A n c] w fun e w' => e = .returned (.tuple #[.string (encL l), .int .i64 0]) ∧ Below w.heap.size w w' := by
  have HA := Lib.hid hA; clear hA
  have HG := Lib.hid hg; clear hg
  have HL := Lib.hid hl; clear hl
  go_enter Tryd.func10, Tryd.ntmps10
  go_wp2
  go_loopw [4, 11] (fun u4 u11 wr => ∃ i : Nat, u4 = .string (encL (l.take i)) ∧ u11 = .int .i64 i ∧ i ≤ n ∧ Below w.heap.size w wr) (fun _ u11 _ => n - (intOf u11).toNat)
  case atStart => exact ⟨0, rfl, rfl, Nat.zero_le _, Below.refl _ _⟩
  case round =>
    obtain ⟨i, rfl, rfl, hi, hb⟩ := hrel
    have HB := Lib.hid hb; clear hb
    by_cases hlt : i < n
    · obtain ⟨bb, off, hj, rfl, hbW, hc⟩ := HA.out.get i hlt
      have hc1 := range_below hc HB.out hbW
      have hok := HL.out _ (List.getElem_mem hj)
      have hz := encL_size HL.out i (by omega)
      have hz2 := itemS_size hok
      have HT := Lib.hid (encL_take hj)
      obtain ⟨⟨p, d⟩, hx⟩ : ∃ x, l[i] = x := ⟨_, rfl⟩
      rw [hx] at hc1 hok hz2 HT
      simp only at hok hz2 HT
      have c0 : wr.cell? ⟨bb, off + i, none⟩ = some (itV p d) := by have := hc1 0 _ rfl; rw [Nat.mul_one] at this; exact this
      have HI := Lib.hid (fun W (hg : Glob W) => item_any p d W hok hg)
      have hw := succ_w' hlt (show n ≤ 140737488351232 by omega)
      clear hc hc1 hx hbW hok hj
      generalize encL (l.take i) = E at *
      generalize itemS p d = S at *
      generalize itV p d = V at *
      have zz : ¬ 9223372036854775807 < E.size + S.size := by clear hw; omega
      have hzz : E.size + S.size ≤ 140737488351232 := by clear hw; omega
      have HLT := Lib.hid hlt
      clear hz hz2
      go_wp2_with fail
      refine (HI.out _ (HG.out.below HB.out)).mono ?_
      rintro e w1 ⟨rfl, hb⟩
      replace HB := Lib.hid (HB.out.trans (hb.mono HB.out.size))
      go_wp2
      go_roundw
      case rel => exact ⟨i + 1, by rw [HT.out], by go_num, HLT.out, HB.out⟩
      case measure => first | exact kup_w HLT.out hw | exact kup_n HLT.out
    · obtain rfl : i = n := by omega
      have e : l.take i = l := List.take_of_length_le (by rw [HA.out.1]; exact Nat.le_refl _)
      rw [e]
      go_wp2
      first | go_ret2 | go_ret
      exact ⟨rfl, HB.out⟩
end Go.Proofs.YtbbjnnbabikefaaDoor.My
