/- keys.turned. -/
import Derived.Test.YtbbjnnbabikefaaDoorKit
import Derived.Test.YtbbjnnbabikefaaDoorCode
import Derived.Test.YtbbjnnbabikefaaDoorStrE
namespace Go.Proofs.YtbbjnnbabikefaaDoor.My
set_option linter.unusedSimpArgs false
set_option linter.unusedVariables false
open Go.RowKit Go.Proofs.YtbbjnnbabikefaaDoorW.PrintWords Go.Proofs.YtbbjnnbabikefaaDoorW.PrintLast Go.Proofs.YtbbjnnbabikefaaDoor.Pm

def notU (b : UInt8) : UInt8 := 255 - b
def notB (s : ByteArray) : ByteArray := ⟨((bl s).map notU).toArray⟩
theorem notU_nat (b : UInt8) : (notU b).toNat = 255 - b.toNat := by
  unfold notU
  have := b.toNat_lt
  rw [UInt8.toNat_sub_of_le _ _ (by rw [UInt8.le_iff_toNat_le]; show b.toNat ≤ 255; omega)]
  rfl
def mixB (l : List UInt8) (i : Nat) : List UInt8 := (l.take i).map notU ++ l.drop i
theorem mixB_len {l : List UInt8} {i : Nat} (h : i ≤ l.length) : (mixB l i).length = l.length := by
  unfold mixB
  rw [List.length_append, List.length_map, List.length_take, List.length_drop]
  omega
theorem mixB_get {l : List UInt8} {i : Nat} (h : i < l.length) : (mixB l i)[i]? = some l[i] := by
  unfold mixB
  rw [List.getElem?_append_right (by rw [List.length_map, List.length_take]; omega), List.length_map, List.length_take, Nat.min_eq_left (by omega), Nat.sub_self, List.getElem?_drop, Nat.add_zero, List.getElem?_eq_getElem h]
theorem mixB_set {l : List UInt8} {i : Nat} (h : i < l.length) : (mixB l i).set i (notU l[i]) = mixB l (i + 1) := by
  unfold mixB
  rw [List.set_append_right _ _ (by rw [List.length_map, List.length_take]; omega), List.length_map, List.length_take, Nat.min_eq_left (by omega), Nat.sub_self, List.drop_eq_getElem_cons h, List.set_cons_zero, List.take_add_one, List.getElem?_eq_getElem h, List.map_append, List.append_assoc]
  rfl
theorem succ_w' {i len : Nat} (hi : i < len) (hl : len ≤ 140737488351232) : wrap64 ((i : Int) + 1) = ((i + 1 : Nat) : Int) := wrap64_id (by omega) (by omega)
theorem kup_w {j n : Nat} (h : j < n) (hw : wrap64 ((j : Int) + 1) = ((j + 1 : Nat) : Int)) : n - (intOf (.int .i64 (wrap64 ((j : Int) + 1)))).toNat < n - (intOf (.int .i64 (j : Int))).toNat := by
  rw [hw]
  simp only [intOf]
  clear hw
  omega
theorem kup_n {j n : Nat} (h : j < n) : n - (intOf (.int .i64 ((j : Int) + 1))).toNat < n - (intOf (.int .i64 (j : Int))).toNat := by
  simp only [intOf]
  omega
theorem xor255_nat : ∀ n : Nat, n < 256 → 255 ^^^ n = 255 - n := by decide +kernel
theorem xor255 (b : UInt8) : Go.bits .xor .u8 (if IntKind.u8.signed = true then -1 else IntKind.u8.max) (b.toNat : Int) = ((notU b).toNat : Int) := by
  have h := u8_xor_nat 255 b.toNat (by omega) b.toNat_lt
  rw [xor255_nat b.toNat b.toNat_lt] at h
  rw [notU_nat]
  exact h
set_option maxRecDepth 100000 in
set_option maxHeartbeats 4000000 in
theorem turned_any (s : ByteArray) (w : World) (hs : s.size ≤ 1000000) :
    Calls Tryd.prog 21 #[.string s] w fun e w' => e = .returned (.string (notB s)) ∧ Below w.heap.size w w' := by
  have hkb := print_bytes (P := Tryd.prog) 9 39 5 Tryd.underlying9 Tryd.underlying39 Tryd.underlying5 s w
  have HB := Lib.hid (Below.refl w.heap.size w)
  have hlen : (bl s).length = s.size := bl_length s
  go_enter Tryd.func21, Tryd.ntmps21
  go_wp2
  have hrow := ByteRow.of_bytes w 5 s
  have hB := bytes_below HB.out HB.out.size 5 s
  have hg : w.heap.size < (Lib.bytesWorld w 5 s).heap.size := by rw [Lib.bytesWorld_size]; omega
  replace HB := Lib.hid hB; clear hB
  generalize Lib.bytesWorld w 5 s = w2 at *
  generalize grownCap w s.size 0 5 = cap at *
  obtain ⟨g, hgg⟩ : ∃ g, w.heap.size = g := ⟨_, rfl⟩
  have HGG := Lib.hid hgg
  rw [hgg] at hrow hg ⊢
  clear hgg hkb
  have HR := Lib.hid (show ByteRow w2 g (mixB (bl s) 0) from hrow); clear hrow
  have HG := Lib.hid hg; clear hg
  go_loopw [9] (fun u wr => ∃ i : Nat, u = .int .i64 i ∧ i ≤ s.size ∧ ByteRow wr g (mixB (bl s) i) ∧ g < wr.heap.size ∧ Below w.heap.size w wr) (fun u _ => s.size - (intOf u).toNat)
  case atStart => exact ⟨0, rfl, Nat.zero_le _, HR.out, HG.out, HB.out⟩
  case round =>
    clear HR HG HB
    obtain ⟨i, rfl, hi, hr, hg, hb⟩ := hrel
    have HB := Lib.hid hb; clear hb
    have HR := Lib.hid hr; clear hr
    by_cases hlt : i < s.size
    · have hil : i < (bl s).length := by omega
      have hm := mixB_len (l := bl s) (i := i) (by omega)
      obtain ⟨c1, f1⟩ := HR.out i (by omega)
      have hget := mixB_get hil
      rw [List.getElem?_eq_getElem (by omega)] at hget
      injection hget with hget
      rw [hget] at c1
      obtain ⟨b, hb⟩ : ∃ b, (bl s)[i] = b := ⟨_, rfl⟩
      have hset := mixB_set hil
      rw [hb] at c1 hset
      have HSET := Lib.hid hset; clear hset hget hb
      have HML := Lib.hid hm; clear hm
      have hw := succ_w' hlt (show s.size ≤ 140737488351232 by omega)
      have HX := Lib.hid (ByteRow.set HR.out i (notU b) _ (xor255 b) (by rw [HML.out]; omega))
      rw [HSET.out] at HX
      go_wp2
      refine ⟨⟨i + 1, by go_num, hlt, HX.out, by simpa [World.setCell] using hg, HB.out.setCell (by rw [HGG.out]; exact Nat.le_refl _) _⟩, ?_⟩
      first | exact kup_w hlt hw | exact kup_n hlt
    · obtain rfl : i = s.size := by omega
      have hm := mixB_len (l := bl s) (i := s.size) (by omega)
      have hcv := HR.out.str cap
      rw [hm, hlen, show mixB (bl s) s.size = (bl s).map notU by unfold mixB; rw [← hlen, List.take_length, List.drop_length, List.append_nil]] at hcv
      go_wp2
      go_ret
      exact ⟨rfl, HB.out⟩
end Go.Proofs.YtbbjnnbabikefaaDoor.My
