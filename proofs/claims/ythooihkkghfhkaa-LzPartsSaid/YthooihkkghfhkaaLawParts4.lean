/- The law LzParts walked. -/
import Derived.Test.YthooihkkghfhkaaLawLz
import Derived.Test.YthooihkkghfhkaaRJoin
namespace Go.Proofs.Ythooihkkghfhkaa.My
set_option linter.unusedSimpArgs false
set_option linter.unusedVariables false
open Go.RowKit Go.Proofs.YthooihkkghfhkaaW.PrintWords Go.Proofs.YthooihkkghfhkaaW.PrintLast Go.Proofs.Ythooihkkghfhkaa.Pm
theorem ArgParts.below {w w' : World} {A : Option Addr} {len : Nat} {ps : List PartT} (h : ArgParts w A len ps) (hb : Below w.heap.size w w') : ArgParts w' A len ps :=
  ⟨h.1, h.2.1, fun h0 => by
    obtain ⟨b, off, e, hlt, hc⟩ := h.2.2 h0
    refine ⟨b, off, e, Nat.lt_of_lt_of_le hlt hb.size, fun j hj => ?_⟩
    obtain ⟨h1, h2, h3⟩ := hc j hj
    exact ⟨(hb.cell (p := ⟨b, off + j * 3, none⟩) hlt).trans h1, (hb.cell (p := ⟨b, off + j * 3 + 1, none⟩) hlt).trans h2, (hb.cell (p := ⟨b, off + j * 3 + 2, none⟩) hlt).trans h3⟩⟩
theorem joinS_pos (ps : List PartT) : 0 < (joinS ps).1.size := by
  unfold joinS
  rw [ByteArray.size_append, ByteArray.size_append]
  have : (⟨#[1]⟩ : ByteArray).size = 1 := rfl
  omega
theorem parts_at {n : Nat} (h : n < 65536) : IntKind.i64.wrap (n : Int) = (n : Int) := IntWalk.i64_in _ (by omega)
theorem xor_byte (x : UInt8) (b : Nat) (hb : b < 256) : ∃ y : UInt8, Go.bits .xor .u8 (x.toNat : Int) (b : Int) = (y.toNat : Int) := by
  have h := Nat.xor_lt_two_pow (n := 8) x.toNat_lt hb
  exact ⟨UInt8.ofNat (x.toNat ^^^ b), by rw [u8_xor_nat _ _ x.toNat_lt hb, toNat_ofNat8 h]⟩
set_option maxRecDepth 100000 in
set_option maxHeartbeats 8000000 in
theorem lz_parts_law (A : Option Addr) (len cap at_ by_ : Nat) (ps : List PartT) (w : World) (hA : ArgParts w A len ps) (hlen : len ≤ 140737488351232) (ha : at_ < 65536) (hby : by_ < 256) :
    Calls Try.prog 6 #[.slice A len cap, .int .u16 at_, .int .u8 by_] w fun e w' => e = .returned (.bool true) ∧ Below w.heap.size w w' := by
  have HA := Lib.hid hA; clear hA
  have HB := Lib.hid (Below.refl w.heap.size w)
  by_cases h12 : 12 < len
  · have x0 : decide (12 < (len : Int)) = true := by simp; omega
    go_enter Try.func6, Try.ntmps6
    go_wp2_with fail
    refine (awake04 _).mono ?_
    rintro e wq1 ⟨rfl, hb⟩
    have HB := Lib.hid (HB.out.trans (hb.mono HB.out.size)); clear hb
    go_wp2_with fail
    refine (awake04 _).mono ?_
    rintro e wq2 ⟨rfl, hb⟩
    have HB := Lib.hid (HB.out.trans (hb.mono HB.out.size)); clear hb
    go_wp2
    go_ret
    exact ⟨rfl, HB.out⟩
  have x0 : decide (12 < (len : Int)) = false := by simp; omega
  go_enter Try.func6, Try.ntmps6
  go_wp2_with fail
  refine (awake04 _).mono ?_
  rintro e wq3 ⟨rfl, hb⟩
  have HB := Lib.hid (HB.out.trans (hb.mono HB.out.size)); clear hb
  go_wp2
  go_loopw [7] (fun v7 wr => ∃ i : Nat, v7 = .int .i64 i ∧ i ≤ len ∧ Hid (∀ j (h : j < ps.length), j < i → ps[j].1.size ≤ 100) ∧ Below w.heap.size w wr) (fun v7 _ => len - (intOf v7).toNat)
  case atStart => exact ⟨0, rfl, by omega, Lib.hid (fun j _ h => absurd h (by omega)), HB.out⟩
  case round =>
    clear HB
    obtain ⟨i, rfl, hi, HS, hb⟩ := hrel
    have HB := Lib.hid hb; clear hb
    have HA2 := Lib.hid (HA.out.below HB.out)
    by_cases hlt : i < len
    · obtain ⟨b0, off, rfl, hb0, hcell⟩ := HA2.out.2.2 (by omega)
      have hil : i < ps.length := by rw [HA.out.1]; exact hlt
      have hc := (hcell i hil).1
      obtain ⟨v, hv⟩ : ∃ v, ps[i].1 = v := ⟨_, rfl⟩
      rw [hv] at hc
      have HV := Lib.hid hv; clear hv hcell
      by_cases h1 : 100 < v.size
      · have x1 : decide (100 < (v.size : Int)) = true := by simp; omega
        go_wp2
        go_ret
        exact ⟨rfl, HB.out⟩
      · have x1 : decide (100 < (v.size : Int)) = false := by simp; omega
        have HG := Lib.hid (show ∀ j (h : j < ps.length), j < i + 1 → ps[j].1.size ≤ 100 from fun j h hji => by
          by_cases e : j = i
          · subst e; rw [HV.out]; omega
          · exact HS.out j h (by omega))
        have hw : wrap64 ((i : Int) + 1) = ((i + 1 : Nat) : Int) := jw (by omega)
        go_wp2
        go_roundw
        case rel => exact ⟨i + 1, by go_num, hlt, HG, HB.out⟩
        case measure => first | exact jme hlt hw | exact jme2 hlt
    · obtain rfl : i = len := by omega
      have HJ := Lib.hid (rjoin_any A i cap ps _ HA2.out (by omega) (fun p hp => by
        obtain ⟨j, hj, rfl⟩ := List.getElem_of_mem hp
        exact HS.out j hj (by rw [← HA.out.1]; exact hj)))
      go_wp2_with fail
      refine HJ.out.mono ?_
      rintro e w3 ⟨rfl, hN, hsz, hb⟩
      have HB := Lib.hid (HB.out.trans (hb.mono HB.out.size)); clear hb HJ HS x0 h12
      have HM := Lib.hid (fun h => join_means ps (fun p hp => ⟨by have := (HA.out.2.1 p hp).1; omega, (HA.out.2.1 p hp).2⟩) (by omega) h)
      have hpos := joinS_pos ps
      clear hN
      generalize joinS ps = J at *
      obtain ⟨s, want⟩ := J
      simp only at hsz hpos HM
      have U := Lib.hid (fun w => lz_unpack s w (by omega))
      have R := Lib.hid (fun w => rlz_unpack s w (by omega))
      generalize lzUn s = Z at *
      obtain ⟨z, n⟩ := Z
      simp only at HM
      obtain ⟨k, hk⟩ : ∃ k, at_ % s.size = k := ⟨_, rfl⟩
      have hkl : k < s.size := hk ▸ Nat.mod_lt at_ hpos
      have e1 : (at_ : Int) % (s.size : Int) = (k : Int) := by rw [← hk]; exact (Int.natCast_emod at_ s.size).symm
      have e2 : Int.tmod (at_ : Int) (s.size : Int) = (k : Int) := by rw [Int.tmod_eq_emod_of_nonneg (by omega)]; exact e1
      have e3 : ((s.size : Int) == 0) = false := beq_eq_false_iff_ne.2 (by omega)
      have e4 : IntKind.i64.wrap (at_ : Int) = (at_ : Int) := parts_at ha
      have kb := fun W => print_bytes (P := Try.prog) 9 47 5 Try.underlying9 Try.underlying47 Try.underlying5 s W
      have KB := Lib.hid kb
      clear kb hk
      go_wp2_with fail
      refine (R.out _).mono ?_
      rintro e w4 ⟨rfl, hb⟩
      have HB := Lib.hid (HB.out.trans (hb.mono HB.out.size)); clear hb
      go_wp2_with fail
      refine (U.out _).mono ?_
      rintro e w5 ⟨rfl, hb⟩
      have HB := Lib.hid (HB.out.trans (hb.mono HB.out.size)); clear hb
      by_cases hn0 : n = 0
      · have hzw := HM.out hn0
        subst hzw
        have y0 : ((n : Int) == 0) = true := by simp; omega
        clear hn0
        have kb := KB.out w5
        have hrow := ByteRow.of_bytes w5 5 s
        have hlenl : s.data.toList.length = s.size := bl_length s
        have hkl2 : k < s.data.toList.length := by rw [hlenl]; exact hkl
        obtain ⟨hc1, hf1⟩ := hrow k hkl2
        obtain ⟨x, hx⟩ : ∃ x, s.data.toList[k] = x := ⟨_, rfl⟩
        rw [hx] at hc1
        obtain ⟨y, hy⟩ := xor_byte x by_ hby
        have hset := hrow.set k y _ rfl hkl2
        have h9 := hset.str (grownCap w5 s.size 0 5)
        rw [List.length_set, hlenl] at h9
        obtain ⟨s2, hs2⟩ : ∃ s2 : ByteArray, ⟨(s.data.toList.set k y).toArray⟩ = s2 := ⟨_, rfl⟩
        have hs2s : s2.size ≤ 2000 := by
          rw [← hs2, ← bl_length]
          show (s.data.toList.set k y).length ≤ 2000
          rw [List.length_set, hlenl]
          exact hsz
        rw [hs2] at h9
        have HROW := Lib.hid hset
        have hstr : ∀ w, ByteRow w w5.heap.size (s.data.toList.set k y) → (convert 47 9 (.slice (some ⟨w5.heap.size, 0, none⟩) s.size (grownCap w5 s.size 0 5))).run Try.prog w = .ok (.string s2) w := fun w h => by
          have h9 := h.str (grownCap w5 s.size 0 5)
          rw [List.length_set, hlenl, hs2] at h9
          exact h9
        have HSTR := Lib.hid hstr; clear hstr
        have HB2 := Lib.hid (bytes_below HB.out HB.out.size 5 s)
        have hg : w5.heap.size < (Lib.bytesWorld w5 5 s).heap.size := by rw [Lib.bytesWorld_size]; omega
        have hgl := HB.out.size
        have U2 := Lib.hid (fun w => lz_unpack s2 w (Nat.le_trans hs2s (by decide)))
        have R2 := Lib.hid (fun w => rlz_unpack s2 w (Nat.le_trans hs2s (by decide)))
        generalize lzUn s2 = Z2 at *
        obtain ⟨z2, n2⟩ := Z2
        clear hrow hlenl hkl2 hx hset hs2 hs2s HB
        have HG := Lib.hid hg; clear hg
        go_wp2_with fail
        have HB := Lib.hid (below_setc HB2.out (p := ⟨w5.heap.size, k, none⟩) hgl (Value.int .u8 (y.toNat : Int)))
        have hg : w5.heap.size < ((Lib.bytesWorld w5 5 s).setCell ⟨w5.heap.size, k, none⟩ (.int .u8 (y.toNat : Int))).heap.size := by simpa [World.setCell] using HG.out
        generalize (Lib.bytesWorld w5 5 s).setCell ⟨w5.heap.size, k, none⟩ (.int .u8 (y.toNat : Int)) = w6 at *
        clear h9 hc1 hf1 kb
        refine (U2.out _).mono ?_
        rintro e w7 ⟨rfl, hb⟩
        have h9 := HSTR.out _ (HROW.out.below hb hg)
        have HB := Lib.hid (HB.out.trans (hb.mono HB.out.size)); clear hb
        go_wp2_with fail
        refine (R2.out _).mono ?_
        rintro e w8 ⟨rfl, hb⟩
        have HB := Lib.hid (HB.out.trans (hb.mono HB.out.size)); clear hb
        go_wp2
        go_ret
        exact ⟨rfl, HB.out⟩
      · have y0 : ((n : Int) == 0) = false := by simp; omega
        clear hn0
        have kb := KB.out w5
        have hrow := ByteRow.of_bytes w5 5 s
        have hlenl : s.data.toList.length = s.size := bl_length s
        have hkl2 : k < s.data.toList.length := by rw [hlenl]; exact hkl
        obtain ⟨hc1, hf1⟩ := hrow k hkl2
        obtain ⟨x, hx⟩ : ∃ x, s.data.toList[k] = x := ⟨_, rfl⟩
        rw [hx] at hc1
        obtain ⟨y, hy⟩ := xor_byte x by_ hby
        have hset := hrow.set k y _ rfl hkl2
        have h9 := hset.str (grownCap w5 s.size 0 5)
        rw [List.length_set, hlenl] at h9
        obtain ⟨s2, hs2⟩ : ∃ s2 : ByteArray, ⟨(s.data.toList.set k y).toArray⟩ = s2 := ⟨_, rfl⟩
        have hs2s : s2.size ≤ 2000 := by
          rw [← hs2, ← bl_length]
          show (s.data.toList.set k y).length ≤ 2000
          rw [List.length_set, hlenl]
          exact hsz
        rw [hs2] at h9
        have HROW := Lib.hid hset
        have hstr : ∀ w, ByteRow w w5.heap.size (s.data.toList.set k y) → (convert 47 9 (.slice (some ⟨w5.heap.size, 0, none⟩) s.size (grownCap w5 s.size 0 5))).run Try.prog w = .ok (.string s2) w := fun w h => by
          have h9 := h.str (grownCap w5 s.size 0 5)
          rw [List.length_set, hlenl, hs2] at h9
          exact h9
        have HSTR := Lib.hid hstr; clear hstr
        have HB2 := Lib.hid (bytes_below HB.out HB.out.size 5 s)
        have hg : w5.heap.size < (Lib.bytesWorld w5 5 s).heap.size := by rw [Lib.bytesWorld_size]; omega
        have hgl := HB.out.size
        have U2 := Lib.hid (fun w => lz_unpack s2 w (Nat.le_trans hs2s (by decide)))
        have R2 := Lib.hid (fun w => rlz_unpack s2 w (Nat.le_trans hs2s (by decide)))
        generalize lzUn s2 = Z2 at *
        obtain ⟨z2, n2⟩ := Z2
        clear hrow hlenl hkl2 hx hset hs2 hs2s HB
        have HG := Lib.hid hg; clear hg
        go_wp2_with fail
        have HB := Lib.hid (below_setc HB2.out (p := ⟨w5.heap.size, k, none⟩) hgl (Value.int .u8 (y.toNat : Int)))
        have hg : w5.heap.size < ((Lib.bytesWorld w5 5 s).setCell ⟨w5.heap.size, k, none⟩ (.int .u8 (y.toNat : Int))).heap.size := by simpa [World.setCell] using HG.out
        generalize (Lib.bytesWorld w5 5 s).setCell ⟨w5.heap.size, k, none⟩ (.int .u8 (y.toNat : Int)) = w6 at *
        clear h9 hc1 hf1 kb
        refine (U2.out _).mono ?_
        rintro e w7 ⟨rfl, hb⟩
        have h9 := HSTR.out _ (HROW.out.below hb hg)
        have HB := Lib.hid (HB.out.trans (hb.mono HB.out.size)); clear hb
        go_wp2_with fail
        refine (R2.out _).mono ?_
        rintro e w8 ⟨rfl, hb⟩
        have HB := Lib.hid (HB.out.trans (hb.mono HB.out.size)); clear hb
        go_wp2
        go_ret
        exact ⟨rfl, HB.out⟩
theorem part_opens {H : Type} {enc : TypeId × Value → H} {w : World} {base : Nat} {spare : Nat → Bool} {held : Bool} :
    Opens enc Try.prog w base spare held 44 fun (p : PartT) cs => (p.1.size ≤ 140737488351232 ∧ p.2.1 < 65536 ∧ p.2.2 < 65536) ∧ cs = [.string p.1, .int .u16 p.2.1, .int .u16 p.2.2] :=
  (opens_struct3 Try.underlying44 (opens_string Try.underlying9) (opens_int Try.underlying42) (opens_int Try.underlying42)).imp fun p cs ⟨hl, ⟨h0, hs⟩, ⟨h2, h3⟩, h4, h5⟩ => by
    have z2 := wf_u16 h3
    have z3 := wf_u16 h5
    have e : Try.prog.cellsOf 44 = 3 := by kernel_rfl
    have e1 : Try.prog.cellsOf 9 = 1 := by kernel_rfl
    have e2 : Try.prog.cellsOf 42 = 1 := by kernel_rfl
    obtain ⟨a, b, c⟩ := p
    obtain ⟨b, rfl⟩ := Int.eq_ofNat_of_zero_le z2.1
    obtain ⟨c, rfl⟩ := Int.eq_ofNat_of_zero_le z3.1
    rw [e] at hl
    simp only [e1] at h0
    simp only [e2] at h2 h4
    refine ⟨(a, b, c), ⟨hs, (by have := z2.2; simp only at this; show b < 65536; omega), (by have := z3.2; simp only at this; show c < 65536; omega)⟩, ?_⟩
    match cs, hl with
    | [x, y, z], _ => simp at h0 h2 h4; rw [h0, h2, h4]
theorem parts_opens {H : Type} {enc : TypeId × Value → H} {w : World} {base : Nat} {spare : Nat → Bool} {held : Bool} :
    Opens enc Try.prog w base spare held 41 fun (l : List PartT) cs => ∃ A len cap, cs = [.slice A len cap] ∧ len ≤ cap ∧ cap ≤ maxLen ∧ len * Try.prog.bytesOf 44 ≤ 140737488351232 ∧ RowSays w (Try.prog.cellsOf 44) (fun p cs => (p.1.size ≤ 140737488351232 ∧ p.2.1 < 65536 ∧ p.2.2 < 65536) ∧ cs = [.string p.1, .int .u16 p.2.1, .int .u16 p.2.2]) A len l :=
  opens_slice Try.underlying41 (by decide +kernel) part_opens
theorem lz_parts_walk (A : Option Addr) (len cap : Nat) (l : List PartT) (a1 a2 : Int) (W : World) (_ : len ≤ cap) (hb : len * Try.prog.bytesOf 44 ≤ 140737488351232)
    (hl : RowSays W (Try.prog.cellsOf 44) (fun p cs => (p.1.size ≤ 140737488351232 ∧ p.2.1 < 65536 ∧ p.2.2 < 65536) ∧ cs = [.string p.1, .int .u16 p.2.1, .int .u16 p.2.2]) A len l) (h1 : (Lit.int .u16 a1).wf = true) (h2 : (Lit.int .u8 a2).wf = true) :
    Calls Try.prog 6 #[.slice A len cap, .int .u16 a1, .int .u8 a2] W fun e w' => e = .returned (.bool true) ∧ Below W.heap.size W w' := by
  have z1 := wf_u16 h1
  have z2 := wf_u8 h2
  obtain ⟨n, rfl⟩ := Int.eq_ofNat_of_zero_le z1.1
  obtain ⟨m, rfl⟩ := Int.eq_ofNat_of_zero_le z2.1
  have e : Try.prog.bytesOf 44 = 24 := by kernel_rfl
  have e1 : Try.prog.cellsOf 44 = 3 := by kernel_rfl
  rw [e] at hb
  rw [e1] at hl
  refine lz_parts_law A len cap n m l W ⟨hl.1, fun p hp => ?_, fun h => ?_⟩ (by omega) (by omega) (by omega)
  · obtain ⟨j, hj, rfl⟩ := List.getElem_of_mem hp
    obtain ⟨b, off, a, c, _, _, h2, _, h3, _⟩ := hl.get j (by rw [← hl.1]; exact hj)
    rw [List.getElem?_eq_getElem hj] at h2
    obtain rfl : l[j] = a := by simpa using h2
    exact h3.1
  · obtain ⟨b, off, rfl, hlt, hc⟩ := hl.2 h
    refine ⟨b, off, rfl, hlt, fun j hj => ?_⟩
    obtain ⟨c, _, ⟨_, rfl⟩, h4⟩ := hc j hj
    exact ⟨h4 0 _ rfl, h4 1 _ rfl, h4 2 _ rfl⟩
end Go.Proofs.Ythooihkkghfhkaa.My
