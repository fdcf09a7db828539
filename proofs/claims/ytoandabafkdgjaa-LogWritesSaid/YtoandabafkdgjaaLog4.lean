/- log.all: all bytes of a disk. -/
import Derived.Test.YtoandabafkdgjaaLog3
import Derived.Test.YtoandabafkdgjaaBuild2
import Derived.Test.YtoandabafkdgjaaDisk3
import Derived.Test.YtoandabafkdgjaaShelf
namespace Go.Proofs.Ytoandabafkdgjaa.My
set_option linter.unusedSimpArgs false
set_option linter.unusedVariables false
open Go.RowKit Go.Proofs.YtoandabafkdgjaaW.PrintWords Go.Proofs.YtoandabafkdgjaaW.PrintLast Go.Proofs.Ytoandabafkdgjaa.Pm

theorem hereS_len {sure : List ByteArray} (h : ∀ s ∈ sure, s.size = 0 ∨ s.size = 64) {i : Nat} (hi : i < sure.length) : (hereS sure i).size = 64 := by
  unfold hereS
  rw [List.getD_eq_getElem?_getD, List.getElem?_eq_getElem hi, Option.getD_some]
  split
  · exact nought_size
  · rename_i h0
    exact (h _ (List.getElem_mem hi)).resolve_left h0
theorem bdr_string (w : World) (b base : Nat) (v : Value) (l : List UInt8) (k : Bdr w b base v l) (hbw : base ≤ w.heap.size) :
    Calls Try.prog 46 #[.pointer (some ⟨b, 0, none⟩)] w fun e w' => e = .returned (.string ⟨l.toArray⟩) ∧ Below base w w' := by
  obtain ⟨⟨p, k, hp⟩, ho, hb⟩ := k
  have hbc : Lib.byteCells l = nums .u8 (nb l) := by simp [Lib.byteCells, nums, nb]
  have hlen : (Lib.byteCells l).length = l.length := by simp [Lib.byteCells]
  have hne : v.ownBlock ≠ some b := fun e => ho.ne k (by decide) e.symm
  have hat : ∀ q, q = p → Lib.BuilderAt 90 5 base b (.pointer q) (Lib.byteCells l) w := fun q e => ⟨hb, v, by rw [e]; exact k, by rw [hlen, hbc]; exact ho, hne⟩
  refine Try.Builder_String_any base b l w ?_ hbw
  rcases hp with ⟨e, -⟩ | e
  · exact .inl (hat none e.symm)
  · exact .inr (hat _ e.symm)
/-- The bytes of the first sectors. -/
def allL (d : DkS) : Nat → List UInt8
  | 0 => []
  | n + 1 => allL d n ++ bl (readS d n)
theorem lastW_size {d : DkS} (h : d.Ok) {i : Nat} (hi : i < d.sure.length) : (readS d i).size = 64 := by
  unfold readS lastW
  cases hf : d.waits.reverse.find? (fun p => p.1 == i) with
  | none => exact hereS_len h.size hi
  | some p =>
    have := List.mem_of_find?_eq_some hf
    exact (h.wait p (List.mem_reverse.1 this)).2
theorem allL_len {d : DkS} (h : d.Ok) : ∀ n, n ≤ d.sure.length → (allL d n).length = 64 * n
  | 0, _ => rfl
  | n + 1, hn => by rw [allL, List.length_append, allL_len h n (by omega), bl_length, lastW_size h (by omega)]; omega
set_option maxRecDepth 100000 in
set_option maxHeartbeats 8000000 in
theorem all_any {w : World} {base h : Nat} {V W : Value} {d : DkS} (k : Dk w base h V W d) (ho : d.Ok) (hg : d.gone = false) (hl : d.waits.length ≤ 1000000) :
    Calls Try.prog 35 #[.pointer (some ⟨h, 0, none⟩)] w fun e w' => e = .returned (.tuple #[.string ⟨(allL d d.sure.length).toArray⟩, .int .i64 0]) ∧ Below w.heap.size w w' := by
  obtain ⟨N, hN⟩ : ∃ N, d.sure.length = N := ⟨_, rfl⟩
  have hN4 : N ≤ 4096 := by rw [← hN]; exact ho.len
  have SC := Lib.hid (fun (w' : World) (hb : Below w.heap.size w w') => dk_sectors (k.below hb))
  have RD := Lib.hid (fun (w' : World) (hb : Below w.heap.size w w') (i : Nat) (hi : i < N) => dk_read (k.below hb) ho i (by unfold mayS; rw [if_neg (by rw [hg]; decide), if_neg (by rw [hN]; omega)]) hl)
  have AL := Lib.hid (fun n (h : n ≤ N) => allL_len ho n (by rw [hN]; exact h))
  have RS := Lib.hid (fun i (h : i < N) => lastW_size ho (i := i) (by rw [hN]; exact h))
  rw [hN] at SC ⊢
  clear k ho hg hl hN
  have HB := Lib.hid (below_alloc (Below.refl w.heap.size w) (.cells #[.pointer none, .slice none 0 0] 90))
  have hk := blk_new w (.cells #[.pointer none, .slice none 0 0] 90)
  have HD := Lib.hid (show Bdr (w.alloc (.cells #[.pointer none, .slice none 0 0] 90)) w.heap.size w.heap.size (.slice none 0 0) [] from ⟨⟨none, hk, .inl ⟨rfl, rfl⟩⟩, Byt.none_ _ _, Nat.le_refl _⟩)
  clear hk
  go_enter Try.func35, Try.ntmps35
  go_wp2_with fail
  refine (SC.out _ HB.out).mono ?_
  rintro e wq ⟨rfl, rfl⟩
  generalize w.alloc (.cells #[.pointer none, .slice none 0 0] 90) = w0 at *
  go_wp2
  go_loopw [10] (fun v10 wr => ∃ (i : Nat) (v : Value), v10 = .int .i64 i ∧ i ≤ N ∧ Hid (Bdr wr w.heap.size w.heap.size v (allL d i)) ∧ Hid (Below w.heap.size w wr)) (fun v10 _ => N - (intOf v10).toNat)
  case atStart => exact ⟨0, _, rfl, Nat.zero_le _, HD, HB⟩
  case round =>
    clear HD HB
    obtain ⟨i, v, rfl, hi, HD, HB⟩ := hrel
    by_cases hlt : i < N
    · have x1 : decide ((i : Int) < (N : Int)) = true := by simp; omega
      have x1n : decide (i < N) = true := by simp; omega
      have RI := Lib.hid (fun w' hb => RD.out w' hb i hlt)
      have HA := Lib.hid (show allL d (i + 1) = allL d i ++ bl (readS d i) from rfl)
      have hsz := RS.out i hlt
      have hal := AL.out i hi
      have HW := Lib.hid (succ_w hlt (show N ≤ 140737488351232 by omega))
      have HSZ := Lib.hid (show (allL d i).length + (readS d i).size ≤ 140737488355328 by omega)
      clear hsz hal
      generalize readS d i = s at *
      go_wp2_with fail
      refine (RI.out _ HB.out).mono ?_
      rintro e w5 ⟨rfl, hb⟩
      replace HD := Lib.hid (HD.out.below hb)
      replace HB := Lib.hid (HB.out.trans (hb.mono HB.out.size))
      clear hb RI x1 x1n
      go_wp2_with fail
      refine (bdr_write _ w.heap.size w.heap.size v _ s HD.out HB.out.size HSZ.out).mono ?_
      rintro e w6 ⟨⟨v0, rfl⟩, v2, hd, hb⟩
      replace HD := Lib.hid hd
      replace HB := Lib.hid (HB.out.trans hb)
      clear hd hb
      have hw := HW.out
      go_wp2
      go_roundw
      case rel => exact ⟨i + 1, v2, by go_num, hlt, by rw [HA.out]; exact HD, HB⟩
      case measure => first | exact up_w hlt hw | exact up_w2 hlt
    · have x1 : decide ((i : Int) < (N : Int)) = false := by simp; omega
      have x1n : decide (i < N) = false := by simp; omega
      have HIN := Lib.hid (show allL d N = allL d i by rw [show i = N by omega])
      go_wp2_with fail
      refine (bdr_string _ w.heap.size w.heap.size v _ HD.out HB.out.size).mono ?_
      rintro e w6 ⟨rfl, hb⟩
      replace HB := Lib.hid (HB.out.trans hb)
      go_wp2
      go_ret2
      rw [HIN.out]
      exact ⟨rfl, HB.out⟩
end Go.Proofs.Ytoandabafkdgjaa.My
