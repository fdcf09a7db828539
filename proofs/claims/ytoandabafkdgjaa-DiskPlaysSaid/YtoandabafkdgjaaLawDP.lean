/- The law DiskPlays walked: each answer, and all sectors in the end, are the chapter's. -/
import Derived.Test.YtoandabafkdgjaaRDo
import Derived.Test.YtoandabafkdgjaaLawDisk
import Derived.Test.YtoandabafkdgjaaOpens
namespace Go.Proofs.Ytoandabafkdgjaa.My
set_option linter.unusedSimpArgs false
set_option linter.unusedVariables false
open Go.RowKit Go.Proofs.YtoandabafkdgjaaW.PrintWords Go.Proofs.YtoandabafkdgjaaW.PrintLast Go.Proofs.Ytoandabafkdgjaa.Pm

theorem do_k0 (d : DkS) (kd : Nat) (i n : Int) (b : ByteArray) (fl : List UInt8) (hk : kd % 5 = 0) : doE d kd i b = (⟨#[]⟩, writeE d i b) ∧ doS d kd i n b fl = if writeE d i b = 0 then writeS d i.toNat b else d := ⟨by unfold doE; simp [hk], by unfold doS; simp [hk]⟩
theorem do_k1 (d : DkS) (kd : Nat) (i n : Int) (b : ByteArray) (fl : List UInt8) (hk : kd % 5 = 1) : doE d kd i b = (if mayS d i = 0 then (readS d i.toNat, 0) else (⟨#[]⟩, mayS d i)) ∧ doS d kd i n b fl = d := ⟨by unfold doE; simp [hk], by unfold doS; simp [hk]⟩
theorem do_k2 (d : DkS) (kd : Nat) (i n : Int) (b : ByteArray) (fl : List UInt8) (hk : kd % 5 = 2) : doE d kd i b = (⟨#[]⟩, if d.gone = true then 6 else 0) ∧ doS d kd i n b fl = if d.gone = true then d else syncS d := ⟨by unfold doE; simp [hk], by unfold doS; simp [hk]⟩
theorem do_k3 (d : DkS) (kd : Nat) (i n : Int) (b : ByteArray) (fl : List UInt8) (hk : kd % 5 = 3) : doE d kd i b = (⟨#[]⟩, 0) ∧ doS d kd i n b fl = fuseS d n := ⟨by unfold doE; simp [hk], by unfold doS; simp [hk]⟩
theorem do_k4 (d : DkS) (kd : Nat) (i n : Int) (b : ByteArray) (fl : List UInt8) (hk : kd % 5 = 4) : doE d kd i b = (⟨#[]⟩, 0) ∧ doS d kd i n b fl = crashS d fl := ⟨by unfold doE; simp [hk], by unfold doS; simp [hk]⟩
section
variable {w : World} {base h : Nat} {V W : Value} {d : DkS}
/-- What the disk's call leaves. -/
def AfterD (w : World) (base h : Nat) (V W : Value) (d : DkS) (w' : World) : Prop := (∃ W', Dk w' base h V W' d) ∧ Below base w w' ∧ Keeps (OwnD h V W) w w'
theorem AfterD.same (k : Dk w base h V W d) {w' : World} (hbw : base ≤ w.heap.size) (hb : Below w.heap.size w w') : AfterD w base h V W d w' := ⟨⟨W, k.below hb⟩, hb.mono hbw, Keeps.of_below _ hb⟩
theorem da_write (k : Dk w base h V W d) (ho : d.Ok) (kd : Nat) (hk : kd % 5 = 0) (i n : Int) (b : ByteArray) (fl : List UInt8) (hl : d.waits.length ≤ 1000000) (hbw : base ≤ w.heap.size) :
    Calls Try.prog 10 #[.pointer (some ⟨h, 0, none⟩), .int .i64 i, .string b] w fun e w' => e = .returned (.int .i64 (doE d kd i b).2) ∧ (doE d kd i b).1 = ⟨#[]⟩ ∧ AfterD w base h V W (doS d kd i n b fl) w' := by
  rw [(do_k0 d kd i n b fl hk).1, (do_k0 d kd i n b fl hk).2]
  by_cases h0 : writeE d i b = 0
  · rw [if_pos h0, h0]
    have hm : mayS d i = 0 := by unfold writeE at h0; split at h0 <;> simp_all
    have hb64 : b.size = 64 := by unfold writeE at h0; rw [if_neg (by rw [hm]; simp)] at h0; split at h0 <;> simp_all
    obtain ⟨-, j, rfl, hj⟩ := mayS_ok hm
    rw [Int.toNat_natCast]
    exact (dk_writeK k ho j b hm hb64 hl hbw).mono fun e w' ⟨he, h1, h2, h3⟩ => ⟨he, rfl, h1, h2, h3⟩
  · rw [if_neg h0]
    exact (dk_write_bad k i b h0).mono fun e w' ⟨he, hw⟩ => ⟨he, rfl, by subst hw; exact AfterD.same k hbw (Below.refl _ _)⟩
theorem da_read (k : Dk w base h V W d) (ho : d.Ok) (kd : Nat) (hk : kd % 5 = 1) (i n : Int) (b : ByteArray) (fl : List UInt8) (hl : d.waits.length ≤ 1000000) (hbw : base ≤ w.heap.size) :
    Calls Try.prog 14 #[.pointer (some ⟨h, 0, none⟩), .int .i64 i] w fun e w' => e = .returned (.tuple #[.string (doE d kd i b).1, .int .i64 (doE d kd i b).2]) ∧ AfterD w base h V W (doS d kd i n b fl) w' := by
  rw [(do_k1 d kd i n b fl hk).1, (do_k1 d kd i n b fl hk).2]
  by_cases hm : mayS d i = 0
  · rw [if_pos hm]
    obtain ⟨-, j, rfl, hj⟩ := mayS_ok hm
    rw [Int.toNat_natCast]
    exact (dk_read k ho j hm hl).mono fun e w' ⟨he, hb⟩ => ⟨he, AfterD.same k hbw hb⟩
  · rw [if_neg hm]
    exact (dk_read_bad k i hm).mono fun e w' ⟨he, hb⟩ => ⟨he, AfterD.same k hbw hb⟩
theorem da_sync (k : Dk w base h V W d) (ho : d.Ok) (kd : Nat) (hk : kd % 5 = 2) (i n : Int) (b : ByteArray) (fl : List UInt8) (hl : d.waits.length ≤ 1000000) (hbw : base ≤ w.heap.size) :
    Calls Try.prog 12 #[.pointer (some ⟨h, 0, none⟩)] w fun e w' => e = .returned (.int .i64 (doE d kd i b).2) ∧ (doE d kd i b).1 = ⟨#[]⟩ ∧ AfterD w base h V W (doS d kd i n b fl) w' := by
  rw [(do_k2 d kd i n b fl hk).1, (do_k2 d kd i n b fl hk).2]
  by_cases hg : d.gone = true
  · rw [if_pos hg, if_pos hg]
    exact (dk_sync_lost k hg).mono fun e w' ⟨he, hw⟩ => ⟨he, rfl, by subst hw; exact AfterD.same k hbw (Below.refl _ _)⟩
  · rw [if_neg hg, if_neg hg]
    exact (dk_syncK k ho (by simpa using hg) hl hbw).mono fun e w' ⟨he, h1, h2, h3⟩ => ⟨he, rfl, ⟨_, h1⟩, h2, h3⟩
theorem da_fuse (k : Dk w base h V W d) (kd : Nat) (hk : kd % 5 = 3) (i n : Int) (b : ByteArray) (fl : List UInt8) :
    Calls Try.prog 17 #[.pointer (some ⟨h, 0, none⟩), .int .i64 n] w fun e w' => e = .returned (.tuple #[]) ∧ doE d kd i b = (⟨#[]⟩, 0) ∧ AfterD w base h V W (doS d kd i n b fl) w' := by
  rw [(do_k3 d kd i n b fl hk).1, (do_k3 d kd i n b fl hk).2]
  exact (dk_fuseK k n).mono fun e w' ⟨he, h1, h2, h3⟩ => ⟨he, rfl, ⟨_, h1⟩, h2, h3⟩
theorem da_crash (k : Dk w base h V W d) (ho : d.Ok) (kd : Nat) (hk : kd % 5 = 4) (i n : Int) (b : ByteArray) (AF : Option Addr) (m c : Nat) (fl : List UInt8) (hF : Fts w base AF fl) (hm : fl.length = m) (hl : d.waits.length ≤ 1000000) (hbw : base ≤ w.heap.size) :
    Calls Try.prog 13 #[.pointer (some ⟨h, 0, none⟩), .slice AF m c] w fun e w' => e = .returned (.tuple #[]) ∧ doE d kd i b = (⟨#[]⟩, 0) ∧ AfterD w base h V W (doS d kd i n b fl) w' := by
  rw [(do_k4 d kd i n b fl hk).1, (do_k4 d kd i n b fl hk).2]
  exact (dk_crashK k ho AF m c fl hF hm hl hbw).mono fun e w' ⟨he, h1, h2, h3⟩ => ⟨he, rfl, ⟨_, h1⟩, h2, h3⟩
end
theorem doS_len (d : DkS) (kd : Nat) (i n : Int) (b : ByteArray) (fl : List UInt8) (ho : d.Ok) : (doS d kd i n b fl).waits.length ≤ d.waits.length + 1 ∧ (doS d kd i n b fl).sure.length = d.sure.length := by
  unfold doS
  split
  · split
    · exact ⟨by simp [writeS], rfl⟩
    · exact ⟨by omega, rfl⟩
  · split
    · exact ⟨by omega, rfl⟩
    · split
      · split
        · exact ⟨by omega, rfl⟩
        · exact ⟨by simp [syncS], syncL_len _ _⟩
      · split
        · unfold fuseS; split <;> exact ⟨by simp, rfl⟩
        · exact ⟨by simp [crashS], (crashN_ok ho fl _ (Nat.le_refl _)).1⟩
/-- A call that came in. -/
structure OpD where
  kd : Nat
  i : Int
  n : Int
  b : ByteArray
  fl : List UInt8
  AF : Option Addr
  m : Nat
  c : Nat
def ArgD (w : World) (A : Option Addr) (len : Nat) (ps : List OpD) : Prop :=
  ps.length = len ∧ (0 < len → ∃ b off, A = some ⟨b, off, none⟩ ∧ b < w.heap.size ∧ ∀ j (h : j < ps.length), w.rangeAt b (off + j * 5) [.int .u8 (ps[j]'h).kd, .int .i64 (ps[j]'h).i, .int .i64 (ps[j]'h).n, .string (ps[j]'h).b, .slice (ps[j]'h).AF (ps[j]'h).m (ps[j]'h).c]) ∧
    ∀ p ∈ ps, p.n ≤ 9223372036854775807 ∧ p.fl.length = p.m ∧ FtsA w w.heap.size p.AF p.fl
set_option maxRecDepth 100000 in
set_option maxHeartbeats 4000000 in
theorem few7 (A : Option Addr) (len cap : Nat) (ps : List OpD) (w0 w : World) (hA : ArgD w0 A len ps) (hb0 : Below w0.heap.size w0 w) (hlen : len ≤ 140737488351232) :
    Calls Try.prog 15 #[.slice A len cap, .int .i64 120] w fun e w' => ∃ r : Bool, e = .returned (.bool r) ∧ (r = true → len ≤ 120) ∧ Below w.heap.size w w' := by
  have HB := Lib.hid (Below.refl w.heap.size w)
  have HA := Lib.hid hA; clear hA
  have HB0 := Lib.hid hb0; clear hb0
  go_enter Try.func15, Try.ntmps15
  go_wp2
  go_loopw [5] (fun v5 wr => ∃ i : Nat, v5 = .int .i64 i ∧ i ≤ len ∧ i ≤ 300 ∧ Hid (Below w.heap.size w wr)) (fun v5 _ => len - (intOf v5).toNat)
  case atStart => exact ⟨0, rfl, Nat.zero_le _, by decide, HB⟩
  case round =>
    clear HB
    obtain ⟨i, rfl, hi, hi3, HB⟩ := hrel
    by_cases hlt : i < len
    · have x1 : decide ((i : Int) < (len : Int)) = true := by simp; omega
      have x1n : decide (i < len) = true := by simp; omega
      by_cases h3 : i < 300
      · have x2 : decide ((i : Int) < 300) = true := by simp; omega
        have hil : i < ps.length := by rw [HA.out.1]; exact hlt
        obtain ⟨b0, off, rfl, hbl, hc⟩ := HA.out.2.1 (by omega)
        have hc := hc i hil
        generalize ps[i] = p at *
        have hbl2 : b0 < w.heap.size := Nat.lt_of_lt_of_le hbl HB0.out.size
        have c3 : World.cell? _ ⟨b0, off + i * 5 + 3, none⟩ = some (.string p.b) := (HB.out.cell (p := ⟨b0, off + i * 5 + 3, none⟩) hbl2).trans ((HB0.out.cell (p := ⟨b0, off + i * 5 + 3, none⟩) hbl).trans (hc 3 _ rfl))
        have c4 : World.cell? _ ⟨b0, off + i * 5 + 4, none⟩ = some (.slice p.AF p.m p.c) := (HB.out.cell (p := ⟨b0, off + i * 5 + 4, none⟩) hbl2).trans ((HB0.out.cell (p := ⟨b0, off + i * 5 + 4, none⟩) hbl).trans (hc 4 _ rfl))
        have hw := succ_w hlt hlen
        have HW := Lib.hid hw; clear hw hc hbl hbl2
        by_cases h4 : 200 < p.b.size
        · have x4 : decide ((200 : Int) < (p.b.size : Int)) = true := by simp; omega
          go_wp2
          go_ret
          exact ⟨false, rfl, (fun h => by cases h), HB.out⟩
        · have x4 : decide ((200 : Int) < (p.b.size : Int)) = false := by simp; omega
          by_cases h5 : 200 < p.m
          · have x5 : decide ((200 : Int) < (p.m : Int)) = true := by simp; omega
            go_wp2
            go_ret
            exact ⟨false, rfl, (fun h => by cases h), HB.out⟩
          · have x5 : decide ((200 : Int) < (p.m : Int)) = false := by simp; omega
            have hw := HW.out
            go_wp2
            go_roundw
            case rel => exact ⟨i + 1, by go_num, hlt, h3, HB⟩
            case measure => first | exact up_w hlt hw | exact up_w2 hlt
      · have x2 : decide ((i : Int) < 300) = false := by simp; omega
        go_wp2
        go_ret
        exact ⟨_, rfl, fun h => by simp at h; omega, HB.out⟩
    · have x1 : decide ((i : Int) < (len : Int)) = false := by simp; omega
      have x1n : decide (i < len) = false := by simp; omega
      go_wp2
      go_ret
      exact ⟨_, rfl, fun h => by simp at h; omega, HB.out⟩
theorem inv_new (n : Int) : Inv (newS n) (List.replicate (64 * newN n) 0) (List.replicate (64 * newN n) 0) (-1) := by
  have hl : (newS n).sure.length = newN n := List.length_replicate
  have hh : ∀ j, hereS (newS n).sure j = nought := fun j => by
    unfold hereS newS
    simp only
    rw [if_pos]
    rw [List.getD_eq_getElem?_getD, List.getElem?_replicate]
    split <;> rfl
  have hr : ∀ j, readS (newS n) j = nought := fun j => (show readS (newS n) j = hereS (newS n).sure j from rfl).trans (hh j)
  exact ⟨newS_ok n, rfl, rfl, by rw [hl]; exact (sec_new _).congr fun j _ => (hh j).symm, by rw [hl]; exact (sec_new _).congr fun j _ => (hr j).symm⟩
end Go.Proofs.Ytoandabafkdgjaa.My
