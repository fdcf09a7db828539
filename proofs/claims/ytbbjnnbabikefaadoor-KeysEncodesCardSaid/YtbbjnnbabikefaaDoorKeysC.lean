/- keys.plain: the item that bytes begin with. -/
import Derived.Test.YtbbjnnbabikefaaDoorKeysB
namespace Go.Proofs.YtbbjnnbabikefaaDoor.My
set_option linter.unusedSimpArgs false
set_option linter.unusedVariables false
open Go.RowKit Go.Proofs.YtbbjnnbabikefaaDoorW.PrintWords Go.Proofs.YtbbjnnbabikefaaDoorW.PrintLast Go.Proofs.YtbbjnnbabikefaaDoor.Pm

def plainL : List UInt8 → Option (PIt × Nat)
  | [] => none
  | c :: r => if c = 16 then some (.nul, 1) else if c = 32 then some (.boo false, 1) else if c = 33 then some (.boo true, 1)
    else if c = 48 then (if 8 ≤ r.length then some (.i64 ((valBE (r.take 8) : Int) - 9223372036854775808), 9) else none)
    else if c = 64 then (if 8 ≤ r.length then some (.u64 (valBE (r.take 8)), 9) else none)
    else if c = 80 then (textL r).map (fun p => (.str ⟨p.1.toArray⟩, p.2 + 1))
    else none
def plainV : Option (PIt × Nat) → Value
  | none => .tuple #[.nilIface, .int .i64 0]
  | some (p, n) => .tuple #[p.val, .int .i64 (n : Int)]
theorem fixed8_ok {S : ByteArray} (h : 8 ≤ S.size) : curFixed S false 8 true = (valBE ((bl S).take 8), S.extract 8 S.size, false) := by
  unfold curFixed curBytes
  rw [if_neg (by omega), if_neg (by simp; omega)]
  show (valBE (ordered (S.extract 0 8) true), S.extract 8 S.size, false) = _
  rw [show ordered (S.extract 0 8) true = (bl S).take 8 by
    show bl (S.extract 0 8) = _
    rw [bl_extract, List.drop_zero]]
theorem fixed8_bad {S : ByteArray} (h : S.size < 8) : curFixed S false 8 true = (0, S, true) := by
  unfold curFixed curBytes
  rw [if_neg (by omega), if_pos (by simp; omega)]
  rfl
theorem sign_back (n : Nat) (hn : n < 18446744073709551616) : wrap64 (Go.bits .xor .u64 (n : Int) 9223372036854775808) = (n : Int) - 9223372036854775808 := by
  have h := u64_xor_nat n (2 ^ 63) (by omega) (by decide)
  rw [show Go.bits .xor .u64 (n : Int) 9223372036854775808 = ((n ^^^ 2 ^ 63 : Nat) : Int) from h]
  by_cases hl : n < 2 ^ 63
  · rw [flip_low n hl]
    have e : wrap64 ((2 ^ 63 + n : Nat) : Int) = wrap64 (((2 ^ 63 + n : Nat) : Int) - 18446744073709551616) := by
      simp only [wrap64]
      omega
    rw [e]
    refine (wrap64_id (by omega) (by omega)).trans (by omega)
  · have e : n ^^^ 2 ^ 63 = n - 2 ^ 63 := by
      have h1 := flip_low (n - 2 ^ 63) (by omega)
      rw [show 2 ^ 63 + (n - 2 ^ 63) = n by omega] at h1
      rw [← h1, Nat.xor_assoc, Nat.xor_self, Nat.xor_zero]
      rw [h1]
    rw [e]
    refine (wrap64_id (by omega) (by omega)).trans (by omega)
theorem valBE8_lt (l : List UInt8) : valBE (l.take 8) < 18446744073709551616 := by
  have h := valBE_lt (l.take 8)
  have h2 : 256 ^ (l.take 8).length ≤ 256 ^ 8 := Nat.pow_le_pow_right (by decide) (by rw [List.length_take]; omega)
  have h3 : 256 ^ 8 = 18446744073709551616 := by decide
  omega
set_option maxRecDepth 100000 in
set_option maxHeartbeats 8000000 in
theorem plain_k16 (s : ByteArray) (c : UInt8) (r : List UInt8) (w : World) (hs : s.size ≤ 1000000) (hb : bl s = c :: r) (hc : c = 16) :
    Calls Tryd.prog 22 #[.string s] w fun e w' => e = .returned (plainV (plainL (bl s))) ∧ Below w.heap.size w w' := by
  have hsz : s.size = r.length + 1 := by rw [← bl_length, hb]; rfl
  have h0 : 0 < s.size := by omega
  have h1 : 1 ≤ s.size := by omega
  have hxx : ∀ h : 0 < s.size, s[0]'h = c := fun h => by
    have e : (bl s)[0]'(by rw [bl_length]; exact h) = c := by simp [hb]
    exact e
  have z16 : ((c.toNat : Int) == 16) = true := by rw [hc]; rfl
  have HF := Lib.hid (show plainL (bl s) = some (.nul, 1) by rw [hb, plainL]; simp [hc])
  clear hb hsz hc
  go_enter Tryd.func22, Tryd.ntmps22
  go_wp2_with fail
  refine (cur_made _ w).mono ?_
  rintro e w1 ⟨g, rfl, hg, hcu, hbel⟩
  have HG := Lib.hid hg; have HCU := Lib.hid hcu; have HB := Lib.hid hbel
  clear hg hcu hbel
  go_wp2
  first | go_ret2 | go_ret
  rw [HF.out]
  exact ⟨rfl, HB.out⟩
set_option maxRecDepth 100000 in
set_option maxHeartbeats 8000000 in
theorem plain_k32 (s : ByteArray) (c : UInt8) (r : List UInt8) (w : World) (hs : s.size ≤ 1000000) (hb : bl s = c :: r) (hc : c = 32) :
    Calls Tryd.prog 22 #[.string s] w fun e w' => e = .returned (plainV (plainL (bl s))) ∧ Below w.heap.size w w' := by
  have hsz : s.size = r.length + 1 := by rw [← bl_length, hb]; rfl
  have h0 : 0 < s.size := by omega
  have h1 : 1 ≤ s.size := by omega
  have hxx : ∀ h : 0 < s.size, s[0]'h = c := fun h => by
    have e : (bl s)[0]'(by rw [bl_length]; exact h) = c := by simp [hb]
    exact e
  have z16 : ((c.toNat : Int) == 16) = false := by simp; intro h; have := UInt8.toNat_inj.1 (show c.toNat = (16 : UInt8).toNat by show c.toNat = 16; omega); rw [hc] at this; exact absurd this (by decide)
  have z32 : ((c.toNat : Int) == 32) = true := by rw [hc]; rfl
  have z33 : ((c.toNat : Int) == 33) = false := by rw [hc]; rfl
  have HF := Lib.hid (show plainL (bl s) = some (.boo false, 1) by rw [hb, plainL]; simp [hc])
  clear hb hsz hc
  go_enter Tryd.func22, Tryd.ntmps22
  go_wp2_with fail
  refine (cur_made _ w).mono ?_
  rintro e w1 ⟨g, rfl, hg, hcu, hbel⟩
  have HG := Lib.hid hg; have HCU := Lib.hid hcu; have HB := Lib.hid hbel
  clear hg hcu hbel
  go_wp2
  first | go_ret2 | go_ret
  rw [HF.out]
  exact ⟨rfl, HB.out⟩
set_option maxRecDepth 100000 in
set_option maxHeartbeats 8000000 in
theorem plain_k33 (s : ByteArray) (c : UInt8) (r : List UInt8) (w : World) (hs : s.size ≤ 1000000) (hb : bl s = c :: r) (hc : c = 33) :
    Calls Tryd.prog 22 #[.string s] w fun e w' => e = .returned (plainV (plainL (bl s))) ∧ Below w.heap.size w w' := by
  have hsz : s.size = r.length + 1 := by rw [← bl_length, hb]; rfl
  have h0 : 0 < s.size := by omega
  have h1 : 1 ≤ s.size := by omega
  have hxx : ∀ h : 0 < s.size, s[0]'h = c := fun h => by
    have e : (bl s)[0]'(by rw [bl_length]; exact h) = c := by simp [hb]
    exact e
  have z16 : ((c.toNat : Int) == 16) = false := by simp; intro h; have := UInt8.toNat_inj.1 (show c.toNat = (16 : UInt8).toNat by show c.toNat = 16; omega); rw [hc] at this; exact absurd this (by decide)
  have z32 : ((c.toNat : Int) == 32) = false := by simp; intro h; have := UInt8.toNat_inj.1 (show c.toNat = (32 : UInt8).toNat by show c.toNat = 32; omega); rw [hc] at this; exact absurd this (by decide)
  have z33 : ((c.toNat : Int) == 33) = true := by rw [hc]; rfl
  have HF := Lib.hid (show plainL (bl s) = some (.boo true, 1) by rw [hb, plainL]; simp [hc])
  clear hb hsz hc
  go_enter Tryd.func22, Tryd.ntmps22
  go_wp2_with fail
  refine (cur_made _ w).mono ?_
  rintro e w1 ⟨g, rfl, hg, hcu, hbel⟩
  have HG := Lib.hid hg; have HCU := Lib.hid hcu; have HB := Lib.hid hbel
  clear hg hcu hbel
  go_wp2
  first | go_ret2 | go_ret
  rw [HF.out]
  exact ⟨rfl, HB.out⟩
set_option maxRecDepth 100000 in
set_option maxHeartbeats 8000000 in
theorem plain_kn (s : ByteArray) (c : UInt8) (r : List UInt8) (w : World) (hs : s.size ≤ 1000000) (hb : bl s = c :: r) (n16 : c ≠ 16) (n32 : c ≠ 32) (n33 : c ≠ 33) (n48 : c ≠ 48) (n64 : c ≠ 64) (n80 : c ≠ 80) :
    Calls Tryd.prog 22 #[.string s] w fun e w' => e = .returned (plainV (plainL (bl s))) ∧ Below w.heap.size w w' := by
  have hsz : s.size = r.length + 1 := by rw [← bl_length, hb]; rfl
  have h0 : 0 < s.size := by omega
  have h1 : 1 ≤ s.size := by omega
  have hxx : ∀ h : 0 < s.size, s[0]'h = c := fun h => by
    have e : (bl s)[0]'(by rw [bl_length]; exact h) = c := by simp [hb]
    exact e
  have z16 : ((c.toNat : Int) == 16) = false := by simp; intro h; have := UInt8.toNat_inj.1 (show c.toNat = (16 : UInt8).toNat by show c.toNat = 16; omega); exact n16 this
  have z32 : ((c.toNat : Int) == 32) = false := by simp; intro h; have := UInt8.toNat_inj.1 (show c.toNat = (32 : UInt8).toNat by show c.toNat = 32; omega); exact n32 this
  have z33 : ((c.toNat : Int) == 33) = false := by simp; intro h; have := UInt8.toNat_inj.1 (show c.toNat = (33 : UInt8).toNat by show c.toNat = 33; omega); exact n33 this
  have z48 : ((c.toNat : Int) == 48) = false := by simp; intro h; have := UInt8.toNat_inj.1 (show c.toNat = (48 : UInt8).toNat by show c.toNat = 48; omega); exact n48 this
  have z64 : ((c.toNat : Int) == 64) = false := by simp; intro h; have := UInt8.toNat_inj.1 (show c.toNat = (64 : UInt8).toNat by show c.toNat = 64; omega); exact n64 this
  have z80 : ((c.toNat : Int) == 80) = false := by simp; intro h; have := UInt8.toNat_inj.1 (show c.toNat = (80 : UInt8).toNat by show c.toNat = 80; omega); exact n80 this
  have HF := Lib.hid (show plainL (bl s) = none by rw [hb, plainL]; simp [n16, n32, n33, n48, n64, n80])
  clear hb hsz n16 n32 n33 n48 n64 n80
  go_enter Tryd.func22, Tryd.ntmps22
  go_wp2_with fail
  refine (cur_made _ w).mono ?_
  rintro e w1 ⟨g, rfl, hg, hcu, hbel⟩
  have HG := Lib.hid hg; have HCU := Lib.hid hcu; have HB := Lib.hid hbel
  clear hg hcu hbel
  go_wp2
  first | go_ret2 | go_ret
  rw [HF.out]
  exact ⟨rfl, HB.out⟩
set_option maxRecDepth 100000 in
set_option maxHeartbeats 8000000 in
theorem plain_k48y (s : ByteArray) (c : UInt8) (r : List UInt8) (w : World) (hs : s.size ≤ 1000000) (hb : bl s = c :: r) (hc : c = 48) (h8 : 8 ≤ r.length) :
    Calls Tryd.prog 22 #[.string s] w fun e w' => e = .returned (plainV (plainL (bl s))) ∧ Below w.heap.size w w' := by
  have hsz : s.size = r.length + 1 := by rw [← bl_length, hb]; rfl
  have h0 : 0 < s.size := by omega
  have h1 : 1 ≤ s.size := by omega
  have hxx : ∀ h : 0 < s.size, s[0]'h = c := fun h => by
    have e : (bl s)[0]'(by rw [bl_length]; exact h) = c := by simp [hb]
    exact e
  have z16 : ((c.toNat : Int) == 16) = false := by simp; intro h; have := UInt8.toNat_inj.1 (show c.toNat = (16 : UInt8).toNat by show c.toNat = 16; omega); rw [hc] at this; exact absurd this (by decide)
  have z32 : ((c.toNat : Int) == 32) = false := by simp; intro h; have := UInt8.toNat_inj.1 (show c.toNat = (32 : UInt8).toNat by show c.toNat = 32; omega); rw [hc] at this; exact absurd this (by decide)
  have z33 : ((c.toNat : Int) == 33) = false := by simp; intro h; have := UInt8.toNat_inj.1 (show c.toNat = (33 : UInt8).toNat by show c.toNat = 33; omega); rw [hc] at this; exact absurd this (by decide)
  have z48 : ((c.toNat : Int) == 48) = true := by rw [hc]; rfl
  have hrs : bl (s.extract 1 s.size) = r := by
    rw [bl_extract, List.take_of_length_le (by rw [bl_length]; exact Nat.le_refl _), hb]
    rfl
  have hrz : (s.extract 1 s.size).size = r.length := by rw [← bl_length, hrs]
  have hf := fixed8_ok (S := s.extract 1 s.size) (by rw [hrz]; exact h8)
  rw [hrs] at hf
  have hlt := valBE8_lt r
  have HF := Lib.hid (show plainL (bl s) = some (.i64 ((valBE (r.take 8) : Int) - 9223372036854775808), 9) by rw [hb, plainL]; simp [hc]; omega)
  have hsb := sign_back _ hlt
  generalize valBE (r.take 8) = n at *
  obtain ⟨z, hz⟩ : ∃ z, (n : Int) - 9223372036854775808 = z := ⟨_, rfl⟩
  rw [hz] at hsb HF
  clear hz
  have CF := Lib.hid (fun (W : World) (g : Nat) (h : IsCur W g (s.extract 1 s.size) false) => cur_fixed (s.extract 1 s.size) false 8 true g W h)
  rw [hf] at CF
  have CB := Lib.hid (fun (W : World) (g : Nat) (S : ByteArray) (b : Bool) (h : IsCur W g S b) => cur_bad S b g W h)
  clear hb hsz hc h8 hrs hrz hf
  clear hlt
  go_enter Tryd.func22, Tryd.ntmps22
  go_wp2_with fail
  refine (cur_made _ w).mono ?_
  rintro e w1 ⟨g, rfl, hg, hcu, hbel⟩
  have HG := Lib.hid hg; have HCU := Lib.hid hcu; have HB := Lib.hid hbel
  clear hg hcu hbel
  go_wp2_with fail
  refine (CF.out _ _ HCU.out).mono ?_
  rintro e w2 ⟨rfl, hcu, hk⟩
  replace HCU := Lib.hid hcu
  replace HB := Lib.hid (below_keeps HB.out hk HB.out.size (fun i hi => by cases hi; exact HG.out))
  clear hcu hk
  go_wp2_with fail
  refine (CB.out _ _ _ _ HCU.out).mono ?_
  rintro e w3 ⟨rfl, rfl⟩
  go_wp2
  first | go_ret2 | go_ret
  rw [HF.out]
  exact ⟨rfl, HB.out⟩
set_option maxRecDepth 100000 in
set_option maxHeartbeats 8000000 in
theorem plain_k48n (s : ByteArray) (c : UInt8) (r : List UInt8) (w : World) (hs : s.size ≤ 1000000) (hb : bl s = c :: r) (hc : c = 48) (h8 : ¬ 8 ≤ r.length) :
    Calls Tryd.prog 22 #[.string s] w fun e w' => e = .returned (plainV (plainL (bl s))) ∧ Below w.heap.size w w' := by
  have hsz : s.size = r.length + 1 := by rw [← bl_length, hb]; rfl
  have h0 : 0 < s.size := by omega
  have h1 : 1 ≤ s.size := by omega
  have hxx : ∀ h : 0 < s.size, s[0]'h = c := fun h => by
    have e : (bl s)[0]'(by rw [bl_length]; exact h) = c := by simp [hb]
    exact e
  have z16 : ((c.toNat : Int) == 16) = false := by simp; intro h; have := UInt8.toNat_inj.1 (show c.toNat = (16 : UInt8).toNat by show c.toNat = 16; omega); rw [hc] at this; exact absurd this (by decide)
  have z32 : ((c.toNat : Int) == 32) = false := by simp; intro h; have := UInt8.toNat_inj.1 (show c.toNat = (32 : UInt8).toNat by show c.toNat = 32; omega); rw [hc] at this; exact absurd this (by decide)
  have z33 : ((c.toNat : Int) == 33) = false := by simp; intro h; have := UInt8.toNat_inj.1 (show c.toNat = (33 : UInt8).toNat by show c.toNat = 33; omega); rw [hc] at this; exact absurd this (by decide)
  have z48 : ((c.toNat : Int) == 48) = true := by rw [hc]; rfl
  have hrs : bl (s.extract 1 s.size) = r := by
    rw [bl_extract, List.take_of_length_le (by rw [bl_length]; exact Nat.le_refl _), hb]
    rfl
  have hrz : (s.extract 1 s.size).size = r.length := by rw [← bl_length, hrs]
  have hf := fixed8_bad (S := s.extract 1 s.size) (by rw [hrz]; omega)
  have HF := Lib.hid (show plainL (bl s) = none by rw [hb, plainL]; simp [hc]; omega)
  have CF := Lib.hid (fun (W : World) (g : Nat) (h : IsCur W g (s.extract 1 s.size) false) => cur_fixed (s.extract 1 s.size) false 8 true g W h)
  rw [hf] at CF
  have CB := Lib.hid (fun (W : World) (g : Nat) (S : ByteArray) (b : Bool) (h : IsCur W g S b) => cur_bad S b g W h)
  clear hb hsz hc h8 hrs hrz hf
  go_enter Tryd.func22, Tryd.ntmps22
  go_wp2_with fail
  refine (cur_made _ w).mono ?_
  rintro e w1 ⟨g, rfl, hg, hcu, hbel⟩
  have HG := Lib.hid hg; have HCU := Lib.hid hcu; have HB := Lib.hid hbel
  clear hg hcu hbel
  go_wp2_with fail
  refine (CF.out _ _ HCU.out).mono ?_
  rintro e w2 ⟨rfl, hcu, hk⟩
  replace HCU := Lib.hid hcu
  replace HB := Lib.hid (below_keeps HB.out hk HB.out.size (fun i hi => by cases hi; exact HG.out))
  clear hcu hk
  go_wp2_with fail
  refine (CB.out _ _ _ _ HCU.out).mono ?_
  rintro e w3 ⟨rfl, rfl⟩
  go_wp2
  first | go_ret2 | go_ret
  rw [HF.out]
  exact ⟨rfl, HB.out⟩
set_option maxRecDepth 100000 in
set_option maxHeartbeats 8000000 in
theorem plain_k64y (s : ByteArray) (c : UInt8) (r : List UInt8) (w : World) (hs : s.size ≤ 1000000) (hb : bl s = c :: r) (hc : c = 64) (h8 : 8 ≤ r.length) :
    Calls Tryd.prog 22 #[.string s] w fun e w' => e = .returned (plainV (plainL (bl s))) ∧ Below w.heap.size w w' := by
  have hsz : s.size = r.length + 1 := by rw [← bl_length, hb]; rfl
  have h0 : 0 < s.size := by omega
  have h1 : 1 ≤ s.size := by omega
  have hxx : ∀ h : 0 < s.size, s[0]'h = c := fun h => by
    have e : (bl s)[0]'(by rw [bl_length]; exact h) = c := by simp [hb]
    exact e
  have z16 : ((c.toNat : Int) == 16) = false := by simp; intro h; have := UInt8.toNat_inj.1 (show c.toNat = (16 : UInt8).toNat by show c.toNat = 16; omega); rw [hc] at this; exact absurd this (by decide)
  have z32 : ((c.toNat : Int) == 32) = false := by simp; intro h; have := UInt8.toNat_inj.1 (show c.toNat = (32 : UInt8).toNat by show c.toNat = 32; omega); rw [hc] at this; exact absurd this (by decide)
  have z33 : ((c.toNat : Int) == 33) = false := by simp; intro h; have := UInt8.toNat_inj.1 (show c.toNat = (33 : UInt8).toNat by show c.toNat = 33; omega); rw [hc] at this; exact absurd this (by decide)
  have z48 : ((c.toNat : Int) == 48) = false := by simp; intro h; have := UInt8.toNat_inj.1 (show c.toNat = (48 : UInt8).toNat by show c.toNat = 48; omega); rw [hc] at this; exact absurd this (by decide)
  have z64 : ((c.toNat : Int) == 64) = true := by rw [hc]; rfl
  have hrs : bl (s.extract 1 s.size) = r := by
    rw [bl_extract, List.take_of_length_le (by rw [bl_length]; exact Nat.le_refl _), hb]
    rfl
  have hrz : (s.extract 1 s.size).size = r.length := by rw [← bl_length, hrs]
  have hf := fixed8_ok (S := s.extract 1 s.size) (by rw [hrz]; exact h8)
  rw [hrs] at hf
  have hlt := valBE8_lt r
  have HF := Lib.hid (show plainL (bl s) = some (.u64 (valBE (r.take 8)), 9) by rw [hb, plainL]; simp [hc]; omega)
  generalize valBE (r.take 8) = n at *
  have CF := Lib.hid (fun (W : World) (g : Nat) (h : IsCur W g (s.extract 1 s.size) false) => cur_fixed (s.extract 1 s.size) false 8 true g W h)
  rw [hf] at CF
  have CB := Lib.hid (fun (W : World) (g : Nat) (S : ByteArray) (b : Bool) (h : IsCur W g S b) => cur_bad S b g W h)
  clear hb hsz hc h8 hrs hrz hf
  clear hlt
  go_enter Tryd.func22, Tryd.ntmps22
  go_wp2_with fail
  refine (cur_made _ w).mono ?_
  rintro e w1 ⟨g, rfl, hg, hcu, hbel⟩
  have HG := Lib.hid hg; have HCU := Lib.hid hcu; have HB := Lib.hid hbel
  clear hg hcu hbel
  go_wp2_with fail
  refine (CF.out _ _ HCU.out).mono ?_
  rintro e w2 ⟨rfl, hcu, hk⟩
  replace HCU := Lib.hid hcu
  replace HB := Lib.hid (below_keeps HB.out hk HB.out.size (fun i hi => by cases hi; exact HG.out))
  clear hcu hk
  go_wp2_with fail
  refine (CB.out _ _ _ _ HCU.out).mono ?_
  rintro e w3 ⟨rfl, rfl⟩
  go_wp2
  first | go_ret2 | go_ret
  rw [HF.out]
  exact ⟨rfl, HB.out⟩
set_option maxRecDepth 100000 in
set_option maxHeartbeats 8000000 in
theorem plain_k64n (s : ByteArray) (c : UInt8) (r : List UInt8) (w : World) (hs : s.size ≤ 1000000) (hb : bl s = c :: r) (hc : c = 64) (h8 : ¬ 8 ≤ r.length) :
    Calls Tryd.prog 22 #[.string s] w fun e w' => e = .returned (plainV (plainL (bl s))) ∧ Below w.heap.size w w' := by
  have hsz : s.size = r.length + 1 := by rw [← bl_length, hb]; rfl
  have h0 : 0 < s.size := by omega
  have h1 : 1 ≤ s.size := by omega
  have hxx : ∀ h : 0 < s.size, s[0]'h = c := fun h => by
    have e : (bl s)[0]'(by rw [bl_length]; exact h) = c := by simp [hb]
    exact e
  have z16 : ((c.toNat : Int) == 16) = false := by simp; intro h; have := UInt8.toNat_inj.1 (show c.toNat = (16 : UInt8).toNat by show c.toNat = 16; omega); rw [hc] at this; exact absurd this (by decide)
  have z32 : ((c.toNat : Int) == 32) = false := by simp; intro h; have := UInt8.toNat_inj.1 (show c.toNat = (32 : UInt8).toNat by show c.toNat = 32; omega); rw [hc] at this; exact absurd this (by decide)
  have z33 : ((c.toNat : Int) == 33) = false := by simp; intro h; have := UInt8.toNat_inj.1 (show c.toNat = (33 : UInt8).toNat by show c.toNat = 33; omega); rw [hc] at this; exact absurd this (by decide)
  have z48 : ((c.toNat : Int) == 48) = false := by simp; intro h; have := UInt8.toNat_inj.1 (show c.toNat = (48 : UInt8).toNat by show c.toNat = 48; omega); rw [hc] at this; exact absurd this (by decide)
  have z64 : ((c.toNat : Int) == 64) = true := by rw [hc]; rfl
  have hrs : bl (s.extract 1 s.size) = r := by
    rw [bl_extract, List.take_of_length_le (by rw [bl_length]; exact Nat.le_refl _), hb]
    rfl
  have hrz : (s.extract 1 s.size).size = r.length := by rw [← bl_length, hrs]
  have hf := fixed8_bad (S := s.extract 1 s.size) (by rw [hrz]; omega)
  have HF := Lib.hid (show plainL (bl s) = none by rw [hb, plainL]; simp [hc]; omega)
  have CF := Lib.hid (fun (W : World) (g : Nat) (h : IsCur W g (s.extract 1 s.size) false) => cur_fixed (s.extract 1 s.size) false 8 true g W h)
  rw [hf] at CF
  have CB := Lib.hid (fun (W : World) (g : Nat) (S : ByteArray) (b : Bool) (h : IsCur W g S b) => cur_bad S b g W h)
  clear hb hsz hc h8 hrs hrz hf
  go_enter Tryd.func22, Tryd.ntmps22
  go_wp2_with fail
  refine (cur_made _ w).mono ?_
  rintro e w1 ⟨g, rfl, hg, hcu, hbel⟩
  have HG := Lib.hid hg; have HCU := Lib.hid hcu; have HB := Lib.hid hbel
  clear hg hcu hbel
  go_wp2_with fail
  refine (CF.out _ _ HCU.out).mono ?_
  rintro e w2 ⟨rfl, hcu, hk⟩
  replace HCU := Lib.hid hcu
  replace HB := Lib.hid (below_keeps HB.out hk HB.out.size (fun i hi => by cases hi; exact HG.out))
  clear hcu hk
  go_wp2_with fail
  refine (CB.out _ _ _ _ HCU.out).mono ?_
  rintro e w3 ⟨rfl, rfl⟩
  go_wp2
  first | go_ret2 | go_ret
  rw [HF.out]
  exact ⟨rfl, HB.out⟩
set_option maxRecDepth 100000 in
set_option maxHeartbeats 8000000 in
theorem plain_k80y (s : ByteArray) (c : UInt8) (r : List UInt8) (w : World) (hs : s.size ≤ 1000000) (hb : bl s = c :: r) (hc : c = 80) (o : List UInt8) (n : Nat) (ht : textL r = some (o, n)) (hn : n ≤ 1000000) :
    Calls Tryd.prog 22 #[.string s] w fun e w' => e = .returned (plainV (plainL (bl s))) ∧ Below w.heap.size w w' := by
  have hsz : s.size = r.length + 1 := by rw [← bl_length, hb]; rfl
  have h0 : 0 < s.size := by omega
  have h1 : 1 ≤ s.size := by omega
  have hxx : ∀ h : 0 < s.size, s[0]'h = c := fun h => by
    have e : (bl s)[0]'(by rw [bl_length]; exact h) = c := by simp [hb]
    exact e
  have z16 : ((c.toNat : Int) == 16) = false := by simp; intro h; have := UInt8.toNat_inj.1 (show c.toNat = (16 : UInt8).toNat by show c.toNat = 16; omega); rw [hc] at this; exact absurd this (by decide)
  have z32 : ((c.toNat : Int) == 32) = false := by simp; intro h; have := UInt8.toNat_inj.1 (show c.toNat = (32 : UInt8).toNat by show c.toNat = 32; omega); rw [hc] at this; exact absurd this (by decide)
  have z33 : ((c.toNat : Int) == 33) = false := by simp; intro h; have := UInt8.toNat_inj.1 (show c.toNat = (33 : UInt8).toNat by show c.toNat = 33; omega); rw [hc] at this; exact absurd this (by decide)
  have z48 : ((c.toNat : Int) == 48) = false := by simp; intro h; have := UInt8.toNat_inj.1 (show c.toNat = (48 : UInt8).toNat by show c.toNat = 48; omega); rw [hc] at this; exact absurd this (by decide)
  have z64 : ((c.toNat : Int) == 64) = false := by simp; intro h; have := UInt8.toNat_inj.1 (show c.toNat = (64 : UInt8).toNat by show c.toNat = 64; omega); rw [hc] at this; exact absurd this (by decide)
  have z80 : ((c.toNat : Int) == 80) = true := by rw [hc]; rfl
  have hrs : bl (s.extract 1 s.size) = r := by
    rw [bl_extract, List.take_of_length_le (by rw [bl_length]; exact Nat.le_refl _), hb]
    rfl
  have TX := Lib.hid (fun w => text_any (s.extract 1 s.size) w (by rw [← bl_length, hrs]; omega))
  rw [hrs, ht] at TX
  have HF := Lib.hid (show plainL (bl s) = some (.str ⟨o.toArray⟩, n + 1) by rw [hb, plainL]; simp [hc, ht])
  have hge : decide (0 ≤ (n : Int)) = true := decide_eq_true (by omega)
  have hge2 : decide ((n : Int) < 0) = false := decide_eq_false (by omega)
  have hw := succ_w' (show n < 1000001 by omega) (by decide)
  have e1 : textV (some (o, n)) = .tuple #[.string ⟨o.toArray⟩, .int .i64 (n : Int)] := rfl
  rw [e1] at TX
  clear e1 hn
  clear hb hsz hc ht hrs
  go_enter Tryd.func22, Tryd.ntmps22
  go_wp2_with fail
  refine (cur_made _ w).mono ?_
  rintro e w1 ⟨g, rfl, hg, hcu, hbel⟩
  have HG := Lib.hid hg; have HCU := Lib.hid hcu; have HB := Lib.hid hbel
  clear hg hcu hbel
  go_wp2_with fail
  refine (TX.out _).mono ?_
  rintro e w2 ⟨rfl, hb⟩
  replace HB := Lib.hid (HB.out.trans (hb.mono HB.out.size)); clear hb
  go_wp2
  first | go_ret2 | go_ret
  rw [HF.out]
  refine ⟨?_, HB.out⟩
  show Ending.returned (.tuple #[.iface 9 (.string ⟨o.toArray⟩), .int .i64 (wrap64 ((n : Int) + 1))]) = _
  rw [hw]
  rfl
set_option maxRecDepth 100000 in
set_option maxHeartbeats 8000000 in
theorem plain_k80n (s : ByteArray) (c : UInt8) (r : List UInt8) (w : World) (hs : s.size ≤ 1000000) (hb : bl s = c :: r) (hc : c = 80) (ht : textL r = none) :
    Calls Tryd.prog 22 #[.string s] w fun e w' => e = .returned (plainV (plainL (bl s))) ∧ Below w.heap.size w w' := by
  have hsz : s.size = r.length + 1 := by rw [← bl_length, hb]; rfl
  have h0 : 0 < s.size := by omega
  have h1 : 1 ≤ s.size := by omega
  have hxx : ∀ h : 0 < s.size, s[0]'h = c := fun h => by
    have e : (bl s)[0]'(by rw [bl_length]; exact h) = c := by simp [hb]
    exact e
  have z16 : ((c.toNat : Int) == 16) = false := by simp; intro h; have := UInt8.toNat_inj.1 (show c.toNat = (16 : UInt8).toNat by show c.toNat = 16; omega); rw [hc] at this; exact absurd this (by decide)
  have z32 : ((c.toNat : Int) == 32) = false := by simp; intro h; have := UInt8.toNat_inj.1 (show c.toNat = (32 : UInt8).toNat by show c.toNat = 32; omega); rw [hc] at this; exact absurd this (by decide)
  have z33 : ((c.toNat : Int) == 33) = false := by simp; intro h; have := UInt8.toNat_inj.1 (show c.toNat = (33 : UInt8).toNat by show c.toNat = 33; omega); rw [hc] at this; exact absurd this (by decide)
  have z48 : ((c.toNat : Int) == 48) = false := by simp; intro h; have := UInt8.toNat_inj.1 (show c.toNat = (48 : UInt8).toNat by show c.toNat = 48; omega); rw [hc] at this; exact absurd this (by decide)
  have z64 : ((c.toNat : Int) == 64) = false := by simp; intro h; have := UInt8.toNat_inj.1 (show c.toNat = (64 : UInt8).toNat by show c.toNat = 64; omega); rw [hc] at this; exact absurd this (by decide)
  have z80 : ((c.toNat : Int) == 80) = true := by rw [hc]; rfl
  have hrs : bl (s.extract 1 s.size) = r := by
    rw [bl_extract, List.take_of_length_le (by rw [bl_length]; exact Nat.le_refl _), hb]
    rfl
  have TX := Lib.hid (fun w => text_any (s.extract 1 s.size) w (by rw [← bl_length, hrs]; omega))
  rw [hrs, ht] at TX
  have HF := Lib.hid (show plainL (bl s) = none by rw [hb, plainL]; simp [hc, ht])
  have e1 : textV none = .tuple #[.string ⟨#[]⟩, .int .i64 (-1)] := rfl
  rw [e1] at TX
  clear e1
  clear hb hsz hc ht hrs
  go_enter Tryd.func22, Tryd.ntmps22
  go_wp2_with fail
  refine (cur_made _ w).mono ?_
  rintro e w1 ⟨g, rfl, hg, hcu, hbel⟩
  have HG := Lib.hid hg; have HCU := Lib.hid hcu; have HB := Lib.hid hbel
  clear hg hcu hbel
  go_wp2_with fail
  refine (TX.out _).mono ?_
  rintro e w2 ⟨rfl, hb⟩
  replace HB := Lib.hid (HB.out.trans (hb.mono HB.out.size)); clear hb
  go_wp2
  first | go_ret2 | go_ret
  rw [HF.out]
  exact ⟨rfl, HB.out⟩
theorem textL_len : ∀ (k : Nat) (l : List UInt8), l.length ≤ k → ∀ o n, textL l = some (o, n) → n ≤ l.length ∧ 2 ≤ n ∧ o.length + 2 ≤ n
  | 0, [], _, o, n, h => by cases h
  | k + 1, l, hk, o, n, h => by
    match l, hk, h with
    | [], _, h => cases h
    | [_], _, h => cases h
    | b :: c :: q, hk, h =>
      simp only [List.length_cons] at hk
      rw [textL] at h
      split at h
      · obtain ⟨⟨o', n'⟩, h1, h2⟩ := Option.map_eq_some_iff.1 h
        have ih := textL_len k (c :: q) (by simp only [List.length_cons]; omega) o' n' h1
        simp only [Prod.mk.injEq] at h2
        obtain ⟨rfl, rfl⟩ := h2
        simp only [List.length_cons] at ih ⊢
        omega
      · split at h
        · simp only [Option.some.injEq, Prod.mk.injEq] at h
          obtain ⟨rfl, rfl⟩ := h
          simp only [List.length_cons, List.length_nil]
          omega
        · split at h
          · obtain ⟨⟨o', n'⟩, h1, h2⟩ := Option.map_eq_some_iff.1 h
            have ih := textL_len k q (by omega) o' n' h1
            simp only [Prod.mk.injEq] at h2
            obtain ⟨rfl, rfl⟩ := h2
            simp only [List.length_cons] at ih ⊢
            omega
          · cases h
theorem plain_any (s : ByteArray) (w : World) (hs : s.size ≤ 1000000) (h0 : bl s ≠ []) :
    Calls Tryd.prog 22 #[.string s] w fun e w' => e = .returned (plainV (plainL (bl s))) ∧ Below w.heap.size w w' := by
  obtain ⟨c, r, hb⟩ : ∃ c r, bl s = c :: r := by
    cases h : bl s with
    | nil => exact absurd h h0
    | cons c r => exact ⟨c, r, rfl⟩
  by_cases n16 : c = 16
  · exact plain_k16 s c r w hs hb n16
  by_cases n32 : c = 32
  · exact plain_k32 s c r w hs hb n32
  by_cases n33 : c = 33
  · exact plain_k33 s c r w hs hb n33
  by_cases n48 : c = 48
  · by_cases h8 : 8 ≤ r.length
    · exact plain_k48y s c r w hs hb n48 h8
    · exact plain_k48n s c r w hs hb n48 h8
  by_cases n64 : c = 64
  · by_cases h8 : 8 ≤ r.length
    · exact plain_k64y s c r w hs hb n64 h8
    · exact plain_k64n s c r w hs hb n64 h8
  by_cases n80 : c = 80
  · cases ht : textL r with
    | none => exact plain_k80n s c r w hs hb n80 ht
    | some p =>
      obtain ⟨o, n⟩ := p
      have hl := textL_len _ r (Nat.le_refl _) o n ht
      have hz : (bl s).length = r.length + 1 := by rw [hb]; rfl
      rw [bl_length] at hz
      exact plain_k80y s c r w hs hb n80 o n ht (by omega)
  exact plain_kn s c r w hs hb n16 n32 n33 n48 n64 n80
end Go.Proofs.YtbbjnnbabikefaaDoor.My
