/- isoglossref05.With; fields of tags that no version has. -/
import Derived.Test.YtemhmgpihkemjaaMrdC
import Derived.Test.YtemhmgpihkemjaaRText
import Derived.Test.YtemhmgpihkemjaaRef01
namespace Go.Proofs.Ytemhmgpihkemjaa.My
set_option linter.unusedSimpArgs false
set_option linter.unusedVariables false
open Go.RowKit Go.Proofs.YtemhmgpihkemjaaW.PrintWords Go.Proofs.YtemhmgpihkemjaaW.PrintLast Go.Proofs.Ytemhmgpihkemjaa.Pm

abbrev ExT := Nat × ByteArray
def exC (p : ExT) : List Value := [.int .u16 (p.1 : Int), .string p.2]
theorem exC_len (p : ExT) : (exC p).length = 2 := rfl
/-- The next tag. -/
def nxT (tag : Nat) (p : ExT) : Nat := tag + (1 + p.1 / 2 % 100)
def fxB (tag : Nat) (p : ExT) : ByteArray := uvS (2 * nxT tag p + p.1 % 2) ++ textS p.2
def withL : List ExT → Nat → ByteArray → Nat → Bool → ByteArray × Nat × Bool
  | [], _, b, n, c => (b, n, c)
  | p :: r, tag, b, n, c => withL r (nxT tag p) (b ++ fxB tag p) (n + 1) (c || decide (p.1 % 2 = 1))
def extB : List ExT → Nat → ByteArray
  | [], _ => ⟨#[]⟩
  | p :: r, tag => fxB tag p ++ extB r (nxT tag p)
def oddL (l : List ExT) : Bool := l.any fun p => decide (p.1 % 2 = 1)
theorem withL_is : ∀ (l : List ExT) (tag : Nat) (b : ByteArray) (n : Nat) (c : Bool), withL l tag b n c = (b ++ extB l tag, n + l.length, c || oddL l)
  | [], tag, b, n, c => by rw [withL, extB, ap_nil]; simp [oddL]
  | p :: r, tag, b, n, c => by
    rw [withL, withL_is r, extB, ByteArray.append_assoc, List.length_cons]
    simp only [oddL, List.any_cons, Bool.or_assoc, Nat.add_assoc, Nat.add_comm 1]
theorem fxB_size {tag : Nat} {p : ExT} (ht : tag ≤ 1000000) (hp : p.1 < 65536 ∧ p.2.size ≤ 50) : (fxB tag p).size ≤ 70 := by
  unfold fxB nxT
  rw [ByteArray.size_append]
  have h1 := uvS_le (n := 2 * (tag + (1 + p.1 / 2 % 100)) + p.1 % 2) (by omega)
  have h2 := textS_le (s := p.2) (by omega)
  omega
theorem extB_size : ∀ (l : List ExT) (tag : Nat), (∀ p ∈ l, p.1 < 65536 ∧ p.2.size ≤ 50) → tag + l.length * 100 ≤ 1000000 → (extB l tag).size ≤ l.length * 70
  | [], _, _, _ => Nat.le_refl _
  | p :: r, tag, h, ht => by
    rw [extB, ByteArray.size_append, List.length_cons]
    rw [List.length_cons] at ht
    have h1 := fxB_size (tag := tag) (by omega) (h p (List.mem_cons_self ..))
    have h2 := extB_size r (nxT tag p) (fun q hq => h q (List.mem_cons_of_mem _ hq)) (by unfold nxT; omega)
    omega
theorem ext_run {K : Nat} : ∀ (l : List ExT) (tag was : Nat) (r : RM), (∀ p ∈ l, p.1 < 65536 ∧ p.2.size ≤ 50) → tag + l.length * 100 ≤ 1000000 → was ≤ tag → K ≤ tag → r.bad = false →
    decW K (extB l tag) was r = (⟨#[]⟩, false, ⟨r.m, r.left + l.length, r.crit || oddL l, false⟩)
  | [], tag, was, r, _, _, _, _, hb => by
    rw [extB, decW_nil]
    obtain ⟨m, lf, cr, bad⟩ := r
    simp only at hb
    subst hb
    simp [oddL]
  | p :: q, tag, was, r, h, ht, hw, hK, hb => by
    have hp := h p (List.mem_cons_self ..)
    rw [List.length_cons] at ht
    have hn : nxT tag p ≤ tag + 100 ∧ tag < nxT tag p := by unfold nxT; omega
    have hh : (2 * nxT tag p + p.1 % 2) / 2 = nxT tag p := by omega
    rw [extB, fxB, ByteArray.append_assoc, decW_field (by omega) (by omega) hb (by rw [hh]; omega), hh]
    have hf : fldM (2 * nxT tag p + p.1 % 2) p.2 K r = ⟨r.m, r.left + 1, r.crit || decide (p.1 % 2 = 1), r.bad⟩ := by
      unfold fldM
      rw [hh, if_pos (by omega), show (2 * nxT tag p + p.1 % 2) % 2 = p.1 % 2 by omega]
    rw [hf, ext_run q (nxT tag p) (nxT tag p) ⟨r.m, r.left + 1, r.crit || decide (p.1 % 2 = 1), r.bad⟩ (fun x hx => h x (List.mem_cons_of_mem _ hx)) (by omega) (Nat.le_refl _) (by omega) hb]
    simp only [List.length_cons, oddL, List.any_cons, Bool.or_assoc, Nat.add_assoc, Nat.add_comm 1]
theorem up_w2n {j n : Nat} (h : j < n) : n - (intOf (.int .i64 ((j + 1 : Nat) : Int))).toNat < n - (intOf (.int .i64 (j : Int))).toNat := by
  simp only [intOf]
  omega
theorem wraps_with {h q r r1 tag t2 d2 p hd n i : Nat} (a1 : h < 65536) (a2 : q < 65536) (a3 : r < 100) (a4 : 1 + r = r1) (a5 : tag + r1 = t2) (a6 : 2 * t2 = d2) (a7 : d2 + p = hd) (a8 : t2 ≤ 1000000) (a9 : p < 2) (b1 : n ≤ 100) (b2 : i ≤ 100) :
    Value.int .i64 (IntKind.i64.wrap (h : Int)) = Value.int .i64 (h : Int) ∧ Value.int .i64 (wrap64 (h : Int)) = Value.int .i64 (h : Int) ∧ Value.int .i64 (wrap64 (q : Int)) = Value.int .i64 (q : Int) ∧ Value.int .i64 (wrap64 (r : Int)) = Value.int .i64 (r : Int) ∧
    Value.int .i64 (wrap64 (1 + (r : Int))) = Value.int .i64 (r1 : Int) ∧ Value.int .i64 (wrap64 ((tag : Int) + (1 + (r : Int)))) = Value.int .i64 (t2 : Int) ∧ Value.int .i64 (wrap64 (2 * (t2 : Int))) = Value.int .i64 (d2 : Int) ∧ Value.int .i64 (IntKind.i64.wrap (2 * (t2 : Int))) = Value.int .i64 (d2 : Int) ∧
    Value.int .u64 (IntKind.u64.wrap (d2 : Int)) = Value.int .u64 (d2 : Int) ∧ Value.int .u64 (IntKind.u64.wrap (p : Int)) = Value.int .u64 (p : Int) ∧ Value.int .u64 (IntKind.u64.wrap ((d2 : Int) + (p : Int))) = Value.int .u64 (hd : Int) ∧
    Value.int .i64 (wrap64 ((n : Int) + 1)) = Value.int .i64 ((n + 1 : Nat) : Int) ∧ Value.int .i64 (wrap64 ((i : Int) + 1)) = Value.int .i64 ((i + 1 : Nat) : Int) ∧ Value.int .u16 (IntKind.u16.wrap (p : Int)) = Value.int .u16 (p : Int) := by
  subst a4 a5 a6 a7
  refine ⟨?_, ?_, ?_, ?_, ?_, ?_, ?_, ?_, ?_, ?_, ?_, ?_, ?_, ?_⟩
  · exact congrArg _ (by simp only [IntKind.wrap_i64]; omega)
  · exact congrArg _ (wrap64_id (by omega) (by omega))
  · exact congrArg _ (wrap64_id (by omega) (by omega))
  · exact congrArg _ (wrap64_id (by omega) (by omega))
  · exact congrArg _ ((wrap64_id (by omega) (by omega)).trans (by omega))
  · exact congrArg _ ((wrap64_id (by omega) (by omega)).trans (by omega))
  · exact congrArg _ ((wrap64_id (by omega) (by omega)).trans (by omega))
  · exact congrArg _ (by simp only [IntKind.wrap_i64]; omega)
  · exact congrArg _ (wrap_u64_nat (by omega))
  · exact congrArg _ (wrap_u64_nat (by omega))
  · exact congrArg _ ((show IntKind.u64.wrap (((2 * (tag + (1 + r)) : Nat) : Int) + (p : Int)) = IntKind.u64.wrap ((2 * (tag + (1 + r)) + p : Nat) : Int) by congr 1).trans (wrap_u64_nat (by omega)))
  · exact congrArg _ (wrap64_id (by omega) (by omega))
  · exact congrArg _ (wrap64_id (by omega) (by omega))
  · exact congrArg _ (by simp only [IntKind.wrap_u16]; omega)
set_option maxRecDepth 100000 in
set_option maxHeartbeats 8000000 in
theorem with_any (s : ByteArray) (A : Option Addr) (len cap : Nat) (l : List ExT) (w : World) (hA : RowF w 2 exC A len l) (hlen : len ≤ 20) (hs : s.size ≤ 3000) (ht : ∀ p ∈ l, p.1 < 65536 ∧ p.2.size ≤ 50) :
    Calls Try.prog 18 #[.string s, .slice A len cap] w fun e w' => e = .returned (.tuple #[.string (withL (l.take 6) 12 s 0 false).1, .int .i64 ((withL (l.take 6) 12 s 0 false).2.1 : Nat), .bool (withL (l.take 6) 12 s 0 false).2.2]) ∧ Below w.heap.size w w' := by
  have HA := Lib.hid hA; clear hA
  have HT := Lib.hid ht; clear ht
  obtain ⟨⟨bF, nF, cF⟩, hF⟩ : ∃ x, withL (l.take 6) 12 s 0 false = x := ⟨_, rfl⟩
  rw [hF]
  have HF0 := Lib.hid hF; clear hF
  go_enter Try.func18, Try.ntmps18
  go_wp2
  go_loopw [0, 7, 8, 9, 10] (fun u0 u7 u8 u9 u10 wr => ∃ (b : ByteArray) (tag : Nat) (c : Bool) (i : Nat), u0 = .string b ∧ u7 = .int .i64 tag ∧ u8 = .int .i64 i ∧ u9 = .bool c ∧ u10 = .int .i64 i ∧ i ≤ len ∧ i ≤ 6 ∧ tag ≤ 12 + i * 100 ∧ b.size ≤ 3000 + i * 70 ∧ withL ((l.take 6).drop i) tag b i c = (bF, nF, cF) ∧ Below w.heap.size w wr) (fun _ _ _ _ u10 _ => len - (intOf u10).toNat)
  case atStart => exact ⟨s, 12, false, 0, rfl, rfl, rfl, rfl, rfl, Nat.zero_le _, Nat.zero_le _, by decide, by omega, HF0.out, Below.refl _ _⟩
  case round =>
    clear HF0 hs
    obtain ⟨b, tag, c, i, rfl, rfl, rfl, rfl, rfl, hi, hi6, htag, hbz, hF, hb⟩ := hrel
    have HB := Lib.hid hb; clear hb
    have HF := Lib.hid hF; clear hF
    by_cases hlt : i < len
    · by_cases hl6 : i < 6
      · obtain ⟨bb, off, hj, rfl, hbW, hc⟩ := HA.out.get i hlt
        have hp := HT.out _ (List.getElem_mem hj)
        have hFF := HF.out
        have hj6 : i < (l.take 6).length := by rw [List.length_take]; omega
        rw [List.drop_eq_getElem_cons hj6, withL, List.getElem_take] at hFF
        obtain ⟨⟨h, t⟩, hx⟩ : ∃ x, l[i] = x := ⟨_, rfl⟩
        rw [hx] at hc hp hFF
        simp only at hp hFF
        have hc1 := range_below hc HB.out hbW
        have c0 : wr.cell? ⟨bb, off + i * 2, none⟩ = some (.int .u16 (h : Int)) := hc1 0 _ rfl
        have c1 : wr.cell? ⟨bb, off + i * 2 + 1, none⟩ = some (.string t) := hc1 1 _ rfl
        have hbl := Nat.lt_of_lt_of_le hbW HB.out.size
        clear hc hc1 hx hj hj6 HF
        have hsz1 := fxB_size (tag := tag) (p := (h, t)) (by omega) hp
        unfold nxT fxB nxT at hFF
        unfold fxB nxT at hsz1
        simp only at hFF hsz1
        rw [ByteArray.size_append] at hsz1
        obtain ⟨q, hq⟩ : ∃ q, h / 2 = q := ⟨_, rfl⟩
        obtain ⟨r, hr⟩ : ∃ r, q % 100 = r := ⟨_, rfl⟩
        obtain ⟨p, hpp⟩ : ∃ p, h % 2 = p := ⟨_, rfl⟩
        rw [hq, hr, hpp] at hFF
        rw [hq, hr, hpp] at hsz1
        obtain ⟨r1, hr1⟩ : ∃ x, 1 + r = x := ⟨_, rfl⟩
        rw [hr1] at hFF hsz1
        obtain ⟨t2, ht2⟩ : ∃ x, tag + r1 = x := ⟨_, rfl⟩
        rw [ht2] at hFF hsz1
        obtain ⟨d2, hd2⟩ : ∃ x, 2 * t2 = x := ⟨_, rfl⟩
        rw [hd2] at hFF hsz1
        obtain ⟨hd, hhd⟩ : ∃ x, d2 + p = x := ⟨_, rfl⟩
        rw [hhd] at hFF hsz1
        obtain ⟨d, hdd⟩ : ∃ d, decide (p = 1) = d := ⟨_, rfl⟩
        rw [hdd] at hFF
        have x7 : ((p : Int) == 1) = d := by
          rw [← hdd]
          by_cases e : p = 1
          · subst e; rfl
          · rw [decide_eq_false e]; exact beq_eq_false_iff_ne.2 (by omega)
        have hph := hp.1
        have HU := Lib.hid (fun W => ruint_any hd W (by omega))
        have HX := Lib.hid (fun W => rtext_any t W (by omega))
        have HREL := Lib.hid (show t2 ≤ 12 + (i + 1) * 100 ∧ (b ++ (uvS hd ++ textS t)).size ≤ 3000 + (i + 1) * 70 by
          refine ⟨by omega, ?_⟩
          simp only [ByteArray.size_append]
          omega)
        have z1 : (uvS hd).size + (textS t).size ≤ 1000 := by omega
        have z2 : b.size + (uvS hd ++ textS t).size ≤ 10000 := by rw [ByteArray.size_append]; omega
        have f3 : Int.tdiv (h : Int) 2 = (q : Int) := by rw [Int.tdiv_eq_ediv_of_nonneg (by omega)]; omega
        have f5 : Int.tmod (q : Int) 100 = (r : Int) := by rw [Int.tmod_eq_emod_of_nonneg (by omega)]; omega
        have f11 : Int.tmod (h : Int) 2 = (p : Int) := by rw [Int.tmod_eq_emod_of_nonneg (by omega)]; omega
        have f11b : (h : Int) % 2 = (p : Int) := by omega
        have f11c : (h : Int) / 2 = (q : Int) := by omega
        have f11d : (q : Int) % 100 = (r : Int) := by omega
        have HW8 := Lib.hid (wraps_with (show h < 65536 from hph) (show q < 65536 by omega) (show r < 100 by omega) hr1 ht2 hd2 hhd (show t2 ≤ 1000000 by omega) (show p < 2 by omega) (show i ≤ 100 by omega) (show i ≤ 100 by omega))
        have HF := Lib.hid hFF; clear hFF
        generalize uvS hd = U at *
        generalize textS t = X at *
        have HLT := Lib.hid hlt
        have HL6 := Lib.hid hl6
        clear hsz1 hbz htag hp hq hr hpp hr1 ht2 hd2 hhd hph hdd HA HT hbW hi hi6 hlt hl6 hlen
        obtain ⟨f1, f2, f4, f6, f7, f8, f9, f9b, f10, f12, f13, f14, f15, f16⟩ := HW8.out
        have hil := HLT.out
        have hil6 : decide ((i : Int) < 6) = true := decide_eq_true (by have := HL6.out; omega)
        have zz1 : ¬ 9223372036854775807 < U.size + X.size := by clear f1 f2 f4 f6 f7 f8 f9 f9b f10 f12 f13 f14 f15 f16; omega
        have zz2 : ¬ 9223372036854775807 < b.size + (U ++ X).size := by clear f1 f2 f4 f6 f7 f8 f9 f9b f10 f12 f13 f14 f15 f16; omega
        have zz3 : ¬ 9223372036854775807 < b.size + (U.size + X.size) := by rw [ByteArray.size_append] at zz2; exact zz2
        go_wp2
        refine start_ (n := 22) (S := fun w' => Below wr.heap.size wr w' ∧ w'.cell? ⟨bb, off + i * 2, none⟩ = some (.int .u16 (h : Int)) ∧ w'.cell? ⟨bb, off + i * 2 + 1, none⟩ = some (.string t)) (ds := []) #[false, false, false, false, false, false, false, false, false, false, false, false, false, false, false, false, false, false, false, false, false, false] (by kernel_rfl) rfl rfl ⟨(below_drew (Below.refl _ _)), c0, c1⟩ (fun hHeld => ?_)
        refine pure_ (i := 0) (N := some 32) (v := ?_) (a' := ?_) #[true, false, false, false, false, false, false, false, false, false, false, false, false, false, false, false, false, false, false, false, false, false] rfl rfl (by kernel_rfl) (fun _ _ _ h => h) (Or.inl ⟨by rfl, ?_⟩) ?_ ?_
        rotate_left
        · intro w'
          go_simp
          with_reducible rfl
        rotate_left
        · simp only [Act.put, List.setIfInBounds_toArray, List.set_cons_zero, List.set_cons_succ, i64_w, i32_w]
          rfl
        refine pure_ (i := 1) (N := some 33) (v := ?_) (a' := ?_) #[true, true, false, false, false, false, false, false, false, false, false, false, false, false, false, false, false, false, false, false, false, false] rfl rfl (by kernel_rfl) (fun _ _ _ h => h) (Or.inl ⟨by rfl, ?_⟩) ?_ ?_
        rotate_left
        · intro w'
          go_simp
          with_reducible rfl
        rotate_left
        · simp only [Act.put, List.setIfInBounds_toArray, List.set_cons_zero, List.set_cons_succ, i64_w, i32_w]
          rfl
        refine pure_ (i := 2) (N := some 34) (v := ?_) (a' := ?_) #[true, true, true, false, false, false, false, false, false, false, false, false, false, false, false, false, false, false, false, false, false, false] rfl rfl (by kernel_rfl) (fun _ _ _ h => h) (Or.inl ⟨by rfl, ?_⟩) ?_ ?_
        rotate_left
        · intro w'
          go_simp
          with_reducible rfl
        rotate_left
        · simp only [Act.put, List.setIfInBounds_toArray, List.set_cons_zero, List.set_cons_succ, i64_w, i32_w]
          rfl
        refine pure_ (i := 3) (N := some 35) (v := ?_) (a' := ?_) #[true, true, true, true, false, false, false, false, false, false, false, false, false, false, false, false, false, false, false, false, false, false] rfl rfl (by kernel_rfl) (fun _ _ _ h => h) (Or.inl ⟨by rfl, ?_⟩) ?_ ?_
        rotate_left
        · intro w'
          go_simp
          with_reducible rfl
        rotate_left
        · simp only [Act.put, List.setIfInBounds_toArray, List.set_cons_zero, List.set_cons_succ, i64_w, i32_w]
          rfl
        refine pure_ (i := 4) (N := some 36) (v := ?_) (a' := ?_) #[true, true, true, true, true, false, false, false, false, false, false, false, false, false, false, false, false, false, false, false, false, false] rfl rfl (by kernel_rfl) (fun _ _ _ h => h) (Or.inl ⟨by rfl, ?_⟩) ?_ ?_
        rotate_left
        · intro w'
          go_simp
          with_reducible rfl
        rotate_left
        · simp only [Act.put, List.setIfInBounds_toArray, List.set_cons_zero, List.set_cons_succ, i64_w, i32_w]
          rfl
        refine pure_ (i := 5) (N := some 37) (v := ?_) (a' := ?_) #[true, true, true, true, true, true, false, false, false, false, false, false, false, false, false, false, false, false, false, false, false, false] rfl rfl (by kernel_rfl) (fun _ _ _ h => h) (Or.inl ⟨by rfl, ?_⟩) ?_ ?_
        rotate_left
        · intro w'
          go_simp
          with_reducible rfl
        rotate_left
        · simp only [Act.put, List.setIfInBounds_toArray, List.set_cons_zero, List.set_cons_succ, i64_w, i32_w]
          rfl
        refine pure_ (i := 6) (N := some 38) (v := ?_) (a' := ?_) #[true, true, true, true, true, true, true, false, false, false, false, false, false, false, false, false, false, false, false, false, false, false] rfl rfl (by kernel_rfl) (fun _ _ _ h => h) (Or.inl ⟨by rfl, ?_⟩) ?_ ?_
        rotate_left
        · intro w'
          go_simp
          with_reducible rfl
        rotate_left
        · simp only [Act.put, List.setIfInBounds_toArray, List.set_cons_zero, List.set_cons_succ, i64_w, i32_w]
          rfl
        refine pure_ (i := 7) (N := some 39) (v := ?_) (a' := ?_) #[true, true, true, true, true, true, true, true, false, false, false, false, false, false, false, false, false, false, false, false, false, false] rfl rfl (by kernel_rfl) (fun _ _ _ h => h) (Or.inl ⟨by rfl, ?_⟩) ?_ ?_
        rotate_left
        · intro w'
          go_simp
          with_reducible rfl
        rotate_left
        · simp only [Act.put, List.setIfInBounds_toArray, List.set_cons_zero, List.set_cons_succ, i64_w, i32_w]
          rfl
        refine pure_ (i := 13) (N := some 45) (v := ?_) (a' := ?_) #[true, true, true, true, true, true, true, true, false, false, false, false, false, true, false, false, false, false, false, false, false, false] rfl rfl (by kernel_rfl) (fun _ _ _ h => h) (Or.inl ⟨by rfl, ?_⟩) ?_ ?_
        rotate_left
        · intro w'
          go_simp
          with_reducible rfl
        rotate_left
        · simp only [Act.put, List.setIfInBounds_toArray, List.set_cons_zero, List.set_cons_succ, i64_w, i32_w]
          rfl
        refine pure_ (i := 14) (N := some 46) (v := ?_) (a' := ?_) #[true, true, true, true, true, true, true, true, false, false, false, false, false, true, true, false, false, false, false, false, false, false] rfl rfl (by kernel_rfl) (fun _ _ _ h => h) (Or.inl ⟨by rfl, ?_⟩) ?_ ?_
        rotate_left
        · intro w'
          go_simp
          with_reducible rfl
        rotate_left
        · simp only [Act.put, List.setIfInBounds_toArray, List.set_cons_zero, List.set_cons_succ, i64_w, i32_w]
          rfl
        refine pure_ (i := 15) (N := some 47) (v := ?_) (a' := ?_) #[true, true, true, true, true, true, true, true, false, false, false, false, false, true, true, true, false, false, false, false, false, false] rfl rfl (by kernel_rfl) (fun _ _ _ h => h) (Or.inl ⟨by rfl, ?_⟩) ?_ ?_
        rotate_left
        · intro w'
          go_simp
          with_reducible rfl
        rotate_left
        · simp only [Act.put, List.setIfInBounds_toArray, List.set_cons_zero, List.set_cons_succ, i64_w, i32_w]
          rfl
        refine pure_ (i := 16) (N := some 48) (v := ?_) (a' := ?_) #[true, true, true, true, true, true, true, true, false, false, false, false, false, true, true, true, true, false, false, false, false, false] rfl rfl (by kernel_rfl) (fun _ _ _ h => h) (Or.inl ⟨by rfl, ?_⟩) ?_ ?_
        rotate_left
        · intro w'
          go_simp
          with_reducible rfl
        rotate_left
        · simp only [Act.put, List.setIfInBounds_toArray, List.set_cons_zero, List.set_cons_succ, i64_w, i32_w]
          rfl
        refine take_ (i := 8) (N := some 40) (v := ?_) (a' := ?_) #[true, true, true, true, true, true, true, true, true, false, false, false, false, true, true, true, true, false, false, false, false, false] rfl rfl (by kernel_rfl) (fun _ _ _ h => h) (Or.inl ⟨by rfl, ?_⟩) hHeld ?_ ?_
        rotate_left
        · rintro w' ⟨s0, s1, s2⟩
          go_simp
          with_reducible rfl
        rotate_left
        · simp only [Act.put, List.setIfInBounds_toArray, List.set_cons_zero, List.set_cons_succ, i64_w, i32_w]
          rfl
        refine pure_ (i := 9) (N := some 41) (v := ?_) (a' := ?_) #[true, true, true, true, true, true, true, true, true, true, false, false, false, true, true, true, true, false, false, false, false, false] rfl rfl (by kernel_rfl) (fun _ _ _ h => h) (Or.inl ⟨by rfl, ?_⟩) ?_ ?_
        rotate_left
        · intro w'
          go_simp
          with_reducible rfl
        rotate_left
        · simp only [Act.put, List.setIfInBounds_toArray, List.set_cons_zero, List.set_cons_succ, i64_w, i32_w]
          rfl
        refine pure_ (i := 10) (N := some 42) (v := ?_) (a' := ?_) #[true, true, true, true, true, true, true, true, true, true, true, false, false, true, true, true, true, false, false, false, false, false] rfl rfl (by kernel_rfl) (fun _ _ _ h => h) (Or.inl ⟨by rfl, ?_⟩) ?_ ?_
        rotate_left
        · intro w'
          go_simp
          with_reducible rfl
        rotate_left
        · simp only [Act.put, List.setIfInBounds_toArray, List.set_cons_zero, List.set_cons_succ, i64_w, i32_w]
          rfl
        refine pure_ (i := 11) (N := some 43) (v := ?_) (a' := ?_) #[true, true, true, true, true, true, true, true, true, true, true, true, false, true, true, true, true, false, false, false, false, false] rfl rfl (by kernel_rfl) (fun _ _ _ h => h) (Or.inl ⟨by rfl, ?_⟩) ?_ ?_
        rotate_left
        · intro w'
          go_simp
          with_reducible rfl
        rotate_left
        · simp only [Act.put, List.setIfInBounds_toArray, List.set_cons_zero, List.set_cons_succ, i64_w, i32_w]
          rfl
        refine take_ (i := 17) (N := some 49) (v := ?_) (a' := ?_) #[true, true, true, true, true, true, true, true, true, true, true, true, false, true, true, true, true, true, false, false, false, false] rfl rfl (by kernel_rfl) (fun _ _ _ h => h) (Or.inl ⟨by rfl, ?_⟩) hHeld ?_ ?_
        rotate_left
        · rintro w' ⟨s0, s1, s2⟩
          go_simp
          with_reducible rfl
        rotate_left
        · simp only [Act.put, List.setIfInBounds_toArray, List.set_cons_zero, List.set_cons_succ, i64_w, i32_w]
          rfl
        refine one_ (i := 12) (N := some 44) #[true, true, true, true, true, true, true, true, true, true, true, true, true, true, true, true, true, true, false, false, false, false] rfl rfl (by kernel_rfl) (by decide) (fun K hK => ?_)
        refine goes_ Try.func23 (by kernel_rfl) rfl #[.int .u64 (hd : Int)] (by rfl) rfl rfl (by (try simp only [List.map_toArray, List.map_cons, List.map_nil]); first | done | rfl) ?_
        with_reducible refine ((HU.out _)).mono ?_
        rintro e w5 ⟨rfl, hb5⟩
        refine ⟨_, rfl, ?_⟩
        have HN := Lib.hid (hHeld.1.trans (hb5.mono hHeld.1.size))
        refine hK.out _ _ ⟨HN.out, (HN.out.cell (p := ⟨bb, off + i * 2, none⟩) hbl).trans c0, (HN.out.cell (p := ⟨bb, off + i * 2 + 1, none⟩) hbl).trans c1⟩ (fun hHeld => ?_)
        clear hK K
        refine norm_ (a' := ?_) ?_ ?_
        rotate_left
        · show Act.put _ (some 44) _ = _
          simp only [Act.put, List.setIfInBounds_toArray, List.set_cons_zero, List.set_cons_succ, i64_w, i32_w]
          rfl
        refine one_ (i := 18) (N := some 50) #[true, true, true, true, true, true, true, true, true, true, true, true, true, true, true, true, true, true, true, false, false, false] rfl rfl (by kernel_rfl) (by decide) (fun K hK => ?_)
        refine goes_ Try.func25 (by kernel_rfl) rfl #[.string t] (by rfl) rfl rfl (by (try simp only [List.map_toArray, List.map_cons, List.map_nil]); first | done | rfl) ?_
        with_reducible refine ((HX.out _)).mono ?_
        rintro e w6 ⟨rfl, hb6⟩
        refine ⟨_, rfl, ?_⟩
        have HN := Lib.hid (hHeld.1.trans (hb6.mono hHeld.1.size))
        refine hK.out _ _ ⟨HN.out, (HN.out.cell (p := ⟨bb, off + i * 2, none⟩) hbl).trans c0, (HN.out.cell (p := ⟨bb, off + i * 2 + 1, none⟩) hbl).trans c1⟩ (fun hHeld => ?_)
        clear hK K
        refine norm_ (a' := ?_) ?_ ?_
        rotate_left
        · show Act.put _ (some 50) _ = _
          simp only [Act.put, List.setIfInBounds_toArray, List.set_cons_zero, List.set_cons_succ, i64_w, i32_w]
          rfl
        refine pure_ (i := 19) (N := some 51) (v := ?_) (a' := ?_) #[true, true, true, true, true, true, true, true, true, true, true, true, true, true, true, true, true, true, true, true, false, false] rfl rfl (by kernel_rfl) (fun _ _ _ h => h) (Or.inl ⟨by rfl, ?_⟩) ?_ ?_
        rotate_left
        · intro w'
          go_simp
          with_reducible rfl
        rotate_left
        · simp only [Act.put, List.setIfInBounds_toArray, List.set_cons_zero, List.set_cons_succ, i64_w, i32_w]
          rfl
        refine pure_ (i := 20) (N := some 52) (v := ?_) (a' := ?_) #[true, true, true, true, true, true, true, true, true, true, true, true, true, true, true, true, true, true, true, true, true, false] rfl rfl (by kernel_rfl) (fun _ _ _ h => h) (Or.inl ⟨by rfl, ?_⟩) ?_ ?_
        rotate_left
        · intro w'
          go_simp
          with_reducible rfl
        rotate_left
        · simp only [Act.put, List.setIfInBounds_toArray, List.set_cons_zero, List.set_cons_succ, i64_w, i32_w]
          rfl
        refine pure_ (i := 21) (N := some 0) (v := ?_) (a' := ?_) #[true, true, true, true, true, true, true, true, true, true, true, true, true, true, true, true, true, true, true, true, true, true] rfl rfl (by kernel_rfl) (fun _ _ _ h => h) (Or.inl ⟨by rfl, ?_⟩) ?_ ?_
        rotate_left
        · intro w'
          go_simp
          with_reducible rfl
        rotate_left
        · simp only [Act.put, List.setIfInBounds_toArray, List.set_cons_zero, List.set_cons_succ, i64_w, i32_w]
          rfl
        refine done_ (by kernel_rfl) ?_

        have HN := Lib.hid hHeld.1
        have e0 := (HN.out.cell (p := ⟨bb, off + i * 2, none⟩) hbl).trans c0
        replace HB := Lib.hid (HB.out.trans (HN.out.mono HB.out.size))
        clear hHeld HN c0 c1
        cases c with
        | true =>
          go_wp2
          go_roundw
          case rel => exact ⟨b ++ (U ++ X), t2, true, i + 1, rfl, f8, by go_num, by trivial, by go_num, HLT.out, HL6.out, HREL.out.1, HREL.out.2, HF.out, HB.out⟩
          case measure => rw [f15]; exact up_w2n HLT.out
        | false =>
          go_wp2
          go_roundw
          case rel => exact ⟨b ++ (U ++ X), t2, d, i + 1, rfl, f8, by go_num, by trivial, by go_num, HLT.out, HL6.out, HREL.out.1, HREL.out.2, HF.out, HB.out⟩
          case measure => rw [f15]; exact up_w2n HLT.out
      · obtain rfl : i = 6 := by omega
        have hF := HF.out
        rw [List.drop_eq_nil_of_le (by rw [List.length_take]; omega), withL] at hF
        injection hF with e1 e2
        injection e2 with e2 e3
        subst e1 e2 e3
        clear HF
        go_wp2
        go_ret3
        exact ⟨rfl, HB.out⟩
    · obtain rfl : i = len := by omega
      have hF := HF.out
      rw [List.drop_eq_nil_of_le (by rw [List.length_take]; have := HA.out.1; omega), withL] at hF
      injection hF with e1 e2
      injection e2 with e2 e3
      subst e1 e2 e3
      clear HF
      go_wp2
      go_ret3
      exact ⟨rfl, HB.out⟩
end Go.Proofs.Ytemhmgpihkemjaa.My
