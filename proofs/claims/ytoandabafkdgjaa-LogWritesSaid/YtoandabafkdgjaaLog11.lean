/- isoglossref08: Few, Common, Same; isoglosslaw08.bytes. -/
import Derived.Test.YtoandabafkdgjaaLog10
namespace Go.Proofs.Ytoandabafkdgjaa.My
set_option linter.unusedSimpArgs false
set_option linter.unusedVariables false
open Go.RowKit Go.Proofs.YtoandabafkdgjaaW.PrintWords Go.Proofs.YtoandabafkdgjaaW.PrintLast Go.Proofs.Ytoandabafkdgjaa.Pm

def strC (s : ByteArray) : List Value := [.string s]
theorem strC_len (s : ByteArray) : (strC s).length = 1 := rfl
theorem str_cell {w : World} {A : Option Addr} {n : Nat} {l : List ByteArray} (h : RowF w 1 strC A n l) {j : Nat} (hj : j < n) : ∃ b off, ∃ hj' : j < l.length, A = some ⟨b, off, none⟩ ∧ b < w.heap.size ∧ w.cell? ⟨b, off + j, none⟩ = some (.string l[j]) := by
  obtain ⟨b, off, hj', e, hb, hc⟩ := h.get j hj
  refine ⟨b, off, hj', e, hb, ?_⟩
  have := hc 0 _ rfl
  rw [Nat.mul_one] at this
  exact this
theorem sls_row {w : World} {base n c : Nat} {A : Option Addr} {l : List ByteArray} (h : Sls w base (.slice A n c) l) : RowF w 1 strC A n l := by
  obtain ⟨A', c', e⟩ := Kd.R_slice h
  injection e with e1 e2 e3
  subst e2
  refine ⟨rfl, fun h0 => ?_⟩
  obtain ⟨g, cap, e, hb, hl, -⟩ := Kd.R_form h h0
  injection e with e4 e5 e6
  subst e4 e6
  refine ⟨g, 0, rfl, hl, fun j hj i v hi => ?_⟩
  have hi0 : i = 0 := by
    have := (List.getElem?_eq_some_iff.1 hi).1
    simpa [strC] using this
  subst hi0
  simp only [strC, List.getElem?_cons_zero, Option.some.injEq] at hi
  subst hi
  have := (Kd.R_celln ⟨#[]⟩ h (j : Int) (by omega) (by omega)).1
  rw [Int.toNat_natCast] at this
  rw [Nat.mul_one, Nat.add_zero, Nat.zero_add]
  refine this.trans (congrArg (fun x => some (Value.string x)) ?_)
  simp [rdOf, hj]
theorem str_eqb (a b : ByteArray) : (a.toList == b.toList) = decide (a = b) := by
  rw [ByteArray.toList_eq, ByteArray.toList_eq]
  by_cases h : a = b
  · simp [h]
  · rw [decide_eq_false h]
    exact beq_eq_false_iff_ne.2 (fun e => h (bl_ext e))
def commonL : List ByteArray → List ByteArray → Nat
  | a :: x, b :: y => if a = b then commonL x y + 1 else 0
  | _, _ => 0
theorem commonL_step {a b : List ByteArray} {i : Nat} (ha : i < a.length) (hb : i < b.length) : commonL (a.drop i) (b.drop i) = if a[i] = b[i] then commonL (a.drop (i + 1)) (b.drop (i + 1)) + 1 else 0 := by
  rw [List.drop_eq_getElem_cons ha, List.drop_eq_getElem_cons hb, commonL]
theorem commonL_end {a b : List ByteArray} {i : Nat} (h : a.length ≤ i ∨ b.length ≤ i) : commonL (a.drop i) (b.drop i) = 0 := by
  rcases h with h | h
  · rw [List.drop_eq_nil_of_le h]
    cases b.drop i <;> rfl
  · rw [List.drop_eq_nil_of_le h]
    cases a.drop i <;> rfl
theorem commonL_all : ∀ {a b : List ByteArray}, a.length = b.length → (commonL a b = a.length ↔ a = b)
  | [], [], _ => by simp [commonL]
  | x :: a, y :: b, h => by
    have ih := commonL_all (a := a) (b := b) (by simpa using h)
    rw [commonL]
    by_cases e : x = y
    · rw [if_pos e, List.length_cons]
      simp only [List.cons.injEq, e, true_and, ← ih]
      omega
    · rw [if_neg e, List.length_cons]
      simp [e]
set_option maxRecDepth 100000 in
set_option maxHeartbeats 4000000 in
theorem rcommon_any (A B : Option Addr) (n c m d : Nat) (la lb : List ByteArray) (w : World) (hA : RowF w 1 strC A n la) (hB : RowF w 1 strC B m lb) (hn : n ≤ 1000000) (hm : m ≤ 1000000) :
    Calls Try.prog 42 #[.slice A n c, .slice B m d] w fun e w' => e = .returned (.int .i64 (commonL la lb : Nat)) ∧ Below w.heap.size w w' := by
  have HA := Lib.hid hA; clear hA
  have HBB := Lib.hid hB; clear hB
  go_enter Try.func42, Try.ntmps42
  go_wp2
  go_loopw [5] (fun u wr => ∃ i : Nat, u = .int .i64 i ∧ i ≤ n ∧ Hid (commonL la lb = commonL (la.drop i) (lb.drop i) + i) ∧ Hid (Below w.heap.size w wr)) (fun u _ => n - (intOf u).toNat)
  case atStart => exact ⟨0, rfl, Nat.zero_le _, Lib.hid rfl, Lib.hid (Below.refl _ _)⟩
  case round =>
    obtain ⟨i, rfl, hi, HT, HB⟩ := hrel
    have HLA := Lib.hid HA.out.1
    have HLB := Lib.hid HBB.out.1
    by_cases hlt : i < n
    · have y1 : decide ((i : Int) < (n : Int)) = true := decide_eq_true (by omega)
      by_cases hlm : i < m
      · have y2 : decide ((m : Int) ≤ (i : Int)) = false := decide_eq_false (by omega)
        have y2n : decide (m ≤ i) = false := decide_eq_false (by omega)
        obtain ⟨b1, o1, hj1, rfl, hbW1, hc1⟩ := str_cell HA.out hlt
        obtain ⟨b2, o2, hj2, rfl, hbW2, hc2⟩ := str_cell HBB.out hlm
        have HS := Lib.hid (commonL_step hj1 hj2)
        obtain ⟨x, hx⟩ : ∃ x, la[i] = x := ⟨_, rfl⟩
        obtain ⟨y, hy⟩ : ∃ y, lb[i] = y := ⟨_, rfl⟩
        rw [hx] at hc1 HS
        rw [hy] at hc2 HS
        have c1 : wr.cell? ⟨b1, o1 + i, none⟩ = some (.string x) := (HB.out.cell (p := ⟨b1, _, none⟩) hbW1).trans hc1
        have c2 : wr.cell? ⟨b2, o2 + i, none⟩ = some (.string y) := (HB.out.cell (p := ⟨b2, _, none⟩) hbW2).trans hc2
        have he := str_eqb x y
        have hw := succ_w hlt (show n ≤ 140737488351232 by omega)
        clear hc1 hc2 hx hy hj1 hj2 hbW1 hbW2
        by_cases hxy : x = y
        · rw [decide_eq_true hxy] at he
          have HT2 := Lib.hid (show commonL la lb = commonL (la.drop (i + 1)) (lb.drop (i + 1)) + (i + 1) by rw [HT.out, HS.out, if_pos hxy]; omega)
          clear hxy
          go_wp2
          refine start_ (n := 15) (S := fun w' => w'.cell? ⟨b1, o1 + i, none⟩ = some (.string x) ∧ w'.cell? ⟨b2, o2 + i, none⟩ = some (.string y)) (ds := []) #[false, false, false, false, false, false, false, false, false, false, false, false, false, false, false] (by kernel_rfl) rfl rfl ⟨(show wr.drew.cell? _ = _ from c1), (show wr.drew.cell? _ = _ from c2)⟩ (fun hHeld => ?_)
          have HB := Lib.hid (below_drew HB.out)
          refine pure_ (i := 0) (N := some 12) (v := ?_) (a' := ?_) #[true, false, false, false, false, false, false, false, false, false, false, false, false, false, false] rfl rfl (by kernel_rfl) (fun _ _ _ h => h) (Or.inl ⟨by rfl, ?_⟩) ?_ ?_
          rotate_left
          · intro w'
            go_simp
            with_reducible rfl
          rotate_left
          · simp only [Act.put, List.setIfInBounds_toArray, List.set_cons_zero, List.set_cons_succ, i64_w, i32_w]
            rfl
          refine pure_ (i := 1) (N := some 13) (v := ?_) (a' := ?_) #[true, true, false, false, false, false, false, false, false, false, false, false, false, false, false] rfl rfl (by kernel_rfl) (fun _ _ _ h => h) (Or.inl ⟨by rfl, ?_⟩) ?_ ?_
          rotate_left
          · intro w'
            go_simp
            with_reducible rfl
          rotate_left
          · simp only [Act.put, List.setIfInBounds_toArray, List.set_cons_zero, List.set_cons_succ, i64_w, i32_w]
            rfl
          refine pure_ (i := 2) (N := some 14) (v := ?_) (a' := ?_) #[true, true, true, false, false, false, false, false, false, false, false, false, false, false, false] rfl rfl (by kernel_rfl) (fun _ _ _ h => h) (Or.inl ⟨by rfl, ?_⟩) ?_ ?_
          rotate_left
          · intro w'
            go_simp
            with_reducible rfl
          rotate_left
          · simp only [Act.put, List.setIfInBounds_toArray, List.set_cons_zero, List.set_cons_succ, i64_w, i32_w]
            rfl
          refine pure_ (i := 3) (N := some 15) (v := ?_) (a' := ?_) #[true, true, true, true, false, false, false, false, false, false, false, false, false, false, false] rfl rfl (by kernel_rfl) (fun _ _ _ h => h) (Or.inl ⟨by rfl, ?_⟩) ?_ ?_
          rotate_left
          · intro w'
            go_simp
            with_reducible rfl
          rotate_left
          · simp only [Act.put, List.setIfInBounds_toArray, List.set_cons_zero, List.set_cons_succ, i64_w, i32_w]
            rfl
          refine pure_ (i := 4) (N := some 16) (v := ?_) (a' := ?_) #[true, true, true, true, true, false, false, false, false, false, false, false, false, false, false] rfl rfl (by kernel_rfl) (fun _ _ _ h => h) (Or.inl ⟨by rfl, ?_⟩) ?_ ?_
          rotate_left
          · intro w'
            go_simp
            with_reducible rfl
          rotate_left
          · simp only [Act.put, List.setIfInBounds_toArray, List.set_cons_zero, List.set_cons_succ, i64_w, i32_w]
            rfl
          refine pure_ (i := 5) (N := some 17) (v := ?_) (a' := ?_) #[true, true, true, true, true, true, false, false, false, false, false, false, false, false, false] rfl rfl (by kernel_rfl) (fun _ _ _ h => h) (Or.inl ⟨by rfl, ?_⟩) ?_ ?_
          rotate_left
          · intro w'
            go_simp
            with_reducible rfl
          rotate_left
          · simp only [Act.put, List.setIfInBounds_toArray, List.set_cons_zero, List.set_cons_succ, i64_w, i32_w]
            rfl
          refine pure_ (i := 6) (N := some 18) (v := ?_) (a' := ?_) #[true, true, true, true, true, true, true, false, false, false, false, false, false, false, false] rfl rfl (by kernel_rfl) (fun _ _ _ h => h) (Or.inl ⟨by rfl, ?_⟩) ?_ ?_
          rotate_left
          · intro w'
            go_simp
            with_reducible rfl
          rotate_left
          · simp only [Act.put, List.setIfInBounds_toArray, List.set_cons_zero, List.set_cons_succ, i64_w, i32_w]
            rfl
          refine pure_ (i := 7) (N := some 19) (v := ?_) (a' := ?_) #[true, true, true, true, true, true, true, true, false, false, false, false, false, false, false] rfl rfl (by kernel_rfl) (fun _ _ _ h => h) (Or.inl ⟨by rfl, ?_⟩) ?_ ?_
          rotate_left
          · intro w'
            go_simp
            with_reducible rfl
          rotate_left
          · simp only [Act.put, List.setIfInBounds_toArray, List.set_cons_zero, List.set_cons_succ, i64_w, i32_w]
            rfl
          refine pure_ (i := 9) (N := some 21) (v := ?_) (a' := ?_) #[true, true, true, true, true, true, true, true, false, true, false, false, false, false, false] rfl rfl (by kernel_rfl) (fun _ _ _ h => h) (Or.inl ⟨by rfl, ?_⟩) ?_ ?_
          rotate_left
          · intro w'
            go_simp
            with_reducible rfl
          rotate_left
          · simp only [Act.put, List.setIfInBounds_toArray, List.set_cons_zero, List.set_cons_succ, i64_w, i32_w]
            rfl
          refine pure_ (i := 10) (N := some 22) (v := ?_) (a' := ?_) #[true, true, true, true, true, true, true, true, false, true, true, false, false, false, false] rfl rfl (by kernel_rfl) (fun _ _ _ h => h) (Or.inl ⟨by rfl, ?_⟩) ?_ ?_
          rotate_left
          · intro w'
            go_simp
            with_reducible rfl
          rotate_left
          · simp only [Act.put, List.setIfInBounds_toArray, List.set_cons_zero, List.set_cons_succ, i64_w, i32_w]
            rfl
          refine pure_ (i := 11) (N := some 23) (v := ?_) (a' := ?_) #[true, true, true, true, true, true, true, true, false, true, true, true, false, false, false] rfl rfl (by kernel_rfl) (fun _ _ _ h => h) (Or.inl ⟨by rfl, ?_⟩) ?_ ?_
          rotate_left
          · intro w'
            go_simp
            with_reducible rfl
          rotate_left
          · simp only [Act.put, List.setIfInBounds_toArray, List.set_cons_zero, List.set_cons_succ, i64_w, i32_w]
            rfl
          refine take_ (i := 8) (N := some 20) (v := ?_) (a' := ?_) #[true, true, true, true, true, true, true, true, true, true, true, true, false, false, false] rfl rfl (by kernel_rfl) (fun _ _ _ h => h) (Or.inl ⟨by rfl, ?_⟩) hHeld ?_ ?_
          rotate_left
          · rintro w' ⟨s0, s1⟩
            go_simp
            with_reducible rfl
          rotate_left
          · simp only [Act.put, List.setIfInBounds_toArray, List.set_cons_zero, List.set_cons_succ, i64_w, i32_w]
            rfl
          refine take_ (i := 12) (N := some 24) (v := ?_) (a' := ?_) #[true, true, true, true, true, true, true, true, true, true, true, true, true, false, false] rfl rfl (by kernel_rfl) (fun _ _ _ h => h) (Or.inl ⟨by rfl, ?_⟩) hHeld ?_ ?_
          rotate_left
          · rintro w' ⟨s0, s1⟩
            go_simp
            with_reducible rfl
          rotate_left
          · simp only [Act.put, List.setIfInBounds_toArray, List.set_cons_zero, List.set_cons_succ, i64_w, i32_w]
            rfl
          refine pure_ (i := 13) (N := some 25) (v := ?_) (a' := ?_) #[true, true, true, true, true, true, true, true, true, true, true, true, true, true, false] rfl rfl (by kernel_rfl) (fun _ _ _ h => h) (Or.inl ⟨by rfl, ?_⟩) ?_ ?_
          rotate_left
          · intro w'
            go_simp
            with_reducible rfl
          rotate_left
          · simp only [Act.put, List.setIfInBounds_toArray, List.set_cons_zero, List.set_cons_succ, i64_w, i32_w]
            rfl
          refine pure_ (i := 14) (N := some 26) (v := ?_) (a' := ?_) #[true, true, true, true, true, true, true, true, true, true, true, true, true, true, true] rfl rfl (by kernel_rfl) (fun _ _ _ h => h) (Or.inl ⟨by rfl, ?_⟩) ?_ ?_
          rotate_left
          · intro w'
            go_simp
            with_reducible rfl
          rotate_left
          · simp only [Act.put, List.setIfInBounds_toArray, List.set_cons_zero, List.set_cons_succ, i64_w, i32_w]
            rfl
          refine done_ (by kernel_rfl) ?_

          go_wp2
          go_roundw
          case rel => exact ⟨i + 1, by go_num, hlt, HT2, HB⟩
          case measure => first | exact up_w hlt hw | exact up_w2 hlt
        · rw [decide_eq_false hxy] at he
          have HT2 := Lib.hid (show commonL la lb = i by rw [HT.out, HS.out, if_neg hxy]; omega)
          clear hxy
          go_wp2
          refine start_ (n := 15) (S := fun w' => w'.cell? ⟨b1, o1 + i, none⟩ = some (.string x) ∧ w'.cell? ⟨b2, o2 + i, none⟩ = some (.string y)) (ds := []) #[false, false, false, false, false, false, false, false, false, false, false, false, false, false, false] (by kernel_rfl) rfl rfl ⟨(show wr.drew.cell? _ = _ from c1), (show wr.drew.cell? _ = _ from c2)⟩ (fun hHeld => ?_)
          have HB := Lib.hid (below_drew HB.out)
          refine pure_ (i := 0) (N := some 12) (v := ?_) (a' := ?_) #[true, false, false, false, false, false, false, false, false, false, false, false, false, false, false] rfl rfl (by kernel_rfl) (fun _ _ _ h => h) (Or.inl ⟨by rfl, ?_⟩) ?_ ?_
          rotate_left
          · intro w'
            go_simp
            with_reducible rfl
          rotate_left
          · simp only [Act.put, List.setIfInBounds_toArray, List.set_cons_zero, List.set_cons_succ, i64_w, i32_w]
            rfl
          refine pure_ (i := 1) (N := some 13) (v := ?_) (a' := ?_) #[true, true, false, false, false, false, false, false, false, false, false, false, false, false, false] rfl rfl (by kernel_rfl) (fun _ _ _ h => h) (Or.inl ⟨by rfl, ?_⟩) ?_ ?_
          rotate_left
          · intro w'
            go_simp
            with_reducible rfl
          rotate_left
          · simp only [Act.put, List.setIfInBounds_toArray, List.set_cons_zero, List.set_cons_succ, i64_w, i32_w]
            rfl
          refine pure_ (i := 2) (N := some 14) (v := ?_) (a' := ?_) #[true, true, true, false, false, false, false, false, false, false, false, false, false, false, false] rfl rfl (by kernel_rfl) (fun _ _ _ h => h) (Or.inl ⟨by rfl, ?_⟩) ?_ ?_
          rotate_left
          · intro w'
            go_simp
            with_reducible rfl
          rotate_left
          · simp only [Act.put, List.setIfInBounds_toArray, List.set_cons_zero, List.set_cons_succ, i64_w, i32_w]
            rfl
          refine pure_ (i := 3) (N := some 15) (v := ?_) (a' := ?_) #[true, true, true, true, false, false, false, false, false, false, false, false, false, false, false] rfl rfl (by kernel_rfl) (fun _ _ _ h => h) (Or.inl ⟨by rfl, ?_⟩) ?_ ?_
          rotate_left
          · intro w'
            go_simp
            with_reducible rfl
          rotate_left
          · simp only [Act.put, List.setIfInBounds_toArray, List.set_cons_zero, List.set_cons_succ, i64_w, i32_w]
            rfl
          refine pure_ (i := 4) (N := some 16) (v := ?_) (a' := ?_) #[true, true, true, true, true, false, false, false, false, false, false, false, false, false, false] rfl rfl (by kernel_rfl) (fun _ _ _ h => h) (Or.inl ⟨by rfl, ?_⟩) ?_ ?_
          rotate_left
          · intro w'
            go_simp
            with_reducible rfl
          rotate_left
          · simp only [Act.put, List.setIfInBounds_toArray, List.set_cons_zero, List.set_cons_succ, i64_w, i32_w]
            rfl
          refine pure_ (i := 5) (N := some 17) (v := ?_) (a' := ?_) #[true, true, true, true, true, true, false, false, false, false, false, false, false, false, false] rfl rfl (by kernel_rfl) (fun _ _ _ h => h) (Or.inl ⟨by rfl, ?_⟩) ?_ ?_
          rotate_left
          · intro w'
            go_simp
            with_reducible rfl
          rotate_left
          · simp only [Act.put, List.setIfInBounds_toArray, List.set_cons_zero, List.set_cons_succ, i64_w, i32_w]
            rfl
          refine pure_ (i := 6) (N := some 18) (v := ?_) (a' := ?_) #[true, true, true, true, true, true, true, false, false, false, false, false, false, false, false] rfl rfl (by kernel_rfl) (fun _ _ _ h => h) (Or.inl ⟨by rfl, ?_⟩) ?_ ?_
          rotate_left
          · intro w'
            go_simp
            with_reducible rfl
          rotate_left
          · simp only [Act.put, List.setIfInBounds_toArray, List.set_cons_zero, List.set_cons_succ, i64_w, i32_w]
            rfl
          refine pure_ (i := 7) (N := some 19) (v := ?_) (a' := ?_) #[true, true, true, true, true, true, true, true, false, false, false, false, false, false, false] rfl rfl (by kernel_rfl) (fun _ _ _ h => h) (Or.inl ⟨by rfl, ?_⟩) ?_ ?_
          rotate_left
          · intro w'
            go_simp
            with_reducible rfl
          rotate_left
          · simp only [Act.put, List.setIfInBounds_toArray, List.set_cons_zero, List.set_cons_succ, i64_w, i32_w]
            rfl
          refine pure_ (i := 9) (N := some 21) (v := ?_) (a' := ?_) #[true, true, true, true, true, true, true, true, false, true, false, false, false, false, false] rfl rfl (by kernel_rfl) (fun _ _ _ h => h) (Or.inl ⟨by rfl, ?_⟩) ?_ ?_
          rotate_left
          · intro w'
            go_simp
            with_reducible rfl
          rotate_left
          · simp only [Act.put, List.setIfInBounds_toArray, List.set_cons_zero, List.set_cons_succ, i64_w, i32_w]
            rfl
          refine pure_ (i := 10) (N := some 22) (v := ?_) (a' := ?_) #[true, true, true, true, true, true, true, true, false, true, true, false, false, false, false] rfl rfl (by kernel_rfl) (fun _ _ _ h => h) (Or.inl ⟨by rfl, ?_⟩) ?_ ?_
          rotate_left
          · intro w'
            go_simp
            with_reducible rfl
          rotate_left
          · simp only [Act.put, List.setIfInBounds_toArray, List.set_cons_zero, List.set_cons_succ, i64_w, i32_w]
            rfl
          refine pure_ (i := 11) (N := some 23) (v := ?_) (a' := ?_) #[true, true, true, true, true, true, true, true, false, true, true, true, false, false, false] rfl rfl (by kernel_rfl) (fun _ _ _ h => h) (Or.inl ⟨by rfl, ?_⟩) ?_ ?_
          rotate_left
          · intro w'
            go_simp
            with_reducible rfl
          rotate_left
          · simp only [Act.put, List.setIfInBounds_toArray, List.set_cons_zero, List.set_cons_succ, i64_w, i32_w]
            rfl
          refine take_ (i := 8) (N := some 20) (v := ?_) (a' := ?_) #[true, true, true, true, true, true, true, true, true, true, true, true, false, false, false] rfl rfl (by kernel_rfl) (fun _ _ _ h => h) (Or.inl ⟨by rfl, ?_⟩) hHeld ?_ ?_
          rotate_left
          · rintro w' ⟨s0, s1⟩
            go_simp
            with_reducible rfl
          rotate_left
          · simp only [Act.put, List.setIfInBounds_toArray, List.set_cons_zero, List.set_cons_succ, i64_w, i32_w]
            rfl
          refine take_ (i := 12) (N := some 24) (v := ?_) (a' := ?_) #[true, true, true, true, true, true, true, true, true, true, true, true, true, false, false] rfl rfl (by kernel_rfl) (fun _ _ _ h => h) (Or.inl ⟨by rfl, ?_⟩) hHeld ?_ ?_
          rotate_left
          · rintro w' ⟨s0, s1⟩
            go_simp
            with_reducible rfl
          rotate_left
          · simp only [Act.put, List.setIfInBounds_toArray, List.set_cons_zero, List.set_cons_succ, i64_w, i32_w]
            rfl
          refine pure_ (i := 13) (N := some 25) (v := ?_) (a' := ?_) #[true, true, true, true, true, true, true, true, true, true, true, true, true, true, false] rfl rfl (by kernel_rfl) (fun _ _ _ h => h) (Or.inl ⟨by rfl, ?_⟩) ?_ ?_
          rotate_left
          · intro w'
            go_simp
            with_reducible rfl
          rotate_left
          · simp only [Act.put, List.setIfInBounds_toArray, List.set_cons_zero, List.set_cons_succ, i64_w, i32_w]
            rfl
          refine pure_ (i := 14) (N := some 26) (v := ?_) (a' := ?_) #[true, true, true, true, true, true, true, true, true, true, true, true, true, true, true] rfl rfl (by kernel_rfl) (fun _ _ _ h => h) (Or.inl ⟨by rfl, ?_⟩) ?_ ?_
          rotate_left
          · intro w'
            go_simp
            with_reducible rfl
          rotate_left
          · simp only [Act.put, List.setIfInBounds_toArray, List.set_cons_zero, List.set_cons_succ, i64_w, i32_w]
            rfl
          refine done_ (by kernel_rfl) ?_

          go_wp2
          go_ret
          exact ⟨congrArg (fun x : Nat => Ending.returned (.int .i64 (x : Int))) HT2.out.symm, HB.out⟩
      · have y2 : decide ((m : Int) ≤ (i : Int)) = true := decide_eq_true (by omega)
        have y2n : decide (m ≤ i) = true := decide_eq_true (by omega)
        have HT2 := Lib.hid (show commonL la lb = i by rw [HT.out, commonL_end (.inr (by rw [HLB.out]; omega))]; omega)
        go_wp2
        refine start_ (n := 15) (S := fun w' => True) (ds := []) #[false, false, false, false, false, false, false, false, false, false, false, false, false, false, false] (by kernel_rfl) rfl rfl trivial (fun hHeld => ?_)
        have HB := Lib.hid (below_drew HB.out)
        refine pure_ (i := 0) (N := some 12) (v := ?_) (a' := ?_) #[true, false, false, false, false, false, false, false, false, false, false, false, false, false, false] rfl rfl (by kernel_rfl) (fun _ _ _ h => h) (Or.inl ⟨by rfl, ?_⟩) ?_ ?_
        rotate_left
        · intro w'
          go_simp
          with_reducible rfl
        rotate_left
        · simp only [Act.put, List.setIfInBounds_toArray, List.set_cons_zero, List.set_cons_succ, i64_w, i32_w]
          rfl
        refine pure_ (i := 1) (N := some 13) (v := ?_) (a' := ?_) #[true, true, false, false, false, false, false, false, false, false, false, false, false, false, false] rfl rfl (by kernel_rfl) (fun _ _ _ h => h) (Or.inl ⟨by rfl, ?_⟩) ?_ ?_
        rotate_left
        · intro w'
          go_simp
          with_reducible rfl
        rotate_left
        · simp only [Act.put, List.setIfInBounds_toArray, List.set_cons_zero, List.set_cons_succ, i64_w, i32_w]
          rfl
        refine pure_ (i := 2) (N := some 14) (v := ?_) (a' := ?_) #[true, true, true, false, false, false, false, false, false, false, false, false, false, false, false] rfl rfl (by kernel_rfl) (fun _ _ _ h => h) (Or.inl ⟨by rfl, ?_⟩) ?_ ?_
        rotate_left
        · intro w'
          go_simp
          with_reducible rfl
        rotate_left
        · simp only [Act.put, List.setIfInBounds_toArray, List.set_cons_zero, List.set_cons_succ, i64_w, i32_w]
          rfl
        refine pure_ (i := 3) (N := some 15) (v := ?_) (a' := ?_) #[true, true, true, true, false, false, false, false, false, false, false, false, false, false, false] rfl rfl (by kernel_rfl) (fun _ _ _ h => h) (Or.inl ⟨by rfl, ?_⟩) ?_ ?_
        rotate_left
        · intro w'
          go_simp
          with_reducible rfl
        rotate_left
        · simp only [Act.put, List.setIfInBounds_toArray, List.set_cons_zero, List.set_cons_succ, i64_w, i32_w]
          rfl
        refine pure_ (i := 4) (N := some 16) (v := ?_) (a' := ?_) #[true, true, true, true, true, false, false, false, false, false, false, false, false, false, false] rfl rfl (by kernel_rfl) (fun _ _ _ h => h) (Or.inl ⟨by rfl, ?_⟩) ?_ ?_
        rotate_left
        · intro w'
          go_simp
          with_reducible rfl
        rotate_left
        · simp only [Act.put, List.setIfInBounds_toArray, List.set_cons_zero, List.set_cons_succ, i64_w, i32_w]
          rfl
        refine pure_ (i := 5) (N := some 17) (v := undef) (a' := ?_) #[true, true, true, true, true, true, false, false, false, false, false, false, false, false, false] rfl rfl (by kernel_rfl) (fun _ _ _ h => h) (Or.inr ⟨by rfl, rfl⟩) ?_ ?_
        rotate_left
        · simp only [Act.put, List.setIfInBounds_toArray, List.set_cons_zero, List.set_cons_succ, i64_w, i32_w]
          rfl
        refine pure_ (i := 6) (N := some 18) (v := undef) (a' := ?_) #[true, true, true, true, true, true, true, false, false, false, false, false, false, false, false] rfl rfl (by kernel_rfl) (fun _ _ _ h => h) (Or.inr ⟨by rfl, rfl⟩) ?_ ?_
        rotate_left
        · simp only [Act.put, List.setIfInBounds_toArray, List.set_cons_zero, List.set_cons_succ, i64_w, i32_w]
          rfl
        refine pure_ (i := 7) (N := some 19) (v := undef) (a' := ?_) #[true, true, true, true, true, true, true, true, false, false, false, false, false, false, false] rfl rfl (by kernel_rfl) (fun _ _ _ h => h) (Or.inr ⟨by rfl, rfl⟩) ?_ ?_
        rotate_left
        · simp only [Act.put, List.setIfInBounds_toArray, List.set_cons_zero, List.set_cons_succ, i64_w, i32_w]
          rfl
        refine pure_ (i := 8) (N := some 20) (v := undef) (a' := ?_) #[true, true, true, true, true, true, true, true, true, false, false, false, false, false, false] rfl rfl (by kernel_rfl) (fun _ _ _ h => h) (Or.inr ⟨by rfl, rfl⟩) ?_ ?_
        rotate_left
        · simp only [Act.put, List.setIfInBounds_toArray, List.set_cons_zero, List.set_cons_succ, i64_w, i32_w]
          rfl
        refine pure_ (i := 9) (N := some 21) (v := undef) (a' := ?_) #[true, true, true, true, true, true, true, true, true, true, false, false, false, false, false] rfl rfl (by kernel_rfl) (fun _ _ _ h => h) (Or.inr ⟨by rfl, rfl⟩) ?_ ?_
        rotate_left
        · simp only [Act.put, List.setIfInBounds_toArray, List.set_cons_zero, List.set_cons_succ, i64_w, i32_w]
          rfl
        refine pure_ (i := 10) (N := some 22) (v := undef) (a' := ?_) #[true, true, true, true, true, true, true, true, true, true, true, false, false, false, false] rfl rfl (by kernel_rfl) (fun _ _ _ h => h) (Or.inr ⟨by rfl, rfl⟩) ?_ ?_
        rotate_left
        · simp only [Act.put, List.setIfInBounds_toArray, List.set_cons_zero, List.set_cons_succ, i64_w, i32_w]
          rfl
        refine pure_ (i := 11) (N := some 23) (v := undef) (a' := ?_) #[true, true, true, true, true, true, true, true, true, true, true, true, false, false, false] rfl rfl (by kernel_rfl) (fun _ _ _ h => h) (Or.inr ⟨by rfl, rfl⟩) ?_ ?_
        rotate_left
        · simp only [Act.put, List.setIfInBounds_toArray, List.set_cons_zero, List.set_cons_succ, i64_w, i32_w]
          rfl
        refine pure_ (i := 12) (N := some 24) (v := undef) (a' := ?_) #[true, true, true, true, true, true, true, true, true, true, true, true, true, false, false] rfl rfl (by kernel_rfl) (fun _ _ _ h => h) (Or.inr ⟨by rfl, rfl⟩) ?_ ?_
        rotate_left
        · simp only [Act.put, List.setIfInBounds_toArray, List.set_cons_zero, List.set_cons_succ, i64_w, i32_w]
          rfl
        refine pure_ (i := 13) (N := some 25) (v := undef) (a' := ?_) #[true, true, true, true, true, true, true, true, true, true, true, true, true, true, false] rfl rfl (by kernel_rfl) (fun _ _ _ h => h) (Or.inr ⟨by rfl, rfl⟩) ?_ ?_
        rotate_left
        · simp only [Act.put, List.setIfInBounds_toArray, List.set_cons_zero, List.set_cons_succ, i64_w, i32_w]
          rfl
        refine pure_ (i := 14) (N := some 26) (v := ?_) (a' := ?_) #[true, true, true, true, true, true, true, true, true, true, true, true, true, true, true] rfl rfl (by kernel_rfl) (fun _ _ _ h => h) (Or.inl ⟨by rfl, ?_⟩) ?_ ?_
        rotate_left
        · intro w'
          go_simp
          with_reducible rfl
        rotate_left
        · simp only [Act.put, List.setIfInBounds_toArray, List.set_cons_zero, List.set_cons_succ, i64_w, i32_w]
          rfl
        refine done_ (by kernel_rfl) ?_

        go_wp2
        go_ret
        exact ⟨congrArg (fun x : Nat => Ending.returned (.int .i64 (x : Int))) HT2.out.symm, HB.out⟩
    · obtain rfl : i = n := by omega
      have y1 : decide ((i : Int) < (i : Int)) = false := decide_eq_false (by omega)
      have HT2 := Lib.hid (show commonL la lb = i by rw [HT.out, commonL_end (.inl (by rw [HLA.out]; exact Nat.le_refl _))]; omega)
      go_wp2
      go_ret
      exact ⟨congrArg (fun x : Nat => Ending.returned (.int .i64 (x : Int))) HT2.out.symm, HB.out⟩
set_option maxHeartbeats 4000000 in
theorem rsame_any (A B : Option Addr) (n c m d : Nat) (la lb : List ByteArray) (w : World) (hA : RowF w 1 strC A n la) (hB : RowF w 1 strC B m lb) (hn : n ≤ 1000000) (hm : m ≤ 1000000) :
    Calls Try.prog 29 #[.slice A n c, .slice B m d] w fun e w' => e = .returned (.bool (decide (la = lb))) ∧ Below w.heap.size w w' := by
  have RC := Lib.hid (rcommon_any A B n c m d la lb w hA hB hn hm)
  have hla := hA.1
  have hlb := hB.1
  by_cases hnm : n = m
  · have hc := commonL_all (a := la) (b := lb) (by omega)
    rw [hla] at hc
    generalize commonL la lb = C at *
    have y1 : ((n : Int) == (m : Int)) = true := by simp; omega
    have y1n : (n == m) = true := by simp; exact hnm
    have HH := Lib.hid (show decide (la = lb) = decide (C = n) from decide_eq_decide.2 hc.symm)
    rw [HH.out]
    have HI : (((C : Nat) : Int) == (n : Int)) = decide (C = n) := by
      by_cases e : C = n
      · rw [decide_eq_true e]; simp [e]
      · rw [decide_eq_false e]; simp; omega
    have HIn : (C == n) = decide (C = n) := by
      by_cases e : C = n
      · rw [decide_eq_true e]; simp [e]
      · rw [decide_eq_false e]; simp [e]
    clear hc HH hnm hA hB hla hlb hn hm
    go_enter Try.func29, Try.ntmps29
    go_wp2_with fail
    refine RC.out.mono ?_
    rintro e w1 ⟨rfl, hb⟩
    have HB := Lib.hid hb; clear hb
    cases hd : decide (C = n) with
    | true =>
      rw [hd] at HI HIn
      go_wp2
      go_ret
      exact ⟨congrArg (fun x => Ending.returned (.bool x)) hd.symm, HB.out⟩
    | false =>
      rw [hd] at HI HIn
      go_wp2
      go_ret
      exact ⟨congrArg (fun x => Ending.returned (.bool x)) hd.symm, HB.out⟩
  · have y1 : ((n : Int) == (m : Int)) = false := by simp; omega
    have y1n : (n == m) = false := by simp; exact hnm
    rw [decide_eq_false (show ¬ la = lb from fun e => hnm (by rw [← hla, ← hlb, e]))]
    clear hnm hA hB hla hlb hn hm RC
    go_enter Try.func29, Try.ntmps29
    go_wp2
    go_ret
    exact ⟨rfl, Below.refl _ _⟩
set_option maxRecDepth 100000 in
set_option maxHeartbeats 4000000 in
theorem rfew08_any (A : Option Addr) (n c : Nat) (l : List ByteArray) (mx sz : Nat) (w : World) (hA : RowF w 1 strC A n l) (hn : n ≤ 140737488351232) (hmx : mx ≤ 299) (hsz : sz ≤ 1000) :
    Calls Try.prog 22 #[.slice A n c, .int .i64 (mx : Int), .int .i64 (sz : Int)] w fun e w' => ∃ b : Bool, e = .returned (.bool b) ∧ (b = true → n ≤ mx ∧ ∀ x ∈ l, x.size ≤ sz) ∧ w' = w := by
  have HA := Lib.hid hA; clear hA
  go_enter Try.func22, Try.ntmps22
  go_wp2
  go_loopw [7] (fun u wr => ∃ i : Nat, u = .int .i64 i ∧ i ≤ n ∧ i ≤ 300 ∧ Hid (∀ j (h : j < l.length), j < i → l[j].size ≤ sz) ∧ wr = w) (fun u _ => n - (intOf u).toNat)
  case atStart => exact ⟨0, rfl, Nat.zero_le _, Nat.zero_le _, Lib.hid (fun j _ h => absurd h (Nat.not_lt_zero _)), rfl⟩
  case round =>
    obtain ⟨i, rfl, hi, hi5, HT, rfl⟩ := hrel
    by_cases hlt : i < n
    · have y1 : decide ((i : Int) < (n : Int)) = true := decide_eq_true (by omega)
      by_cases h5 : i < 300
      · have y5 : decide ((i : Int) < 300) = true := decide_eq_true (by omega)
        obtain ⟨bb, off, hj, rfl, hbW, hc⟩ := str_cell HA.out hlt
        have HTI := Lib.hid (fun (h50 : l[i].size ≤ sz) => (show ∀ j (h : j < l.length), j < i + 1 → l[j].size ≤ sz from fun j h hji => by
          by_cases e : j = i
          · subst e; exact h50
          · exact HT.out j h (by omega)))
        obtain ⟨t, hx⟩ : ∃ x, l[i] = x := ⟨_, rfl⟩
        rw [hx] at hc HTI
        have c1 : wr.cell? ⟨bb, off + i, none⟩ = some (.string t) := hc
        clear hc hx hj
        have hw := succ_w hlt hn
        by_cases h50 : sz < t.size
        · have y2 : decide ((sz : Int) < (t.size : Int)) = true := decide_eq_true (by omega)
          have y2n : decide (sz < t.size) = true := decide_eq_true h50
          go_wp2
          go_ret
          exact ⟨false, rfl, (fun h => by cases h), rfl⟩
        have y2 : decide ((sz : Int) < (t.size : Int)) = false := decide_eq_false (by omega)
        have y2n : decide (sz < t.size) = false := decide_eq_false h50
        have HT2 := Lib.hid (HTI.out (by omega))
        have HLT := Lib.hid hlt
        have H5 := Lib.hid h5
        go_wp2
        go_roundw
        case rel => exact ⟨i + 1, by go_num, HLT.out, H5.out, HT2, by trivial⟩
        case measure => first | exact up_w HLT.out hw | exact up_w2 HLT.out
      · obtain rfl : i = 300 := by omega
        have y6 : decide ((n : Int) ≤ (mx : Int)) = false := decide_eq_false (by omega)
        have y6n : decide (n ≤ mx) = false := decide_eq_false (by omega)
        go_wp2
        go_ret
        exact ⟨false, rfl, (fun h => by cases h), rfl⟩
    · obtain rfl : i = n := by omega
      have y1 : decide ((i : Int) < (i : Int)) = false := decide_eq_false (by omega)
      have HLL := Lib.hid (show ∀ x ∈ l, x.size ≤ sz from fun x hx => by
        obtain ⟨j, hj, rfl⟩ := List.getElem_of_mem hx
        exact HT.out j hj (by have := HA.out.1; omega))
      by_cases h12 : i ≤ mx
      · have y6 : decide ((i : Int) ≤ (mx : Int)) = true := decide_eq_true (by omega)
        have y6n : decide (i ≤ mx) = true := decide_eq_true h12
        have H12 := Lib.hid h12
        go_wp2
        go_ret
        exact ⟨true, rfl, fun _ => ⟨H12.out, HLL.out⟩, rfl⟩
      · have y6 : decide ((i : Int) ≤ (mx : Int)) = false := decide_eq_false (by omega)
        have y6n : decide (i ≤ mx) = false := decide_eq_false h12
        go_wp2
        go_ret
        exact ⟨false, rfl, (fun h => by cases h), rfl⟩
set_option maxRecDepth 100000 in
set_option maxHeartbeats 8000000 in
theorem bytes_any {w : World} {base h : Nat} {V W : Value} {d : DkS} (k : Dk w base h V W d) (ho : d.Ok) (hg : d.gone = false) (hl : d.waits.length ≤ 1000000) :
    Calls Try.prog 28 #[.pointer (some ⟨h, 0, none⟩)] w fun e w' => e = .returned (.string ⟨(allL d d.sure.length).toArray⟩) ∧ Below w.heap.size w w' := by
  obtain ⟨N, hN⟩ : ∃ N, d.sure.length = N := ⟨_, rfl⟩
  have hN4 : N ≤ 4096 := by rw [← hN]; exact ho.len
  have SC := Lib.hid (fun (w' : World) (hb : Below w.heap.size w w') => dk_sectors (k.below hb))
  have RD := Lib.hid (fun (w' : World) (hb : Below w.heap.size w w') (i : Nat) (hi : i < N) => dk_read (k.below hb) ho i (by unfold mayS; rw [if_neg (by rw [hg]; decide), if_neg (by rw [hN]; omega)]) hl)
  have AL := Lib.hid (fun n (h : n ≤ N) => allL_len ho n (by rw [hN]; exact h))
  have RS := Lib.hid (fun i (h : i < N) => lastW_size ho (i := i) (by rw [hN]; exact h))
  rw [hN] at SC ⊢
  clear k ho hg hl hN
  go_enter Try.func28, Try.ntmps28
  go_wp2
  go_loopw [3, 4] (fun v3 v4 wr => ∃ i : Nat, v3 = .string ⟨(allL d i).toArray⟩ ∧ v4 = .int .i64 i ∧ i ≤ N ∧ Hid (Below w.heap.size w wr)) (fun _ v4 _ => N - (intOf v4).toNat)
  case atStart => exact ⟨0, rfl, rfl, Nat.zero_le _, Lib.hid (Below.refl _ _)⟩
  case round =>
    obtain ⟨i, rfl, rfl, hi, HB⟩ := hrel
    by_cases hlt : i < N
    · have x1 : decide ((i : Int) < (N : Int)) = true := by simp; omega
      have x1n : decide (i < N) = true := by simp; omega
      have HA := Lib.hid (show (⟨(allL d i).toArray⟩ : ByteArray) ++ readS d i = ⟨(allL d (i + 1)).toArray⟩ from bl_ext (by rw [bl_append]; rfl))
      have hsz := RS.out i hlt
      have hal : (⟨(allL d i).toArray⟩ : ByteArray).size = 64 * i := by rw [← bl_length]; exact AL.out i hi
      have RI := Lib.hid (fun w' hb => RD.out w' hb i hlt)
      have HW := Lib.hid (succ_w hlt (show N ≤ 140737488351232 by omega))
      generalize readS d i = s at *
      generalize (⟨(allL d i).toArray⟩ : ByteArray) = E at *
      have zz : ¬ 9223372036854775807 < E.size + s.size := by omega
      have hzz : E.size + s.size ≤ 140737488351232 := by omega
      clear hsz hal
      go_wp2_with fail
      refine (SC.out _ HB.out).mono ?_
      rintro e wq ⟨rfl, rfl⟩
      go_wp2_with fail
      refine (RI.out _ HB.out).mono ?_
      rintro e w5 ⟨rfl, hb⟩
      replace HB := Lib.hid (HB.out.trans (hb.mono HB.out.size))
      clear hb RI x1 x1n
      have hw := HW.out
      go_wp2
      go_roundw
      case rel => exact ⟨i + 1, by rw [← HA.out], by go_num, hlt, HB⟩
      case measure => first | exact up_w hlt hw | exact up_w2 hlt
    · have x1 : decide ((i : Int) < (N : Int)) = false := by simp; omega
      have x1n : decide (i < N) = false := by simp; omega
      obtain rfl : i = N := by omega
      go_wp2_with fail
      refine (SC.out _ HB.out).mono ?_
      rintro e wq ⟨rfl, rfl⟩
      go_wp2
      go_ret
      exact ⟨rfl, HB.out⟩
end Go.Proofs.Ytoandabafkdgjaa.My
