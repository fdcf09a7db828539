/- msg.reader: Found, txn, version. -/
import Derived.Test.YtemhmgpihkemjaaMrd2
namespace Go.Proofs.Ytemhmgpihkemjaa.My
set_option linter.unusedSimpArgs false
set_option linter.unusedVariables false
open Go.RowKit Go.Proofs.YtemhmgpihkemjaaW.PrintWords Go.Proofs.YtemhmgpihkemjaaW.PrintLast Go.Proofs.Ytemhmgpihkemjaa.Pm

theorem mr_ne {cs : Array Value} {i : Nat} (h : i ≠ 19) (v : Value) : (cs.setIfInBounds i v)[19]? = cs[19]? := Array.getElem?_setIfInBounds_ne h
theorem IsBx.set {w : World} {bx g q : Nat} (h : IsBx w bx g) (hn : bx ≠ q) (i : Nat) (u : Value) : IsBx (w.setCell ⟨q, i, none⟩ u) bx g := (Below.heap_setCell w ⟨q, i, none⟩ u bx hn).trans h
theorem IsMR.there {w : World} {g o n : Nat} {cs : Array Value} (h : IsMR w g cs) (hn : o + n ≤ 20) : w.there g o n := fun j hj => by
  obtain ⟨y, hy⟩ := h.some (i := o + j) (by omega)
  exact ⟨by rw [hy]; rfl, h.f _⟩
set_option maxRecDepth 100000 in
set_option maxHeartbeats 4000000 in
theorem rd_f6 (g bx : Nat) (cs : Array Value) (s : ByteArray) (bad : Bool) (w : World) (hR : IsMR w g cs) (h19 : cs[19]? = some (.bool bad)) (hX : IsBx w bx g) :
    Calls Try.prog 51 #[.string s, .pointer (some ⟨bx, 0, none⟩)] w fun e w' => e = .returned (.tuple #[]) ∧ IsMR w' g ((cs.setIfInBounds 9 (.bool true)).setIfInBounds 19 (.bool (bad || !s.toList.isEmpty))) ∧ Keeps (Only g) w w' := by
  have HR := Lib.hid (hR.below (below_drew (Below.refl _ _)))
  have b0 := hX.c
  have d0 := hR.cell h19
  have fw : w.frozen? ⟨g, 19, none⟩ = false := hR.f 19
  have f1 := HR.out.f 9
  have f2 := HR.out.f 19
  obtain ⟨y1, hy1⟩ := HR.out.some (i := 9) (by decide)
  have hy2 := HR.out.cell h19
  have hgl := HR.out.lt
  obtain ⟨z, hz⟩ : ∃ z, s.toList.isEmpty = z := ⟨_, rfl⟩
  rw [hz]
  have HNE := Lib.hid (hX.ne hR)
  have HX := Lib.hid (hX.below (below_drew (Below.refl _ _)))
  clear hX hR
  have H19 := Lib.hid h19
  clear h19
  cases bad with
  | true =>
    go_enter Try.func51, Try.ntmps51
    go_wp2
    refine start_ (n := 17) (S := fun w' => w'.cell? ⟨bx, 0, none⟩ = some (.pointer (some ⟨g, 0, none⟩)) ∧ w'.cell? ⟨g, 19, none⟩ = some (.bool true)) (ds := [16]) #[false, false, false, false, false, false, false, false, false, false, false, false, false, false, false, false, false] (by kernel_rfl) rfl rfl ⟨b0, d0⟩ (fun hHeld => ?_)
    refine take_ (i := 0) (N := some 3) (v := ?_) (a' := ?_) #[true, false, false, false, false, false, false, false, false, false, false, false, false, false, false, false, false] rfl rfl (by kernel_rfl) (fun _ _ _ h => h) (Or.inl ⟨by rfl, ?_⟩) hHeld ?_ ?_
    rotate_left
    · rintro w' ⟨s0, s1⟩
      go_simp
      with_reducible rfl
    rotate_left
    · simp only [Act.put, List.setIfInBounds_toArray, List.set_cons_zero, List.set_cons_succ, i64_w, i32_w]
      rfl
    refine take_ (i := 1) (N := some 4) (v := ?_) (a' := ?_) #[true, true, false, false, false, false, false, false, false, false, false, false, false, false, false, false, false] rfl rfl (by kernel_rfl) (fun _ _ _ h => h) (Or.inl ⟨by rfl, ?_⟩) hHeld ?_ ?_
    rotate_left
    · rintro w' ⟨s0, s1⟩
      go_simp
      with_reducible rfl
    rotate_left
    · simp only [Act.put, List.setIfInBounds_toArray, List.set_cons_zero, List.set_cons_succ, i64_w, i32_w]
      rfl
    refine take_ (i := 2) (N := some 5) (v := ?_) (a' := ?_) #[true, true, true, false, false, false, false, false, false, false, false, false, false, false, false, false, false] rfl rfl (by kernel_rfl) (fun _ _ _ h => h) (Or.inl ⟨by rfl, ?_⟩) hHeld ?_ ?_
    rotate_left
    · rintro w' ⟨s0, s1⟩
      go_simp
      with_reducible rfl
    rotate_left
    · simp only [Act.put, List.setIfInBounds_toArray, List.set_cons_zero, List.set_cons_succ, i64_w, i32_w]
      rfl
    refine pure_ (i := 3) (N := some 6) (v := ?_) (a' := ?_) #[true, true, true, true, false, false, false, false, false, false, false, false, false, false, false, false, false] rfl rfl (by kernel_rfl) (fun _ _ _ h => h) (Or.inl ⟨by rfl, ?_⟩) ?_ ?_
    rotate_left
    · intro w'
      go_simp
      with_reducible rfl
    rotate_left
    · simp only [Act.put, List.setIfInBounds_toArray, List.set_cons_zero, List.set_cons_succ, i64_w, i32_w]
      rfl
    refine pure_ (i := 4) (N := some 7) (v := ?_) (a' := ?_) #[true, true, true, true, true, false, false, false, false, false, false, false, false, false, false, false, false] rfl rfl (by kernel_rfl) (fun _ _ _ h => h) (Or.inl ⟨by rfl, ?_⟩) ?_ ?_
    rotate_left
    · intro w'
      go_simp
      with_reducible rfl
    rotate_left
    · simp only [Act.put, List.setIfInBounds_toArray, List.set_cons_zero, List.set_cons_succ, i64_w, i32_w]
      rfl
    refine take_ (i := 5) (N := some 8) (v := ?_) (a' := ?_) #[true, true, true, true, true, true, false, false, false, false, false, false, false, false, false, false, false] rfl rfl (by kernel_rfl) (fun _ _ _ h => h) (Or.inl ⟨by rfl, ?_⟩) hHeld ?_ ?_
    rotate_left
    · rintro w' ⟨s0, s1⟩
      go_simp
      with_reducible rfl
    rotate_left
    · simp only [Act.put, List.setIfInBounds_toArray, List.set_cons_zero, List.set_cons_succ, i64_w, i32_w]
      rfl
    refine pure_ (i := 6) (N := some 9) (v := ?_) (a' := ?_) #[true, true, true, true, true, true, true, false, false, false, false, false, false, false, false, false, false] rfl rfl (by kernel_rfl) (fun _ _ _ h => h) (Or.inl ⟨by rfl, ?_⟩) ?_ ?_
    rotate_left
    · intro w'
      go_simp
      with_reducible rfl
    rotate_left
    · simp only [Act.put, List.setIfInBounds_toArray, List.set_cons_zero, List.set_cons_succ, i64_w, i32_w]
      rfl
    refine pure_ (i := 7) (N := some 10) (v := undef) (a' := ?_) #[true, true, true, true, true, true, true, true, false, false, false, false, false, false, false, false, false] rfl rfl (by kernel_rfl) (fun _ _ _ h => h) (Or.inr ⟨by rfl, rfl⟩) ?_ ?_
    rotate_left
    · simp only [Act.put, List.setIfInBounds_toArray, List.set_cons_zero, List.set_cons_succ, i64_w, i32_w]
      rfl
    refine pure_ (i := 8) (N := some 11) (v := undef) (a' := ?_) #[true, true, true, true, true, true, true, true, true, false, false, false, false, false, false, false, false] rfl rfl (by kernel_rfl) (fun _ _ _ h => h) (Or.inr ⟨by rfl, rfl⟩) ?_ ?_
    rotate_left
    · simp only [Act.put, List.setIfInBounds_toArray, List.set_cons_zero, List.set_cons_succ, i64_w, i32_w]
      rfl
    refine pure_ (i := 9) (N := some 12) (v := ?_) (a' := ?_) #[true, true, true, true, true, true, true, true, true, true, false, false, false, false, false, false, false] rfl rfl (by kernel_rfl) (fun _ _ _ h => h) (Or.inl ⟨by rfl, ?_⟩) ?_ ?_
    rotate_left
    · intro w'
      go_simp
      with_reducible rfl
    rotate_left
    · simp only [Act.put, List.setIfInBounds_toArray, List.set_cons_zero, List.set_cons_succ, i64_w, i32_w]
      rfl
    refine pure_ (i := 10) (N := some 13) (v := ?_) (a' := ?_) #[true, true, true, true, true, true, true, true, true, true, true, false, false, false, false, false, false] rfl rfl (by kernel_rfl) (fun _ _ _ h => h) (Or.inl ⟨by rfl, ?_⟩) ?_ ?_
    rotate_left
    · intro w'
      go_simp
      with_reducible rfl
    rotate_left
    · simp only [Act.put, List.setIfInBounds_toArray, List.set_cons_zero, List.set_cons_succ, i64_w, i32_w]
      rfl
    refine pure_ (i := 11) (N := some 14) (v := ?_) (a' := ?_) #[true, true, true, true, true, true, true, true, true, true, true, true, false, false, false, false, false] rfl rfl (by kernel_rfl) (fun _ _ _ h => h) (Or.inl ⟨by rfl, ?_⟩) ?_ ?_
    rotate_left
    · intro w'
      go_simp
      with_reducible rfl
    rotate_left
    · simp only [Act.put, List.setIfInBounds_toArray, List.set_cons_zero, List.set_cons_succ, i64_w, i32_w]
      rfl
    refine pure_ (i := 12) (N := some 15) (v := ?_) (a' := ?_) #[true, true, true, true, true, true, true, true, true, true, true, true, true, false, false, false, false] rfl rfl (by kernel_rfl) (fun _ _ _ h => h) (Or.inl ⟨by rfl, ?_⟩) ?_ ?_
    rotate_left
    · intro w'
      go_simp
      with_reducible rfl
    rotate_left
    · simp only [Act.put, List.setIfInBounds_toArray, List.set_cons_zero, List.set_cons_succ, i64_w, i32_w]
      rfl
    refine one_ (i := 13) (N := none) #[true, true, true, true, true, true, true, true, true, true, true, true, true, true, false, false, false] rfl rfl (by kernel_rfl) (by decide) (fun K hK => ?_)
    refine skip_ (w1 := ?_) (by rfl) rfl ?_ ?_
    rotate_left
    · go_simp
      rfl
    replace HR := Lib.hid (HR.out.set 9 (.bool true))
    replace HX := Lib.hid (HX.out.set HNE.out 9 (.bool true))
    have f2 := HR.out.f 19
    have hy2 := HR.out.cell ((mr_ne (by decide) _).trans H19.out)
    have hgl := HR.out.lt
    refine hK.out _ _ ⟨HX.out.c, (HR.out.cell ((mr_ne (by decide) _).trans H19.out))⟩ (fun hHeld => ?_)
    clear hK K
    refine pure_ (i := 14) (N := some 16) (v := ?_) (a' := ?_) #[true, true, true, true, true, true, true, true, true, true, true, true, true, true, true, false, false] rfl rfl (by kernel_rfl) (fun _ _ _ h => h) (Or.inl ⟨by rfl, ?_⟩) ?_ ?_
    rotate_left
    · intro w'
      go_simp
      with_reducible rfl
    rotate_left
    · simp only [Act.put, List.setIfInBounds_toArray, List.set_cons_zero, List.set_cons_succ, i64_w, i32_w]
      rfl
    refine pure_ (i := 15) (N := some 17) (v := ?_) (a' := ?_) #[true, true, true, true, true, true, true, true, true, true, true, true, true, true, true, true, false] rfl rfl (by kernel_rfl) (fun _ _ _ h => h) (Or.inl ⟨by rfl, ?_⟩) ?_ ?_
    rotate_left
    · intro w'
      go_simp
      with_reducible rfl
    rotate_left
    · simp only [Act.put, List.setIfInBounds_toArray, List.set_cons_zero, List.set_cons_succ, i64_w, i32_w]
      rfl
    refine last_ (i := 16) (N := none) #[true, true, true, true, true, true, true, true, true, true, true, true, true, true, true, true, true] rfl rfl (by kernel_rfl) (by decide) (fun K hK => ?_)
    refine skip_ (w1 := ?_) (by rfl) rfl ?_ ?_
    rotate_left
    · go_simp
      rfl
    refine hK.out _ _ ?_
    clear hK K
    refine done_ (by kernel_rfl) ?_

    go_wp2
    go_end0
    exact ⟨rfl, HR.out.set 19 _, ((Keeps.refl (Only g) w).drew.own 9 _).own 19 _⟩
  | false =>
    go_enter Try.func51, Try.ntmps51
    go_wp2
    refine start_ (n := 17) (S := fun w' => w'.cell? ⟨bx, 0, none⟩ = some (.pointer (some ⟨g, 0, none⟩)) ∧ w'.cell? ⟨g, 19, none⟩ = some (.bool false)) (ds := [16]) #[false, false, false, false, false, false, false, false, false, false, false, false, false, false, false, false, false] (by kernel_rfl) rfl rfl ⟨b0, d0⟩ (fun hHeld => ?_)
    refine take_ (i := 0) (N := some 3) (v := ?_) (a' := ?_) #[true, false, false, false, false, false, false, false, false, false, false, false, false, false, false, false, false] rfl rfl (by kernel_rfl) (fun _ _ _ h => h) (Or.inl ⟨by rfl, ?_⟩) hHeld ?_ ?_
    rotate_left
    · rintro w' ⟨s0, s1⟩
      go_simp
      with_reducible rfl
    rotate_left
    · simp only [Act.put, List.setIfInBounds_toArray, List.set_cons_zero, List.set_cons_succ, i64_w, i32_w]
      rfl
    refine take_ (i := 1) (N := some 4) (v := ?_) (a' := ?_) #[true, true, false, false, false, false, false, false, false, false, false, false, false, false, false, false, false] rfl rfl (by kernel_rfl) (fun _ _ _ h => h) (Or.inl ⟨by rfl, ?_⟩) hHeld ?_ ?_
    rotate_left
    · rintro w' ⟨s0, s1⟩
      go_simp
      with_reducible rfl
    rotate_left
    · simp only [Act.put, List.setIfInBounds_toArray, List.set_cons_zero, List.set_cons_succ, i64_w, i32_w]
      rfl
    refine take_ (i := 2) (N := some 5) (v := ?_) (a' := ?_) #[true, true, true, false, false, false, false, false, false, false, false, false, false, false, false, false, false] rfl rfl (by kernel_rfl) (fun _ _ _ h => h) (Or.inl ⟨by rfl, ?_⟩) hHeld ?_ ?_
    rotate_left
    · rintro w' ⟨s0, s1⟩
      go_simp
      with_reducible rfl
    rotate_left
    · simp only [Act.put, List.setIfInBounds_toArray, List.set_cons_zero, List.set_cons_succ, i64_w, i32_w]
      rfl
    refine pure_ (i := 3) (N := some 6) (v := ?_) (a' := ?_) #[true, true, true, true, false, false, false, false, false, false, false, false, false, false, false, false, false] rfl rfl (by kernel_rfl) (fun _ _ _ h => h) (Or.inl ⟨by rfl, ?_⟩) ?_ ?_
    rotate_left
    · intro w'
      go_simp
      with_reducible rfl
    rotate_left
    · simp only [Act.put, List.setIfInBounds_toArray, List.set_cons_zero, List.set_cons_succ, i64_w, i32_w]
      rfl
    refine pure_ (i := 4) (N := some 7) (v := ?_) (a' := ?_) #[true, true, true, true, true, false, false, false, false, false, false, false, false, false, false, false, false] rfl rfl (by kernel_rfl) (fun _ _ _ h => h) (Or.inl ⟨by rfl, ?_⟩) ?_ ?_
    rotate_left
    · intro w'
      go_simp
      with_reducible rfl
    rotate_left
    · simp only [Act.put, List.setIfInBounds_toArray, List.set_cons_zero, List.set_cons_succ, i64_w, i32_w]
      rfl
    refine take_ (i := 5) (N := some 8) (v := ?_) (a' := ?_) #[true, true, true, true, true, true, false, false, false, false, false, false, false, false, false, false, false] rfl rfl (by kernel_rfl) (fun _ _ _ h => h) (Or.inl ⟨by rfl, ?_⟩) hHeld ?_ ?_
    rotate_left
    · rintro w' ⟨s0, s1⟩
      go_simp
      with_reducible rfl
    rotate_left
    · simp only [Act.put, List.setIfInBounds_toArray, List.set_cons_zero, List.set_cons_succ, i64_w, i32_w]
      rfl
    refine pure_ (i := 6) (N := some 9) (v := ?_) (a' := ?_) #[true, true, true, true, true, true, true, false, false, false, false, false, false, false, false, false, false] rfl rfl (by kernel_rfl) (fun _ _ _ h => h) (Or.inl ⟨by rfl, ?_⟩) ?_ ?_
    rotate_left
    · intro w'
      go_simp
      with_reducible rfl
    rotate_left
    · simp only [Act.put, List.setIfInBounds_toArray, List.set_cons_zero, List.set_cons_succ, i64_w, i32_w]
      rfl
    refine pure_ (i := 7) (N := some 10) (v := ?_) (a' := ?_) #[true, true, true, true, true, true, true, true, false, false, false, false, false, false, false, false, false] rfl rfl (by kernel_rfl) (fun _ _ _ h => h) (Or.inl ⟨by rfl, ?_⟩) ?_ ?_
    rotate_left
    · intro w'
      go_simp
      with_reducible rfl
    rotate_left
    · simp only [Act.put, List.setIfInBounds_toArray, List.set_cons_zero, List.set_cons_succ, i64_w, i32_w]
      rfl
    refine pure_ (i := 8) (N := some 11) (v := ?_) (a' := ?_) #[true, true, true, true, true, true, true, true, true, false, false, false, false, false, false, false, false] rfl rfl (by kernel_rfl) (fun _ _ _ h => h) (Or.inl ⟨by rfl, ?_⟩) ?_ ?_
    rotate_left
    · intro w'
      go_simp
      with_reducible rfl
    rotate_left
    · simp only [Act.put, List.setIfInBounds_toArray, List.set_cons_zero, List.set_cons_succ, i64_w, i32_w]
      rfl
    refine pure_ (i := 9) (N := some 12) (v := ?_) (a' := ?_) #[true, true, true, true, true, true, true, true, true, true, false, false, false, false, false, false, false] rfl rfl (by kernel_rfl) (fun _ _ _ h => h) (Or.inl ⟨by rfl, ?_⟩) ?_ ?_
    rotate_left
    · intro w'
      go_simp
      with_reducible rfl
    rotate_left
    · simp only [Act.put, List.setIfInBounds_toArray, List.set_cons_zero, List.set_cons_succ, i64_w, i32_w]
      rfl
    refine pure_ (i := 10) (N := some 13) (v := ?_) (a' := ?_) #[true, true, true, true, true, true, true, true, true, true, true, false, false, false, false, false, false] rfl rfl (by kernel_rfl) (fun _ _ _ h => h) (Or.inl ⟨by rfl, ?_⟩) ?_ ?_
    rotate_left
    · intro w'
      go_simp
      with_reducible rfl
    rotate_left
    · simp only [Act.put, List.setIfInBounds_toArray, List.set_cons_zero, List.set_cons_succ, i64_w, i32_w]
      rfl
    refine pure_ (i := 11) (N := some 14) (v := ?_) (a' := ?_) #[true, true, true, true, true, true, true, true, true, true, true, true, false, false, false, false, false] rfl rfl (by kernel_rfl) (fun _ _ _ h => h) (Or.inl ⟨by rfl, ?_⟩) ?_ ?_
    rotate_left
    · intro w'
      go_simp
      with_reducible rfl
    rotate_left
    · simp only [Act.put, List.setIfInBounds_toArray, List.set_cons_zero, List.set_cons_succ, i64_w, i32_w]
      rfl
    refine pure_ (i := 12) (N := some 15) (v := ?_) (a' := ?_) #[true, true, true, true, true, true, true, true, true, true, true, true, true, false, false, false, false] rfl rfl (by kernel_rfl) (fun _ _ _ h => h) (Or.inl ⟨by rfl, ?_⟩) ?_ ?_
    rotate_left
    · intro w'
      go_simp
      with_reducible rfl
    rotate_left
    · simp only [Act.put, List.setIfInBounds_toArray, List.set_cons_zero, List.set_cons_succ, i64_w, i32_w]
      rfl
    refine one_ (i := 13) (N := none) #[true, true, true, true, true, true, true, true, true, true, true, true, true, true, false, false, false] rfl rfl (by kernel_rfl) (by decide) (fun K hK => ?_)
    refine skip_ (w1 := ?_) (by rfl) rfl ?_ ?_
    rotate_left
    · go_simp
      rfl
    replace HR := Lib.hid (HR.out.set 9 (.bool true))
    replace HX := Lib.hid (HX.out.set HNE.out 9 (.bool true))
    have f2 := HR.out.f 19
    have hy2 := HR.out.cell ((mr_ne (by decide) _).trans H19.out)
    have hgl := HR.out.lt
    refine hK.out _ _ ⟨HX.out.c, (HR.out.cell ((mr_ne (by decide) _).trans H19.out))⟩ (fun hHeld => ?_)
    clear hK K
    refine pure_ (i := 14) (N := some 16) (v := ?_) (a' := ?_) #[true, true, true, true, true, true, true, true, true, true, true, true, true, true, true, false, false] rfl rfl (by kernel_rfl) (fun _ _ _ h => h) (Or.inl ⟨by rfl, ?_⟩) ?_ ?_
    rotate_left
    · intro w'
      go_simp
      with_reducible rfl
    rotate_left
    · simp only [Act.put, List.setIfInBounds_toArray, List.set_cons_zero, List.set_cons_succ, i64_w, i32_w]
      rfl
    refine pure_ (i := 15) (N := some 17) (v := ?_) (a' := ?_) #[true, true, true, true, true, true, true, true, true, true, true, true, true, true, true, true, false] rfl rfl (by kernel_rfl) (fun _ _ _ h => h) (Or.inl ⟨by rfl, ?_⟩) ?_ ?_
    rotate_left
    · intro w'
      go_simp
      with_reducible rfl
    rotate_left
    · simp only [Act.put, List.setIfInBounds_toArray, List.set_cons_zero, List.set_cons_succ, i64_w, i32_w]
      rfl
    refine last_ (i := 16) (N := none) #[true, true, true, true, true, true, true, true, true, true, true, true, true, true, true, true, true] rfl rfl (by kernel_rfl) (by decide) (fun K hK => ?_)
    refine skip_ (w1 := ?_) (by rfl) rfl ?_ ?_
    rotate_left
    · go_simp
      rfl
    refine hK.out _ _ ?_
    clear hK K
    refine done_ (by kernel_rfl) ?_

    go_wp2
    go_end0
    exact ⟨rfl, HR.out.set 19 _, ((Keeps.refl (Only g) w).drew.own 9 _).own 19 _⟩
/-- A transaction's numbers. -/
def txC (cs : Array Value) (bad : Bool) (a b d : Nat) (ok : Bool) : Array Value :=
  ((((((cs.setIfInBounds 19 (.bool (bad || decide (2147483647 < a)))).setIfInBounds 19 (.bool ((bad || decide (2147483647 < a)) || decide (2147483647 < b)))).setIfInBounds 19 (.bool (((bad || decide (2147483647 < a)) || decide (2147483647 < b)) || decide (2147483647 < d)))).setIfInBounds 3 (.int .i64 ((a % 2147483648 : Nat) : Int))).setIfInBounds 4 (.int .i64 ((b % 2147483648 : Nat) : Int))).setIfInBounds 5 (.int .i64 ((d % 2147483648 : Nat) : Int))).setIfInBounds 19 (.bool ((((bad || decide (2147483647 < a)) || decide (2147483647 < b)) || decide (2147483647 < d)) || !ok))
def cur3u (s : ByteArray) : Nat × Nat × Nat × Bool :=
  ((curUint s false).1, (curUint (curUint s false).2.1 (curUint s false).2.2).1, (curUint (curUint (curUint s false).2.1 (curUint s false).2.2).2.1 (curUint (curUint s false).2.1 (curUint s false).2.2).2.2).1,
    !(curUint (curUint (curUint s false).2.1 (curUint s false).2.2).2.1 (curUint (curUint s false).2.1 (curUint s false).2.2).2.2).2.2 && (curUint (curUint (curUint s false).2.1 (curUint s false).2.2).2.1 (curUint (curUint s false).2.1 (curUint s false).2.2).2.2).2.1.toList.isEmpty)
set_option maxRecDepth 100000 in
set_option maxHeartbeats 4000000 in
theorem rd_txn (g : Nat) (cs : Array Value) (s : ByteArray) (bad : Bool) (w : World) (hR : IsMR w g cs) (h19 : cs[19]? = some (.bool bad)) (hs : s.size ≤ 140737488355328) :
    Calls Try.prog 47 #[.pointer (some ⟨g, 0, none⟩), .string s] w fun e w' => e = .returned (.tuple #[]) ∧ IsMR w' g (txC cs bad (cur3u s).1 (cur3u s).2.1 (cur3u s).2.2.1 (cur3u s).2.2.2) ∧ Keeps (Only g) w w' := by
  have HR := Lib.hid hR; clear hR
  have H19 := Lib.hid h19; clear h19
  have h20 := HR.out.2
  have HN := Lib.hid (cur_made s w)
  have HG := Lib.hid HR.out.lt
  unfold cur3u
  have l1 := curUint_lt64 s false
  have z1 := curUint_size s false
  have HU1 := Lib.hid (fun W g' (hc : IsCur W g' s false) => cur_uint s false g' W hc hs)
  obtain ⟨⟨a, s1, b1⟩, hu⟩ : ∃ u, curUint s false = u := ⟨_, rfl⟩
  simp only [hu] at HU1 l1 z1 ⊢
  clear hu
  have l2 := curUint_lt64 s1 b1
  have z2 := curUint_size s1 b1
  have HU2 := Lib.hid (fun W g' (hc : IsCur W g' s1 b1) => cur_uint s1 b1 g' W hc (by omega))
  obtain ⟨⟨b, s2, b2⟩, hu⟩ : ∃ u, curUint s1 b1 = u := ⟨_, rfl⟩
  simp only [hu] at HU2 l2 z2 ⊢
  clear hu
  have l3 := curUint_lt64 s2 b2
  have HU3 := Lib.hid (fun W g' (hc : IsCur W g' s2 b2) => cur_uint s2 b2 g' W hc (by omega))
  obtain ⟨⟨d, s3, b3⟩, hu⟩ : ∃ u, curUint s2 b2 = u := ⟨_, rfl⟩
  simp only [hu] at HU3 l3 ⊢
  clear hu
  obtain ⟨ok, hok⟩ : ∃ ok, (!b3 && s3.toList.isEmpty) = ok := ⟨_, rfl⟩
  have HD := Lib.hid (fun W g' (hc : IsCur W g' s3 b3) => cur_done s3 b3 g' W hc)
  simp only [hok] at HD ⊢
  clear hok z1 z2 hs
  unfold txC
  obtain ⟨q1, hq1⟩ : ∃ q, (bad || decide (2147483647 < a)) = q := ⟨_, rfl⟩
  have HI1 := Lib.hid (fun W (hR : IsMR W g cs) => rd_int g cs a bad W hR H19.out l1)
  obtain ⟨a', ha⟩ : ∃ x, a % 2147483648 = x := ⟨_, rfl⟩
  simp only [hq1, ha] at HI1 ⊢
  obtain ⟨q2, hq2⟩ : ∃ q, (q1 || decide (2147483647 < b)) = q := ⟨_, rfl⟩
  have HI2 := Lib.hid (fun W (hR : IsMR W g (cs.setIfInBounds 19 (.bool q1))) => rd_int g (cs.setIfInBounds 19 (.bool q1)) b q1 W hR (mr_get h20 _) l2)
  obtain ⟨b', hb⟩ : ∃ x, b % 2147483648 = x := ⟨_, rfl⟩
  simp only [hq2, hb] at HI2 ⊢
  obtain ⟨q3, hq3⟩ : ∃ q, (q2 || decide (2147483647 < d)) = q := ⟨_, rfl⟩
  have HI3 := Lib.hid (fun W (hR : IsMR W g ((cs.setIfInBounds 19 (.bool q1)).setIfInBounds 19 (.bool q2))) => rd_int g ((cs.setIfInBounds 19 (.bool q1)).setIfInBounds 19 (.bool q2)) d q2 W hR (mr_get (by rw [Array.size_setIfInBounds]; exact h20) _) l3)
  obtain ⟨d', hd⟩ : ∃ x, d % 2147483648 = x := ⟨_, rfl⟩
  simp only [hq3, hd] at HI3 ⊢
  clear hq1 hq2 hq3 ha hb hd l1 l2 l3
  go_enter Try.func47, Try.ntmps47
  go_wp2_with fail
  refine HN.out.mono ?_
  rintro e w1 ⟨gc, rfl, hgc, hc, hb⟩
  have HNE := Lib.hid (show g ≠ gc by have := HG.out; omega)
  have HGC := Lib.hid hgc; clear hgc
  have HK := Lib.hid (Keeps.of_below (Only g) hb)
  replace HR := Lib.hid (HR.out.below hb); clear hb
  have HC := Lib.hid hc; clear hc
  go_wp2_with fail
  refine (HU1.out _ _ HC.out).mono ?_
  rintro e w2 ⟨rfl, hc, hk⟩
  replace HR := Lib.hid (HR.out.kept hk HNE.out)
  replace HK := Lib.hid (HK.out.then_ hk (fun i hi => .inr (by have hi : i = gc := hi; rw [hi]; exact HGC.out))); clear hk
  replace HC := Lib.hid hc; clear hc
  go_wp2_with fail
  refine (HU2.out _ _ HC.out).mono ?_
  rintro e w3 ⟨rfl, hc, hk⟩
  replace HR := Lib.hid (HR.out.kept hk HNE.out)
  replace HK := Lib.hid (HK.out.then_ hk (fun i hi => .inr (by have hi : i = gc := hi; rw [hi]; exact HGC.out))); clear hk
  replace HC := Lib.hid hc; clear hc
  go_wp2_with fail
  refine (HU3.out _ _ HC.out).mono ?_
  rintro e w4 ⟨rfl, hc, hk⟩
  replace HR := Lib.hid (HR.out.kept hk HNE.out)
  replace HK := Lib.hid (HK.out.then_ hk (fun i hi => .inr (by have hi : i = gc := hi; rw [hi]; exact HGC.out))); clear hk
  replace HC := Lib.hid hc; clear hc
  go_wp2_with fail
  refine (HI1.out _ HR.out).mono ?_
  rintro e w5 ⟨rfl, hR9, hk⟩
  replace HC := Lib.hid (HC.out.kept hk (fun e => HNE.out e.symm))
  replace HK := Lib.hid (HK.out.trans hk); clear hk
  replace HR := Lib.hid hR9; clear hR9
  go_wp2_with fail
  refine (HI2.out _ HR.out).mono ?_
  rintro e w6 ⟨rfl, hR9, hk⟩
  replace HC := Lib.hid (HC.out.kept hk (fun e => HNE.out e.symm))
  replace HK := Lib.hid (HK.out.trans hk); clear hk
  replace HR := Lib.hid hR9; clear hR9
  go_wp2_with fail
  refine (HI3.out _ HR.out).mono ?_
  rintro e w7 ⟨rfl, hR9, hk⟩
  replace HC := Lib.hid (HC.out.kept hk (fun e => HNE.out e.symm))
  replace HK := Lib.hid (HK.out.trans hk); clear hk
  replace HR := Lib.hid hR9; clear hR9
  obtain ⟨y3, hy3⟩ := HR.out.some (i := 3) (by decide)
  have f3 := HR.out.f 3
  obtain ⟨y4, hy4⟩ := HR.out.some (i := 4) (by decide)
  have f4 := HR.out.f 4
  obtain ⟨y5, hy5⟩ := HR.out.some (i := 5) (by decide)
  have f5 := HR.out.f 5
  have hgl := HR.out.lt
  have H3 := Lib.hid (show ((((cs.setIfInBounds 19 (.bool q1)).setIfInBounds 19 (.bool q2)).setIfInBounds 19 (.bool q3)))[19]? = some (.bool q3) from mr_get (by rw [Array.size_setIfInBounds, Array.size_setIfInBounds]; exact h20) _)
  have c19 := HR.out.cell H3.out
  have f19 := HR.out.f 19
  cases q3 with
  | true =>
    go_wp2
    go_end0
    exact ⟨rfl, (((HR.out.set 3 _).set 4 _).set 5 _).set 19 _, (((HK.out.own 3 _).own 4 _).own 5 _).own 19 _⟩
  | false =>
    have hc7 := HC.out
    have HC2 := Lib.hid (((hc7.kept ((Keeps.refl (Only g) _).own 3 (.int .i64 (a' : Int))) (fun e => HNE.out e.symm)).kept ((Keeps.refl (Only g) _).own 4 (.int .i64 (b' : Int))) (fun e => HNE.out e.symm)).kept ((Keeps.refl (Only g) _).own 5 (.int .i64 (d' : Int))) (fun e => HNE.out e.symm))
    clear hc7
    go_wp2_with fail
    refine (HD.out _ _ HC2.out).mono ?_
    rintro e w8 ⟨rfl, rfl⟩
    go_wp2
    go_end0
    exact ⟨rfl, (((HR.out.set 3 _).set 4 _).set 5 _).set 19 _, (((HK.out.own 3 _).own 4 _).own 5 _).own 19 _⟩
end Go.Proofs.Ytemhmgpihkemjaa.My
