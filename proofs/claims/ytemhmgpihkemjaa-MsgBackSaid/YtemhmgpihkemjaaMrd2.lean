/- msg.reader.fields: the closures. -/
import Derived.Test.YtemhmgpihkemjaaMrd
namespace Go.Proofs.Ytemhmgpihkemjaa.My
set_option linter.unusedSimpArgs false
set_option linter.unusedVariables false
open Go.RowKit Go.Proofs.YtemhmgpihkemjaaW.PrintWords Go.Proofs.YtemhmgpihkemjaaW.PrintLast Go.Proofs.Ytemhmgpihkemjaa.Pm

theorem takeU_lt64 : ∀ (l : List UInt8) (i n m k : Nat), n < 2 ^ (7 * i) → i ≤ 10 → takeU i n l = some (m, k) → m < 18446744073709551616
  | [], i, n, m, k, _, _, h => by simp [takeU] at h
  | b :: r, i, n, m, k, hn, hi, h => by
    unfold takeU at h
    split at h
    · cases h
    · rename_i hc
      have hb : b.toNat % 128 < 128 := by omega
      split at h
      · simp only [Option.some.injEq, Prod.mk.injEq] at h
        obtain ⟨rfl, -⟩ := h
        exact uint_fits hn hb (by omega) (by omega)
      · exact takeU_lt64 r _ _ _ _ (uint_lt hn hb) (by omega) h
theorem curUint_lt64 (s : ByteArray) (b : Bool) : (curUint s b).1 < 18446744073709551616 := by
  unfold curUint
  split
  · show (0 : Nat) < _; decide
  · split
    · rename_i n k h
      exact takeU_lt64 _ 0 0 n k (by decide) (by decide) h
    · show (0 : Nat) < _; decide
/-- A number's bytes are the ones that it is made of. -/
theorem takeU_ub : ∀ (l : List UInt8) (i n m k : Nat), takeU i n l = some (m, k) → ∃ q, m = n + q * 2 ^ (7 * i) ∧ l.take (k - i) = ub q ∧ i < k ∧ k - i ≤ l.length ∧ (0 < i → 0 < q)
  | [], i, n, m, k, h => by simp [takeU] at h
  | b :: r, i, n, m, k, h => by
    unfold takeU at h
    split at h
    · cases h
    · rename_i hc
      split at h
      · rename_i hb
        simp only [Option.some.injEq, Prod.mk.injEq] at h
        obtain ⟨rfl, rfl⟩ := h
        refine ⟨b.toNat, by rw [Nat.mod_eq_of_lt hb], ?_, by omega, by simp, fun h0 => ?_⟩
        · rw [ub_small hb, show i + 1 - i = 1 by omega]
          simp
        · rcases Nat.eq_zero_or_pos b.toNat with e | e
          · exact absurd (.inr (.inr ⟨h0, UInt8.toNat_inj.1 e⟩)) hc
          · exact e
      · rename_i hb
        obtain ⟨q, h1, h2, h3, h4, h5⟩ := takeU_ub r (i + 1) _ m k h
        have hq := h5 (by omega)
        have hbl := b.toNat_lt
        refine ⟨b.toNat % 128 + q * 128, ?_, ?_, by omega, by rw [List.length_cons]; omega, fun _ => by omega⟩
        · rw [h1, show 7 * (i + 1) = 7 * i + 7 by omega, Nat.pow_add, Nat.add_mul, Nat.add_assoc, Nat.mul_assoc, Nat.mul_comm (2 ^ (7 * i)) (2 ^ 7)]
        · rw [ub_big (by omega), show k - i = (k - (i + 1)) + 1 by omega, List.take_succ_cons, h2, show (b.toNat % 128 + q * 128) / 128 = q by omega]
          congr 1
          apply UInt8.toNat_inj.1
          rw [toNat_ofNat8 (by omega)]
          omega
theorem curUint_split (s : ByteArray) (h : (curUint s false).2.2 = false) : s = uvS (curUint s false).1 ++ (curUint s false).2.1 := by
  unfold curUint at h ⊢
  rw [if_neg (by simp)] at h ⊢
  split at h
  · rename_i n k e
    obtain ⟨q, h1, h2, _, h4, _⟩ := takeU_ub _ _ _ _ _ e
    simp only [Nat.mul_zero, Nat.pow_zero, Nat.mul_one, Nat.zero_add, Nat.sub_zero] at h1 h2 h4
    subst h1
    apply bl_ext
    rw [bl_append, bl_uvS, ← h2, bl_extract]
    show s.data.toList = _ ++ List.drop k (List.take s.size s.data.toList)
    rw [show List.take s.size s.data.toList = s.data.toList from List.take_of_length_le (by simp)]
    exact (List.take_append_drop k _).symm
  · cases h
theorem IsMR.some {w : World} {g i : Nat} {cs : Array Value} (h : IsMR w g cs) (hi : i < 20) : ∃ y, w.cell? ⟨g, i, none⟩ = some y := ⟨cs[i]'(by rw [h.2]; exact hi), h.cell (Array.getElem?_eq_getElem _)⟩
theorem mr_get {cs : Array Value} (h : cs.size = 20) (v : Value) : (cs.setIfInBounds 19 v)[19]? = some v := by
  rw [Array.getElem?_setIfInBounds_self_of_lt (by omega)]
/-- The closures' variable: which reader. -/
def IsBx (w : World) (bx g : Nat) : Prop := w.heap[bx]? = some (.cells #[.pointer (some ⟨g, 0, none⟩)] 64 (0, 0))
theorem IsBx.ne {w : World} {bx g q : Nat} {cs : Array Value} (h : IsBx w bx g) (hR : IsMR w q cs) : bx ≠ q := by
  intro e
  have h1 := hR.1
  rw [← e, h] at h1
  injection h1 with h1
  injection h1 with _ h1 _
  exact absurd h1 (by decide)
theorem IsBx.kept {S : Nat → Prop} {w w' : World} {bx g : Nat} (h : IsBx w bx g) (hk : Keeps S w w') (hn : ¬ S bx) : IsBx w' bx g := hk.blk h hn
theorem IsBx.below {w w' : World} {bx g : Nat} (h : IsBx w bx g) (hb : Below w.heap.size w w') : IsBx w' bx g := blk_below h hb
theorem IsBx.c {w : World} {bx g : Nat} (h : IsBx w bx g) : w.cell? ⟨bx, 0, none⟩ = some (.pointer (some ⟨g, 0, none⟩)) := (blk_cell h 0).trans rfl
set_option maxRecDepth 100000 in
set_option maxHeartbeats 4000000 in
theorem rd_f1 (g bx : Nat) (cs : Array Value) (s : ByteArray) (bad : Bool) (w : World) (hR : IsMR w g cs) (h19 : cs[19]? = some (.bool bad)) (hX : IsBx w bx g) (hs : s.size ≤ 140737488355328) :
    Calls Try.prog 44 #[.string s, .pointer (some ⟨bx, 0, none⟩)] w fun e w' => e = .returned (.tuple #[]) ∧ IsMR w' g (((cs.setIfInBounds 19 (.bool (bad || !oneD s))).setIfInBounds 19 (.bool ((bad || !oneD s) || decide (2147483647 < (curUint s false).1)))).setIfInBounds 1 (.int .i64 (((curUint s false).1 % 2147483648 : Nat) : Int))) ∧ Keeps (Only g) w w' := by
  have HNE := Lib.hid (hX.ne hR)
  have HR := Lib.hid hR; clear hR
  have HX := Lib.hid hX; clear hX
  have H19 := Lib.hid h19; clear h19
  have h20 := HR.out.2
  have HO := Lib.hid (fun W (hR : IsMR W g cs) => rd_one g cs s bad W hR H19.out hs)
  have HU := Lib.hid (show (curUint s false).1 < 18446744073709551616 from curUint_lt64 s false)
  obtain ⟨v, hv⟩ : ∃ v, (curUint s false).1 = v := ⟨_, rfl⟩
  obtain ⟨d, hd⟩ : ∃ d, oneD s = d := ⟨_, rfl⟩
  simp only [hv, hd] at HO HU ⊢
  clear hv hd hs
  obtain ⟨m, hm⟩ : ∃ m, v % 2147483648 = m := ⟨_, rfl⟩
  have HI := Lib.hid (fun W (hR : IsMR W g (cs.setIfInBounds 19 (.bool (bad || !d)))) => rd_int g (cs.setIfInBounds 19 (.bool (bad || !d))) v (bad || !d) W hR (mr_get h20 _) HU.out)
  simp only [hm] at HI
  try rw [hm]
  clear hm
  have HK := Lib.hid (Keeps.refl (Only g) w)
  have b0 := HX.out.c
  go_enter Try.func44, Try.ntmps44
  go_wp2
  refine start_ (n := 10) (S := fun w' => w'.cell? ⟨bx, 0, none⟩ = some (.pointer (some ⟨g, 0, none⟩))) (ds := [9]) #[false, false, false, false, false, false, false, false, false, false] (by kernel_rfl) rfl rfl (b0) (fun hHeld => ?_)
  replace HR := Lib.hid (HR.out.below (below_drew (Below.refl _ _)))
  replace HX := Lib.hid (HX.out.below (below_drew (Below.refl _ _)))
  replace HK := Lib.hid HK.out.drew
  refine pure_ (i := 3) (N := some 6) (v := ?_) (a' := ?_) #[false, false, false, true, false, false, false, false, false, false] rfl rfl (by kernel_rfl) (fun _ _ _ h => h) (Or.inl ⟨by rfl, ?_⟩) ?_ ?_
  rotate_left
  · intro w'
    go_simp
    with_reducible rfl
  rotate_left
  · simp only [Act.put, List.setIfInBounds_toArray, List.set_cons_zero, List.set_cons_succ, i64_w, i32_w]
    rfl
  refine take_ (i := 0) (N := some 3) (v := ?_) (a' := ?_) #[true, false, false, true, false, false, false, false, false, false] rfl rfl (by kernel_rfl) (fun _ _ _ h => h) (Or.inl ⟨by rfl, ?_⟩) hHeld ?_ ?_
  rotate_left
  · intro w' s0
    go_simp
    with_reducible rfl
  rotate_left
  · simp only [Act.put, List.setIfInBounds_toArray, List.set_cons_zero, List.set_cons_succ, i64_w, i32_w]
    rfl
  refine take_ (i := 1) (N := some 4) (v := ?_) (a' := ?_) #[true, true, false, true, false, false, false, false, false, false] rfl rfl (by kernel_rfl) (fun _ _ _ h => h) (Or.inl ⟨by rfl, ?_⟩) hHeld ?_ ?_
  rotate_left
  · intro w' s0
    go_simp
    with_reducible rfl
  rotate_left
  · simp only [Act.put, List.setIfInBounds_toArray, List.set_cons_zero, List.set_cons_succ, i64_w, i32_w]
    rfl
  refine take_ (i := 2) (N := some 5) (v := ?_) (a' := ?_) #[true, true, true, true, false, false, false, false, false, false] rfl rfl (by kernel_rfl) (fun _ _ _ h => h) (Or.inl ⟨by rfl, ?_⟩) hHeld ?_ ?_
  rotate_left
  · intro w' s0
    go_simp
    with_reducible rfl
  rotate_left
  · simp only [Act.put, List.setIfInBounds_toArray, List.set_cons_zero, List.set_cons_succ, i64_w, i32_w]
    rfl
  refine one_ (i := 4) (N := some 7) #[true, true, true, true, true, false, false, false, false, false] rfl rfl (by kernel_rfl) (by decide) (fun K hK => ?_)
  refine goes_ Try.func45 (by kernel_rfl) rfl #[.pointer (some ⟨g, 0, none⟩), .string s] (by rfl) rfl rfl (by (try simp only [List.map_toArray, List.map_cons, List.map_nil]); first | done | rfl) ?_
  with_reducible refine ((HO.out _ HR.out)).mono ?_
  rintro e w1 ⟨rfl, hR1, hk⟩
  refine ⟨_, rfl, ?_⟩
  replace HX := Lib.hid (HX.out.kept hk (fun e => HNE.out e))
  replace HK := Lib.hid (HK.out.trans hk)
  replace HR := Lib.hid hR1
  refine hK.out _ _ (HX.out.c) (fun hHeld => ?_)
  clear hK K
  refine norm_ (a' := ?_) ?_ ?_
  rotate_left
  · show Act.put _ (some 7) _ = _
    simp only [Act.put, List.setIfInBounds_toArray, List.set_cons_zero, List.set_cons_succ, i64_w, i32_w]
    rfl
  refine one_ (i := 5) (N := some 8) #[true, true, true, true, true, true, false, false, false, false] rfl rfl (by kernel_rfl) (by decide) (fun K hK => ?_)
  refine goes_ Try.func27 (by kernel_rfl) rfl #[.pointer (some ⟨g, 0, none⟩), .int .u64 (v : Int)] (by rfl) rfl rfl (by (try simp only [List.map_toArray, List.map_cons, List.map_nil]); first | done | rfl) ?_
  with_reducible refine ((HI.out _ HR.out)).mono ?_
  rintro e w2 ⟨rfl, hR2, hk⟩
  refine ⟨_, rfl, ?_⟩
  replace HX := Lib.hid (HX.out.kept hk (fun e => HNE.out e))
  replace HK := Lib.hid (HK.out.trans hk)
  replace HR := Lib.hid hR2
  have f1 := HR.out.f 1
  obtain ⟨y1, hy1⟩ := HR.out.some (i := 1) (by decide)
  have hgl := HR.out.lt
  refine hK.out _ _ (HX.out.c) (fun hHeld => ?_)
  clear hK K
  refine norm_ (a' := ?_) ?_ ?_
  rotate_left
  · show Act.put _ (some 8) _ = _
    simp only [Act.put, List.setIfInBounds_toArray, List.set_cons_zero, List.set_cons_succ, i64_w, i32_w]
    rfl
  refine pure_ (i := 6) (N := some 9) (v := ?_) (a' := ?_) #[true, true, true, true, true, true, true, false, false, false] rfl rfl (by kernel_rfl) (fun _ _ _ h => h) (Or.inl ⟨by rfl, ?_⟩) ?_ ?_
  rotate_left
  · intro w'
    go_simp
    with_reducible rfl
  rotate_left
  · simp only [Act.put, List.setIfInBounds_toArray, List.set_cons_zero, List.set_cons_succ, i64_w, i32_w]
    rfl
  refine pure_ (i := 7) (N := some 10) (v := ?_) (a' := ?_) #[true, true, true, true, true, true, true, true, false, false] rfl rfl (by kernel_rfl) (fun _ _ _ h => h) (Or.inl ⟨by rfl, ?_⟩) ?_ ?_
  rotate_left
  · intro w'
    go_simp
    with_reducible rfl
  rotate_left
  · simp only [Act.put, List.setIfInBounds_toArray, List.set_cons_zero, List.set_cons_succ, i64_w, i32_w]
    rfl
  refine pure_ (i := 8) (N := some 11) (v := ?_) (a' := ?_) #[true, true, true, true, true, true, true, true, true, false] rfl rfl (by kernel_rfl) (fun _ _ _ h => h) (Or.inl ⟨by rfl, ?_⟩) ?_ ?_
  rotate_left
  · intro w'
    go_simp
    with_reducible rfl
  rotate_left
  · simp only [Act.put, List.setIfInBounds_toArray, List.set_cons_zero, List.set_cons_succ, i64_w, i32_w]
    rfl
  refine last_ (i := 9) (N := none) #[true, true, true, true, true, true, true, true, true, true] rfl rfl (by kernel_rfl) (by decide) (fun K hK => ?_)
  refine skip_ (w1 := ?_) (by rfl) rfl ?_ ?_
  rotate_left
  · go_simp
    rfl
  refine hK.out _ _ ?_
  clear hK K
  refine done_ (by kernel_rfl) ?_

  go_wp2
  go_end0
  exact ⟨rfl, HR.out.set 1 _, HK.out.own 1 _⟩
set_option maxRecDepth 100000 in
set_option maxHeartbeats 4000000 in
theorem rd_f2 (g bx : Nat) (cs : Array Value) (s : ByteArray) (bad : Bool) (w : World) (hR : IsMR w g cs) (h19 : cs[19]? = some (.bool bad)) (hX : IsBx w bx g) (hs : s.size ≤ 140737488355328) :
    Calls Try.prog 46 #[.string s, .pointer (some ⟨bx, 0, none⟩)] w fun e w' => e = .returned (.tuple #[]) ∧ IsMR w' g (((cs.setIfInBounds 19 (.bool (bad || !oneD s))).setIfInBounds 19 (.bool ((bad || !oneD s) || decide (2147483647 < (curUint s false).1)))).setIfInBounds 2 (.int .i64 (((curUint s false).1 % 2147483648 : Nat) : Int))) ∧ Keeps (Only g) w w' := by
  have HNE := Lib.hid (hX.ne hR)
  have HR := Lib.hid hR; clear hR
  have HX := Lib.hid hX; clear hX
  have H19 := Lib.hid h19; clear h19
  have h20 := HR.out.2
  have HO := Lib.hid (fun W (hR : IsMR W g cs) => rd_one g cs s bad W hR H19.out hs)
  have HU := Lib.hid (show (curUint s false).1 < 18446744073709551616 from curUint_lt64 s false)
  obtain ⟨v, hv⟩ : ∃ v, (curUint s false).1 = v := ⟨_, rfl⟩
  obtain ⟨d, hd⟩ : ∃ d, oneD s = d := ⟨_, rfl⟩
  simp only [hv, hd] at HO HU ⊢
  clear hv hd hs
  obtain ⟨m, hm⟩ : ∃ m, v % 2147483648 = m := ⟨_, rfl⟩
  have HI := Lib.hid (fun W (hR : IsMR W g (cs.setIfInBounds 19 (.bool (bad || !d)))) => rd_int g (cs.setIfInBounds 19 (.bool (bad || !d))) v (bad || !d) W hR (mr_get h20 _) HU.out)
  simp only [hm] at HI
  try rw [hm]
  clear hm
  have HK := Lib.hid (Keeps.refl (Only g) w)
  have b0 := HX.out.c
  go_enter Try.func46, Try.ntmps46
  go_wp2
  refine start_ (n := 10) (S := fun w' => w'.cell? ⟨bx, 0, none⟩ = some (.pointer (some ⟨g, 0, none⟩))) (ds := [9]) #[false, false, false, false, false, false, false, false, false, false] (by kernel_rfl) rfl rfl (b0) (fun hHeld => ?_)
  replace HR := Lib.hid (HR.out.below (below_drew (Below.refl _ _)))
  replace HX := Lib.hid (HX.out.below (below_drew (Below.refl _ _)))
  replace HK := Lib.hid HK.out.drew
  refine pure_ (i := 3) (N := some 6) (v := ?_) (a' := ?_) #[false, false, false, true, false, false, false, false, false, false] rfl rfl (by kernel_rfl) (fun _ _ _ h => h) (Or.inl ⟨by rfl, ?_⟩) ?_ ?_
  rotate_left
  · intro w'
    go_simp
    with_reducible rfl
  rotate_left
  · simp only [Act.put, List.setIfInBounds_toArray, List.set_cons_zero, List.set_cons_succ, i64_w, i32_w]
    rfl
  refine take_ (i := 0) (N := some 3) (v := ?_) (a' := ?_) #[true, false, false, true, false, false, false, false, false, false] rfl rfl (by kernel_rfl) (fun _ _ _ h => h) (Or.inl ⟨by rfl, ?_⟩) hHeld ?_ ?_
  rotate_left
  · intro w' s0
    go_simp
    with_reducible rfl
  rotate_left
  · simp only [Act.put, List.setIfInBounds_toArray, List.set_cons_zero, List.set_cons_succ, i64_w, i32_w]
    rfl
  refine take_ (i := 1) (N := some 4) (v := ?_) (a' := ?_) #[true, true, false, true, false, false, false, false, false, false] rfl rfl (by kernel_rfl) (fun _ _ _ h => h) (Or.inl ⟨by rfl, ?_⟩) hHeld ?_ ?_
  rotate_left
  · intro w' s0
    go_simp
    with_reducible rfl
  rotate_left
  · simp only [Act.put, List.setIfInBounds_toArray, List.set_cons_zero, List.set_cons_succ, i64_w, i32_w]
    rfl
  refine take_ (i := 2) (N := some 5) (v := ?_) (a' := ?_) #[true, true, true, true, false, false, false, false, false, false] rfl rfl (by kernel_rfl) (fun _ _ _ h => h) (Or.inl ⟨by rfl, ?_⟩) hHeld ?_ ?_
  rotate_left
  · intro w' s0
    go_simp
    with_reducible rfl
  rotate_left
  · simp only [Act.put, List.setIfInBounds_toArray, List.set_cons_zero, List.set_cons_succ, i64_w, i32_w]
    rfl
  refine one_ (i := 4) (N := some 7) #[true, true, true, true, true, false, false, false, false, false] rfl rfl (by kernel_rfl) (by decide) (fun K hK => ?_)
  refine goes_ Try.func45 (by kernel_rfl) rfl #[.pointer (some ⟨g, 0, none⟩), .string s] (by rfl) rfl rfl (by (try simp only [List.map_toArray, List.map_cons, List.map_nil]); first | done | rfl) ?_
  with_reducible refine ((HO.out _ HR.out)).mono ?_
  rintro e w1 ⟨rfl, hR1, hk⟩
  refine ⟨_, rfl, ?_⟩
  replace HX := Lib.hid (HX.out.kept hk (fun e => HNE.out e))
  replace HK := Lib.hid (HK.out.trans hk)
  replace HR := Lib.hid hR1
  refine hK.out _ _ (HX.out.c) (fun hHeld => ?_)
  clear hK K
  refine norm_ (a' := ?_) ?_ ?_
  rotate_left
  · show Act.put _ (some 7) _ = _
    simp only [Act.put, List.setIfInBounds_toArray, List.set_cons_zero, List.set_cons_succ, i64_w, i32_w]
    rfl
  refine one_ (i := 5) (N := some 8) #[true, true, true, true, true, true, false, false, false, false] rfl rfl (by kernel_rfl) (by decide) (fun K hK => ?_)
  refine goes_ Try.func27 (by kernel_rfl) rfl #[.pointer (some ⟨g, 0, none⟩), .int .u64 (v : Int)] (by rfl) rfl rfl (by (try simp only [List.map_toArray, List.map_cons, List.map_nil]); first | done | rfl) ?_
  with_reducible refine ((HI.out _ HR.out)).mono ?_
  rintro e w2 ⟨rfl, hR2, hk⟩
  refine ⟨_, rfl, ?_⟩
  replace HX := Lib.hid (HX.out.kept hk (fun e => HNE.out e))
  replace HK := Lib.hid (HK.out.trans hk)
  replace HR := Lib.hid hR2
  have f1 := HR.out.f 2
  obtain ⟨y1, hy1⟩ := HR.out.some (i := 2) (by decide)
  have hgl := HR.out.lt
  refine hK.out _ _ (HX.out.c) (fun hHeld => ?_)
  clear hK K
  refine norm_ (a' := ?_) ?_ ?_
  rotate_left
  · show Act.put _ (some 8) _ = _
    simp only [Act.put, List.setIfInBounds_toArray, List.set_cons_zero, List.set_cons_succ, i64_w, i32_w]
    rfl
  refine pure_ (i := 6) (N := some 9) (v := ?_) (a' := ?_) #[true, true, true, true, true, true, true, false, false, false] rfl rfl (by kernel_rfl) (fun _ _ _ h => h) (Or.inl ⟨by rfl, ?_⟩) ?_ ?_
  rotate_left
  · intro w'
    go_simp
    with_reducible rfl
  rotate_left
  · simp only [Act.put, List.setIfInBounds_toArray, List.set_cons_zero, List.set_cons_succ, i64_w, i32_w]
    rfl
  refine pure_ (i := 7) (N := some 10) (v := ?_) (a' := ?_) #[true, true, true, true, true, true, true, true, false, false] rfl rfl (by kernel_rfl) (fun _ _ _ h => h) (Or.inl ⟨by rfl, ?_⟩) ?_ ?_
  rotate_left
  · intro w'
    go_simp
    with_reducible rfl
  rotate_left
  · simp only [Act.put, List.setIfInBounds_toArray, List.set_cons_zero, List.set_cons_succ, i64_w, i32_w]
    rfl
  refine pure_ (i := 8) (N := some 11) (v := ?_) (a' := ?_) #[true, true, true, true, true, true, true, true, true, false] rfl rfl (by kernel_rfl) (fun _ _ _ h => h) (Or.inl ⟨by rfl, ?_⟩) ?_ ?_
  rotate_left
  · intro w'
    go_simp
    with_reducible rfl
  rotate_left
  · simp only [Act.put, List.setIfInBounds_toArray, List.set_cons_zero, List.set_cons_succ, i64_w, i32_w]
    rfl
  refine last_ (i := 9) (N := none) #[true, true, true, true, true, true, true, true, true, true] rfl rfl (by kernel_rfl) (by decide) (fun K hK => ?_)
  refine skip_ (w1 := ?_) (by rfl) rfl ?_ ?_
  rotate_left
  · go_simp
    rfl
  refine hK.out _ _ ?_
  clear hK K
  refine done_ (by kernel_rfl) ?_

  go_wp2
  go_end0
  exact ⟨rfl, HR.out.set 2 _, HK.out.own 2 _⟩
set_option maxRecDepth 100000 in
set_option maxHeartbeats 4000000 in
theorem rd_f3 (g bx : Nat) (cs : Array Value) (s : ByteArray) (bad : Bool) (w : World) (hR : IsMR w g cs) (h19 : cs[19]? = some (.bool bad)) (hX : IsBx w bx g) (hs : s.size ≤ 140737488355328) :
    Calls Try.prog 48 #[.string s, .pointer (some ⟨bx, 0, none⟩)] w fun e w' => e = .returned (.tuple #[]) ∧ IsMR w' g ((cs.setIfInBounds 19 (.bool (bad || !oneD s))).setIfInBounds 6 (.int .u64 ((curUint s false).1 : Nat))) ∧ Keeps (Only g) w w' := by
  have HNE := Lib.hid (hX.ne hR)
  have HR := Lib.hid hR; clear hR
  have HX := Lib.hid hX; clear hX
  have H19 := Lib.hid h19; clear h19
  have h20 := HR.out.2
  have HO := Lib.hid (fun W (hR : IsMR W g cs) => rd_one g cs s bad W hR H19.out hs)
  have HU := Lib.hid (show (curUint s false).1 < 18446744073709551616 from curUint_lt64 s false)
  obtain ⟨v, hv⟩ : ∃ v, (curUint s false).1 = v := ⟨_, rfl⟩
  obtain ⟨d, hd⟩ : ∃ d, oneD s = d := ⟨_, rfl⟩
  simp only [hv, hd] at HO HU ⊢
  clear hv hd hs
  obtain ⟨m, hm⟩ : ∃ m, v % 2147483648 = m := ⟨_, rfl⟩
  have HI := Lib.hid (fun W (hR : IsMR W g (cs.setIfInBounds 19 (.bool (bad || !d)))) => rd_int g (cs.setIfInBounds 19 (.bool (bad || !d))) v (bad || !d) W hR (mr_get h20 _) HU.out)
  simp only [hm] at HI
  try rw [hm]
  clear hm
  have HK := Lib.hid (Keeps.refl (Only g) w)
  have b0 := HX.out.c
  go_enter Try.func48, Try.ntmps48
  go_wp2
  refine start_ (n := 8) (S := fun w' => w'.cell? ⟨bx, 0, none⟩ = some (.pointer (some ⟨g, 0, none⟩))) (ds := [7]) #[false, false, false, false, false, false, false, false] (by kernel_rfl) rfl rfl (b0) (fun hHeld => ?_)
  replace HR := Lib.hid (HR.out.below (below_drew (Below.refl _ _)))
  replace HX := Lib.hid (HX.out.below (below_drew (Below.refl _ _)))
  replace HK := Lib.hid HK.out.drew
  refine pure_ (i := 2) (N := some 5) (v := ?_) (a' := ?_) #[false, false, true, false, false, false, false, false] rfl rfl (by kernel_rfl) (fun _ _ _ h => h) (Or.inl ⟨by rfl, ?_⟩) ?_ ?_
  rotate_left
  · intro w'
    go_simp
    with_reducible rfl
  rotate_left
  · simp only [Act.put, List.setIfInBounds_toArray, List.set_cons_zero, List.set_cons_succ, i64_w, i32_w]
    rfl
  refine take_ (i := 0) (N := some 3) (v := ?_) (a' := ?_) #[true, false, true, false, false, false, false, false] rfl rfl (by kernel_rfl) (fun _ _ _ h => h) (Or.inl ⟨by rfl, ?_⟩) hHeld ?_ ?_
  rotate_left
  · intro w' s0
    go_simp
    with_reducible rfl
  rotate_left
  · simp only [Act.put, List.setIfInBounds_toArray, List.set_cons_zero, List.set_cons_succ, i64_w, i32_w]
    rfl
  refine take_ (i := 1) (N := some 4) (v := ?_) (a' := ?_) #[true, true, true, false, false, false, false, false] rfl rfl (by kernel_rfl) (fun _ _ _ h => h) (Or.inl ⟨by rfl, ?_⟩) hHeld ?_ ?_
  rotate_left
  · intro w' s0
    go_simp
    with_reducible rfl
  rotate_left
  · simp only [Act.put, List.setIfInBounds_toArray, List.set_cons_zero, List.set_cons_succ, i64_w, i32_w]
    rfl
  refine one_ (i := 3) (N := some 6) #[true, true, true, true, false, false, false, false] rfl rfl (by kernel_rfl) (by decide) (fun K hK => ?_)
  refine goes_ Try.func45 (by kernel_rfl) rfl #[.pointer (some ⟨g, 0, none⟩), .string s] (by rfl) rfl rfl (by (try simp only [List.map_toArray, List.map_cons, List.map_nil]); first | done | rfl) ?_
  with_reducible refine ((HO.out _ HR.out)).mono ?_
  rintro e w1 ⟨rfl, hR1, hk⟩
  refine ⟨_, rfl, ?_⟩
  replace HX := Lib.hid (HX.out.kept hk (fun e => HNE.out e))
  replace HK := Lib.hid (HK.out.trans hk)
  replace HR := Lib.hid hR1
  have f1 := HR.out.f 6
  obtain ⟨y1, hy1⟩ := HR.out.some (i := 6) (by decide)
  have hgl := HR.out.lt
  refine hK.out _ _ (HX.out.c) (fun hHeld => ?_)
  clear hK K
  refine norm_ (a' := ?_) ?_ ?_
  rotate_left
  · show Act.put _ (some 6) _ = _
    simp only [Act.put, List.setIfInBounds_toArray, List.set_cons_zero, List.set_cons_succ, i64_w, i32_w]
    rfl
  refine pure_ (i := 4) (N := some 7) (v := ?_) (a' := ?_) #[true, true, true, true, true, false, false, false] rfl rfl (by kernel_rfl) (fun _ _ _ h => h) (Or.inl ⟨by rfl, ?_⟩) ?_ ?_
  rotate_left
  · intro w'
    go_simp
    with_reducible rfl
  rotate_left
  · simp only [Act.put, List.setIfInBounds_toArray, List.set_cons_zero, List.set_cons_succ, i64_w, i32_w]
    rfl
  refine pure_ (i := 5) (N := some 8) (v := ?_) (a' := ?_) #[true, true, true, true, true, true, false, false] rfl rfl (by kernel_rfl) (fun _ _ _ h => h) (Or.inl ⟨by rfl, ?_⟩) ?_ ?_
  rotate_left
  · intro w'
    go_simp
    with_reducible rfl
  rotate_left
  · simp only [Act.put, List.setIfInBounds_toArray, List.set_cons_zero, List.set_cons_succ, i64_w, i32_w]
    rfl
  refine pure_ (i := 6) (N := some 9) (v := ?_) (a' := ?_) #[true, true, true, true, true, true, true, false] rfl rfl (by kernel_rfl) (fun _ _ _ h => h) (Or.inl ⟨by rfl, ?_⟩) ?_ ?_
  rotate_left
  · intro w'
    go_simp
    with_reducible rfl
  rotate_left
  · simp only [Act.put, List.setIfInBounds_toArray, List.set_cons_zero, List.set_cons_succ, i64_w, i32_w]
    rfl
  refine last_ (i := 7) (N := none) #[true, true, true, true, true, true, true, true] rfl rfl (by kernel_rfl) (by decide) (fun K hK => ?_)
  refine skip_ (w1 := ?_) (by rfl) rfl ?_ ?_
  rotate_left
  · go_simp
    rfl
  refine hK.out _ _ ?_
  clear hK K
  refine done_ (by kernel_rfl) ?_

  go_wp2
  go_end0
  exact ⟨rfl, HR.out.set 6 _, HK.out.own 6 _⟩
set_option maxRecDepth 100000 in
set_option maxHeartbeats 4000000 in
theorem rd_f4 (g bx : Nat) (cs : Array Value) (s : ByteArray) (bad : Bool) (w : World) (hR : IsMR w g cs) (h19 : cs[19]? = some (.bool bad)) (hX : IsBx w bx g) (hs : s.size ≤ 140737488355328) :
    Calls Try.prog 49 #[.string s, .pointer (some ⟨bx, 0, none⟩)] w fun e w' => e = .returned (.tuple #[]) ∧ IsMR w' g ((cs.setIfInBounds 19 (.bool (bad || !oneD s))).setIfInBounds 7 (.int .u64 ((curUint s false).1 : Nat))) ∧ Keeps (Only g) w w' := by
  have HNE := Lib.hid (hX.ne hR)
  have HR := Lib.hid hR; clear hR
  have HX := Lib.hid hX; clear hX
  have H19 := Lib.hid h19; clear h19
  have h20 := HR.out.2
  have HO := Lib.hid (fun W (hR : IsMR W g cs) => rd_one g cs s bad W hR H19.out hs)
  have HU := Lib.hid (show (curUint s false).1 < 18446744073709551616 from curUint_lt64 s false)
  obtain ⟨v, hv⟩ : ∃ v, (curUint s false).1 = v := ⟨_, rfl⟩
  obtain ⟨d, hd⟩ : ∃ d, oneD s = d := ⟨_, rfl⟩
  simp only [hv, hd] at HO HU ⊢
  clear hv hd hs
  obtain ⟨m, hm⟩ : ∃ m, v % 2147483648 = m := ⟨_, rfl⟩
  have HI := Lib.hid (fun W (hR : IsMR W g (cs.setIfInBounds 19 (.bool (bad || !d)))) => rd_int g (cs.setIfInBounds 19 (.bool (bad || !d))) v (bad || !d) W hR (mr_get h20 _) HU.out)
  simp only [hm] at HI
  try rw [hm]
  clear hm
  have HK := Lib.hid (Keeps.refl (Only g) w)
  have b0 := HX.out.c
  go_enter Try.func49, Try.ntmps49
  go_wp2
  refine start_ (n := 8) (S := fun w' => w'.cell? ⟨bx, 0, none⟩ = some (.pointer (some ⟨g, 0, none⟩))) (ds := [7]) #[false, false, false, false, false, false, false, false] (by kernel_rfl) rfl rfl (b0) (fun hHeld => ?_)
  replace HR := Lib.hid (HR.out.below (below_drew (Below.refl _ _)))
  replace HX := Lib.hid (HX.out.below (below_drew (Below.refl _ _)))
  replace HK := Lib.hid HK.out.drew
  refine pure_ (i := 2) (N := some 5) (v := ?_) (a' := ?_) #[false, false, true, false, false, false, false, false] rfl rfl (by kernel_rfl) (fun _ _ _ h => h) (Or.inl ⟨by rfl, ?_⟩) ?_ ?_
  rotate_left
  · intro w'
    go_simp
    with_reducible rfl
  rotate_left
  · simp only [Act.put, List.setIfInBounds_toArray, List.set_cons_zero, List.set_cons_succ, i64_w, i32_w]
    rfl
  refine take_ (i := 0) (N := some 3) (v := ?_) (a' := ?_) #[true, false, true, false, false, false, false, false] rfl rfl (by kernel_rfl) (fun _ _ _ h => h) (Or.inl ⟨by rfl, ?_⟩) hHeld ?_ ?_
  rotate_left
  · intro w' s0
    go_simp
    with_reducible rfl
  rotate_left
  · simp only [Act.put, List.setIfInBounds_toArray, List.set_cons_zero, List.set_cons_succ, i64_w, i32_w]
    rfl
  refine take_ (i := 1) (N := some 4) (v := ?_) (a' := ?_) #[true, true, true, false, false, false, false, false] rfl rfl (by kernel_rfl) (fun _ _ _ h => h) (Or.inl ⟨by rfl, ?_⟩) hHeld ?_ ?_
  rotate_left
  · intro w' s0
    go_simp
    with_reducible rfl
  rotate_left
  · simp only [Act.put, List.setIfInBounds_toArray, List.set_cons_zero, List.set_cons_succ, i64_w, i32_w]
    rfl
  refine one_ (i := 3) (N := some 6) #[true, true, true, true, false, false, false, false] rfl rfl (by kernel_rfl) (by decide) (fun K hK => ?_)
  refine goes_ Try.func45 (by kernel_rfl) rfl #[.pointer (some ⟨g, 0, none⟩), .string s] (by rfl) rfl rfl (by (try simp only [List.map_toArray, List.map_cons, List.map_nil]); first | done | rfl) ?_
  with_reducible refine ((HO.out _ HR.out)).mono ?_
  rintro e w1 ⟨rfl, hR1, hk⟩
  refine ⟨_, rfl, ?_⟩
  replace HX := Lib.hid (HX.out.kept hk (fun e => HNE.out e))
  replace HK := Lib.hid (HK.out.trans hk)
  replace HR := Lib.hid hR1
  have f1 := HR.out.f 7
  obtain ⟨y1, hy1⟩ := HR.out.some (i := 7) (by decide)
  have hgl := HR.out.lt
  refine hK.out _ _ (HX.out.c) (fun hHeld => ?_)
  clear hK K
  refine norm_ (a' := ?_) ?_ ?_
  rotate_left
  · show Act.put _ (some 6) _ = _
    simp only [Act.put, List.setIfInBounds_toArray, List.set_cons_zero, List.set_cons_succ, i64_w, i32_w]
    rfl
  refine pure_ (i := 4) (N := some 7) (v := ?_) (a' := ?_) #[true, true, true, true, true, false, false, false] rfl rfl (by kernel_rfl) (fun _ _ _ h => h) (Or.inl ⟨by rfl, ?_⟩) ?_ ?_
  rotate_left
  · intro w'
    go_simp
    with_reducible rfl
  rotate_left
  · simp only [Act.put, List.setIfInBounds_toArray, List.set_cons_zero, List.set_cons_succ, i64_w, i32_w]
    rfl
  refine pure_ (i := 5) (N := some 8) (v := ?_) (a' := ?_) #[true, true, true, true, true, true, false, false] rfl rfl (by kernel_rfl) (fun _ _ _ h => h) (Or.inl ⟨by rfl, ?_⟩) ?_ ?_
  rotate_left
  · intro w'
    go_simp
    with_reducible rfl
  rotate_left
  · simp only [Act.put, List.setIfInBounds_toArray, List.set_cons_zero, List.set_cons_succ, i64_w, i32_w]
    rfl
  refine pure_ (i := 6) (N := some 9) (v := ?_) (a' := ?_) #[true, true, true, true, true, true, true, false] rfl rfl (by kernel_rfl) (fun _ _ _ h => h) (Or.inl ⟨by rfl, ?_⟩) ?_ ?_
  rotate_left
  · intro w'
    go_simp
    with_reducible rfl
  rotate_left
  · simp only [Act.put, List.setIfInBounds_toArray, List.set_cons_zero, List.set_cons_succ, i64_w, i32_w]
    rfl
  refine last_ (i := 7) (N := none) #[true, true, true, true, true, true, true, true] rfl rfl (by kernel_rfl) (by decide) (fun K hK => ?_)
  refine skip_ (w1 := ?_) (by rfl) rfl ?_ ?_
  rotate_left
  · go_simp
    rfl
  refine hK.out _ _ ?_
  clear hK K
  refine done_ (by kernel_rfl) ?_

  go_wp2
  go_end0
  exact ⟨rfl, HR.out.set 7 _, HK.out.own 7 _⟩
set_option maxRecDepth 100000 in
set_option maxHeartbeats 4000000 in
theorem rd_f8 (g bx : Nat) (cs : Array Value) (s : ByteArray) (bad : Bool) (w : World) (hR : IsMR w g cs) (h19 : cs[19]? = some (.bool bad)) (hX : IsBx w bx g) (hs : s.size ≤ 140737488355328) :
    Calls Try.prog 55 #[.string s, .pointer (some ⟨bx, 0, none⟩)] w fun e w' => e = .returned (.tuple #[]) ∧ IsMR w' g ((cs.setIfInBounds 19 (.bool (bad || !oneD s))).setIfInBounds 15 (.int .u64 ((curUint s false).1 : Nat))) ∧ Keeps (Only g) w w' := by
  have HNE := Lib.hid (hX.ne hR)
  have HR := Lib.hid hR; clear hR
  have HX := Lib.hid hX; clear hX
  have H19 := Lib.hid h19; clear h19
  have h20 := HR.out.2
  have HO := Lib.hid (fun W (hR : IsMR W g cs) => rd_one g cs s bad W hR H19.out hs)
  have HU := Lib.hid (show (curUint s false).1 < 18446744073709551616 from curUint_lt64 s false)
  obtain ⟨v, hv⟩ : ∃ v, (curUint s false).1 = v := ⟨_, rfl⟩
  obtain ⟨d, hd⟩ : ∃ d, oneD s = d := ⟨_, rfl⟩
  simp only [hv, hd] at HO HU ⊢
  clear hv hd hs
  obtain ⟨m, hm⟩ : ∃ m, v % 2147483648 = m := ⟨_, rfl⟩
  have HI := Lib.hid (fun W (hR : IsMR W g (cs.setIfInBounds 19 (.bool (bad || !d)))) => rd_int g (cs.setIfInBounds 19 (.bool (bad || !d))) v (bad || !d) W hR (mr_get h20 _) HU.out)
  simp only [hm] at HI
  try rw [hm]
  clear hm
  have HK := Lib.hid (Keeps.refl (Only g) w)
  have b0 := HX.out.c
  go_enter Try.func55, Try.ntmps55
  go_wp2
  refine start_ (n := 8) (S := fun w' => w'.cell? ⟨bx, 0, none⟩ = some (.pointer (some ⟨g, 0, none⟩))) (ds := [7]) #[false, false, false, false, false, false, false, false] (by kernel_rfl) rfl rfl (b0) (fun hHeld => ?_)
  replace HR := Lib.hid (HR.out.below (below_drew (Below.refl _ _)))
  replace HX := Lib.hid (HX.out.below (below_drew (Below.refl _ _)))
  replace HK := Lib.hid HK.out.drew
  refine pure_ (i := 2) (N := some 5) (v := ?_) (a' := ?_) #[false, false, true, false, false, false, false, false] rfl rfl (by kernel_rfl) (fun _ _ _ h => h) (Or.inl ⟨by rfl, ?_⟩) ?_ ?_
  rotate_left
  · intro w'
    go_simp
    with_reducible rfl
  rotate_left
  · simp only [Act.put, List.setIfInBounds_toArray, List.set_cons_zero, List.set_cons_succ, i64_w, i32_w]
    rfl
  refine take_ (i := 0) (N := some 3) (v := ?_) (a' := ?_) #[true, false, true, false, false, false, false, false] rfl rfl (by kernel_rfl) (fun _ _ _ h => h) (Or.inl ⟨by rfl, ?_⟩) hHeld ?_ ?_
  rotate_left
  · intro w' s0
    go_simp
    with_reducible rfl
  rotate_left
  · simp only [Act.put, List.setIfInBounds_toArray, List.set_cons_zero, List.set_cons_succ, i64_w, i32_w]
    rfl
  refine take_ (i := 1) (N := some 4) (v := ?_) (a' := ?_) #[true, true, true, false, false, false, false, false] rfl rfl (by kernel_rfl) (fun _ _ _ h => h) (Or.inl ⟨by rfl, ?_⟩) hHeld ?_ ?_
  rotate_left
  · intro w' s0
    go_simp
    with_reducible rfl
  rotate_left
  · simp only [Act.put, List.setIfInBounds_toArray, List.set_cons_zero, List.set_cons_succ, i64_w, i32_w]
    rfl
  refine one_ (i := 3) (N := some 6) #[true, true, true, true, false, false, false, false] rfl rfl (by kernel_rfl) (by decide) (fun K hK => ?_)
  refine goes_ Try.func45 (by kernel_rfl) rfl #[.pointer (some ⟨g, 0, none⟩), .string s] (by rfl) rfl rfl (by (try simp only [List.map_toArray, List.map_cons, List.map_nil]); first | done | rfl) ?_
  with_reducible refine ((HO.out _ HR.out)).mono ?_
  rintro e w1 ⟨rfl, hR1, hk⟩
  refine ⟨_, rfl, ?_⟩
  replace HX := Lib.hid (HX.out.kept hk (fun e => HNE.out e))
  replace HK := Lib.hid (HK.out.trans hk)
  replace HR := Lib.hid hR1
  have f1 := HR.out.f 15
  obtain ⟨y1, hy1⟩ := HR.out.some (i := 15) (by decide)
  have hgl := HR.out.lt
  refine hK.out _ _ (HX.out.c) (fun hHeld => ?_)
  clear hK K
  refine norm_ (a' := ?_) ?_ ?_
  rotate_left
  · show Act.put _ (some 6) _ = _
    simp only [Act.put, List.setIfInBounds_toArray, List.set_cons_zero, List.set_cons_succ, i64_w, i32_w]
    rfl
  refine pure_ (i := 4) (N := some 7) (v := ?_) (a' := ?_) #[true, true, true, true, true, false, false, false] rfl rfl (by kernel_rfl) (fun _ _ _ h => h) (Or.inl ⟨by rfl, ?_⟩) ?_ ?_
  rotate_left
  · intro w'
    go_simp
    with_reducible rfl
  rotate_left
  · simp only [Act.put, List.setIfInBounds_toArray, List.set_cons_zero, List.set_cons_succ, i64_w, i32_w]
    rfl
  refine pure_ (i := 5) (N := some 8) (v := ?_) (a' := ?_) #[true, true, true, true, true, true, false, false] rfl rfl (by kernel_rfl) (fun _ _ _ h => h) (Or.inl ⟨by rfl, ?_⟩) ?_ ?_
  rotate_left
  · intro w'
    go_simp
    with_reducible rfl
  rotate_left
  · simp only [Act.put, List.setIfInBounds_toArray, List.set_cons_zero, List.set_cons_succ, i64_w, i32_w]
    rfl
  refine pure_ (i := 6) (N := some 9) (v := ?_) (a' := ?_) #[true, true, true, true, true, true, true, false] rfl rfl (by kernel_rfl) (fun _ _ _ h => h) (Or.inl ⟨by rfl, ?_⟩) ?_ ?_
  rotate_left
  · intro w'
    go_simp
    with_reducible rfl
  rotate_left
  · simp only [Act.put, List.setIfInBounds_toArray, List.set_cons_zero, List.set_cons_succ, i64_w, i32_w]
    rfl
  refine last_ (i := 7) (N := none) #[true, true, true, true, true, true, true, true] rfl rfl (by kernel_rfl) (by decide) (fun K hK => ?_)
  refine skip_ (w1 := ?_) (by rfl) rfl ?_ ?_
  rotate_left
  · go_simp
    rfl
  refine hK.out _ _ ?_
  clear hK K
  refine done_ (by kernel_rfl) ?_

  go_wp2
  go_end0
  exact ⟨rfl, HR.out.set 15 _, HK.out.own 15 _⟩
set_option maxRecDepth 100000 in
set_option maxHeartbeats 4000000 in
theorem rd_f9 (g bx : Nat) (cs : Array Value) (s : ByteArray) (bad : Bool) (w : World) (hR : IsMR w g cs) (h19 : cs[19]? = some (.bool bad)) (hX : IsBx w bx g) (hs : s.size ≤ 140737488355328) :
    Calls Try.prog 56 #[.string s, .pointer (some ⟨bx, 0, none⟩)] w fun e w' => e = .returned (.tuple #[]) ∧ IsMR w' g ((cs.setIfInBounds 19 (.bool (bad || !oneD s))).setIfInBounds 16 (.int .u64 ((curUint s false).1 : Nat))) ∧ Keeps (Only g) w w' := by
  have HNE := Lib.hid (hX.ne hR)
  have HR := Lib.hid hR; clear hR
  have HX := Lib.hid hX; clear hX
  have H19 := Lib.hid h19; clear h19
  have h20 := HR.out.2
  have HO := Lib.hid (fun W (hR : IsMR W g cs) => rd_one g cs s bad W hR H19.out hs)
  have HU := Lib.hid (show (curUint s false).1 < 18446744073709551616 from curUint_lt64 s false)
  obtain ⟨v, hv⟩ : ∃ v, (curUint s false).1 = v := ⟨_, rfl⟩
  obtain ⟨d, hd⟩ : ∃ d, oneD s = d := ⟨_, rfl⟩
  simp only [hv, hd] at HO HU ⊢
  clear hv hd hs
  obtain ⟨m, hm⟩ : ∃ m, v % 2147483648 = m := ⟨_, rfl⟩
  have HI := Lib.hid (fun W (hR : IsMR W g (cs.setIfInBounds 19 (.bool (bad || !d)))) => rd_int g (cs.setIfInBounds 19 (.bool (bad || !d))) v (bad || !d) W hR (mr_get h20 _) HU.out)
  simp only [hm] at HI
  try rw [hm]
  clear hm
  have HK := Lib.hid (Keeps.refl (Only g) w)
  have b0 := HX.out.c
  go_enter Try.func56, Try.ntmps56
  go_wp2
  refine start_ (n := 8) (S := fun w' => w'.cell? ⟨bx, 0, none⟩ = some (.pointer (some ⟨g, 0, none⟩))) (ds := [7]) #[false, false, false, false, false, false, false, false] (by kernel_rfl) rfl rfl (b0) (fun hHeld => ?_)
  replace HR := Lib.hid (HR.out.below (below_drew (Below.refl _ _)))
  replace HX := Lib.hid (HX.out.below (below_drew (Below.refl _ _)))
  replace HK := Lib.hid HK.out.drew
  refine pure_ (i := 2) (N := some 5) (v := ?_) (a' := ?_) #[false, false, true, false, false, false, false, false] rfl rfl (by kernel_rfl) (fun _ _ _ h => h) (Or.inl ⟨by rfl, ?_⟩) ?_ ?_
  rotate_left
  · intro w'
    go_simp
    with_reducible rfl
  rotate_left
  · simp only [Act.put, List.setIfInBounds_toArray, List.set_cons_zero, List.set_cons_succ, i64_w, i32_w]
    rfl
  refine take_ (i := 0) (N := some 3) (v := ?_) (a' := ?_) #[true, false, true, false, false, false, false, false] rfl rfl (by kernel_rfl) (fun _ _ _ h => h) (Or.inl ⟨by rfl, ?_⟩) hHeld ?_ ?_
  rotate_left
  · intro w' s0
    go_simp
    with_reducible rfl
  rotate_left
  · simp only [Act.put, List.setIfInBounds_toArray, List.set_cons_zero, List.set_cons_succ, i64_w, i32_w]
    rfl
  refine take_ (i := 1) (N := some 4) (v := ?_) (a' := ?_) #[true, true, true, false, false, false, false, false] rfl rfl (by kernel_rfl) (fun _ _ _ h => h) (Or.inl ⟨by rfl, ?_⟩) hHeld ?_ ?_
  rotate_left
  · intro w' s0
    go_simp
    with_reducible rfl
  rotate_left
  · simp only [Act.put, List.setIfInBounds_toArray, List.set_cons_zero, List.set_cons_succ, i64_w, i32_w]
    rfl
  refine one_ (i := 3) (N := some 6) #[true, true, true, true, false, false, false, false] rfl rfl (by kernel_rfl) (by decide) (fun K hK => ?_)
  refine goes_ Try.func45 (by kernel_rfl) rfl #[.pointer (some ⟨g, 0, none⟩), .string s] (by rfl) rfl rfl (by (try simp only [List.map_toArray, List.map_cons, List.map_nil]); first | done | rfl) ?_
  with_reducible refine ((HO.out _ HR.out)).mono ?_
  rintro e w1 ⟨rfl, hR1, hk⟩
  refine ⟨_, rfl, ?_⟩
  replace HX := Lib.hid (HX.out.kept hk (fun e => HNE.out e))
  replace HK := Lib.hid (HK.out.trans hk)
  replace HR := Lib.hid hR1
  have f1 := HR.out.f 16
  obtain ⟨y1, hy1⟩ := HR.out.some (i := 16) (by decide)
  have hgl := HR.out.lt
  refine hK.out _ _ (HX.out.c) (fun hHeld => ?_)
  clear hK K
  refine norm_ (a' := ?_) ?_ ?_
  rotate_left
  · show Act.put _ (some 6) _ = _
    simp only [Act.put, List.setIfInBounds_toArray, List.set_cons_zero, List.set_cons_succ, i64_w, i32_w]
    rfl
  refine pure_ (i := 4) (N := some 7) (v := ?_) (a' := ?_) #[true, true, true, true, true, false, false, false] rfl rfl (by kernel_rfl) (fun _ _ _ h => h) (Or.inl ⟨by rfl, ?_⟩) ?_ ?_
  rotate_left
  · intro w'
    go_simp
    with_reducible rfl
  rotate_left
  · simp only [Act.put, List.setIfInBounds_toArray, List.set_cons_zero, List.set_cons_succ, i64_w, i32_w]
    rfl
  refine pure_ (i := 5) (N := some 8) (v := ?_) (a' := ?_) #[true, true, true, true, true, true, false, false] rfl rfl (by kernel_rfl) (fun _ _ _ h => h) (Or.inl ⟨by rfl, ?_⟩) ?_ ?_
  rotate_left
  · intro w'
    go_simp
    with_reducible rfl
  rotate_left
  · simp only [Act.put, List.setIfInBounds_toArray, List.set_cons_zero, List.set_cons_succ, i64_w, i32_w]
    rfl
  refine pure_ (i := 6) (N := some 9) (v := ?_) (a' := ?_) #[true, true, true, true, true, true, true, false] rfl rfl (by kernel_rfl) (fun _ _ _ h => h) (Or.inl ⟨by rfl, ?_⟩) ?_ ?_
  rotate_left
  · intro w'
    go_simp
    with_reducible rfl
  rotate_left
  · simp only [Act.put, List.setIfInBounds_toArray, List.set_cons_zero, List.set_cons_succ, i64_w, i32_w]
    rfl
  refine last_ (i := 7) (N := none) #[true, true, true, true, true, true, true, true] rfl rfl (by kernel_rfl) (by decide) (fun K hK => ?_)
  refine skip_ (w1 := ?_) (by rfl) rfl ?_ ?_
  rotate_left
  · go_simp
    rfl
  refine hK.out _ _ ?_
  clear hK K
  refine done_ (by kernel_rfl) ?_

  go_wp2
  go_end0
  exact ⟨rfl, HR.out.set 16 _, HK.out.own 16 _⟩
set_option maxRecDepth 100000 in
set_option maxHeartbeats 4000000 in
theorem rd_f5 (g bx : Nat) (cs : Array Value) (s : ByteArray) (w : World) (hR : IsMR w g cs) (hX : IsBx w bx g) :
    Calls Try.prog 50 #[.string s, .pointer (some ⟨bx, 0, none⟩)] w fun e w' => e = .returned (.tuple #[]) ∧ IsMR w' g (cs.setIfInBounds 8 (.string s)) ∧ Keeps (Only g) w w' := by
  have HR := Lib.hid hR; clear hR
  have b0 := hX.c
  have f1 := HR.out.f 8
  obtain ⟨y1, hy1⟩ := HR.out.some (i := 8) (by decide)
  have hgl := HR.out.lt
  clear hX
  go_enter Try.func50, Try.ntmps50
  go_wp2
  go_end0
  exact ⟨rfl, HR.out.set 8 _, (Keeps.refl _ _).own 8 _⟩
set_option maxRecDepth 100000 in
set_option maxHeartbeats 4000000 in
theorem rd_f7 (g bx : Nat) (cs : Array Value) (s : ByteArray) (w : World) (hR : IsMR w g cs) (hX : IsBx w bx g) :
    Calls Try.prog 54 #[.string s, .pointer (some ⟨bx, 0, none⟩)] w fun e w' => e = .returned (.tuple #[]) ∧ IsMR w' g (cs.setIfInBounds 14 (.string s)) ∧ Keeps (Only g) w w' := by
  have HR := Lib.hid hR; clear hR
  have b0 := hX.c
  have f1 := HR.out.f 14
  obtain ⟨y1, hy1⟩ := HR.out.some (i := 14) (by decide)
  have hgl := HR.out.lt
  clear hX
  go_enter Try.func54, Try.ntmps54
  go_wp2
  go_end0
  exact ⟨rfl, HR.out.set 14 _, (Keeps.refl _ _).own 14 _⟩
end Go.Proofs.Ytemhmgpihkemjaa.My
