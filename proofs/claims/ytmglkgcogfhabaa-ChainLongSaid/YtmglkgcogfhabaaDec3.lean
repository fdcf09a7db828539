/- chain.reader.version. -/
import Derived.Test.YtmglkgcogfhabaaDec2
namespace Go.Proofs.Ytmglkgcogfhabaa.My
set_option linter.unusedSimpArgs false
set_option linter.unusedVariables false
open Go.RowKit Go.Proofs.YtmglkgcogfhabaaW.PrintWords Go.Proofs.YtmglkgcogfhabaaW.PrintLast Go.Proofs.Ytmglkgcogfhabaa.Pm

theorem tl_loop (s : ByteArray) : ∀ (k i : Nat) (r : List UInt8), s.size - i = k → ByteArray.toList.loop s i r = r.reverse ++ (bl s).drop i := by
  intro k
  induction k with
  | zero => intro i r h; unfold ByteArray.toList.loop; rw [if_neg (by omega), List.drop_eq_nil_of_le (by rw [bl_length]; omega), List.append_nil]
  | succ k ih =>
    intro i r h
    unfold ByteArray.toList.loop
    rw [if_pos (by omega), ih (i + 1) _ (by omega), List.reverse_cons, List.append_assoc]
    congr 1
    have hi : i < (bl s).length := by rw [bl_length]; omega
    rw [List.drop_eq_getElem_cons hi]
    rw [List.singleton_append]
    congr 1
    obtain ⟨d⟩ := s
    show d[i]! = d.toList[i]'hi
    rw [getElem!_pos d i (by simpa [bl] using hi)]
    simp
/-- A string's bytes, in both spellings. -/
theorem tl (s : ByteArray) : s.toList = bl s := by
  unfold ByteArray.toList
  rw [tl_loop s s.size 0 [] rfl]
  rfl
theorem tadd_wrap {a b : Nat} : IntKind.u64.wrap ((a : Int) + (b : Int)) = ((tadd a b : Nat) : Int) := by
  simp only [IntKind.wrap_u64, tadd]
  omega
theorem IsV.keeps {w w1 : World} {S : Nat → Prop} {b x : Nat} {c : Bool} {v : ByteArray} (k : IsV w b x c v) (hk : Keeps S w w1) (hn : ¬ S b) : IsV w1 b x c v := hk.blk k hn
theorem IsV.lt {w : World} {b x : Nat} {c : Bool} {v : ByteArray} (k : IsV w b x c v) : b < w.heap.size := blk_lt k
theorem res_c {fn : Func} {p : Tmp} {ty : TypeId} (h : fn.results = #[.cell p ty]) {tmps : Array Value} {P : Program} {w : World} {a : Addr} {v : Value}
    (hp : tmps.getD p undef = .pointer (some a)) (hl : (loadVar ty a).run P w = .ok v w) : (results fn tmps).run P w = .ok v w := by
  have hp' : tmps[p]?.getD undef = .pointer (some a) := by simpa using hp
  simp [results, h, hp', asAddr, Sem.run_bind, hl]
set_option maxRecDepth 100000 in
set_option maxHeartbeats 8000000 in
theorem rd_version (w : World) (h g : Nat) (s : RdS) (H : RdR w h g s) (hr : s.base.size + s.r.size ≤ 1000000000) (hz : s.size ≤ 100000000000) (hbad : s.bad = false) :
    Calls Try.prog 40 #[.pointer (some ⟨h, 0, none⟩)] w fun e w' => e = .returned (.agg #[.int .u64 ((verS s).1.1 : Nat), .bool (verS s).1.2.1, .string (verS s).1.2.2]) ∧ RdR w' h g (verS s).2 ∧ Keeps (Two h g) w w' := by
  have hr1 := curUint_size s.r s.cb
  have HT1 := Lib.hid (fun w hc => cur_uint s.r s.cb g w hc (by omega))
  have HT2 := Lib.hid (fun w hc => cur_bytes (curUint s.r s.cb).2.1 (curUint s.r s.cb).2.2 1 g w hc)
  have hr2 := curBytes_left (curUint s.r s.cb).2.1 (curUint s.r s.cb).2.2 1
  unfold verS
  generalize curBytes (curUint s.r s.cb).2.1 (curUint s.r s.cb).2.2 1 = T2 at *
  generalize curUint s.r s.cb = T1 at *
  obtain ⟨y, r2, b2⟩ := T2
  obtain ⟨n, r1, b1⟩ := T1
  obtain ⟨r, cb, base, last, size, long, bad⟩ := s
  simp only at *
  subst hbad
  simp only [Bool.false_or]
  have hr' : base.size + r2.size ≤ 1000000000 := by omega
  clear hr1 hr2 hr
  obtain ⟨t, ht⟩ : ∃ t, tadd last n = t := ⟨_, rfl⟩
  have htw := tadd_wrap (a := last) (b := n)
  rw [ht] at htw ⊢
  have htl : t < 18446744073709551616 := ht ▸ tadd_lt _ _
  clear ht
  have HTW := Lib.hid htw; clear htw
  have HU := Lib.hid (show Rd w h g r cb base last size long false from H); clear H
  have HK := Lib.hid (Keeps.refl (Two h g) w)
  have c0 := HU.out.rd.c0
  have hlt := HU.out.hlt
  go_enter Try.func40, Try.ntmps40
  go_wp2_with fail
  have HA := Lib.hid (show IsV _ w.heap.size 0 false ⟨#[]⟩ from blk_new w _)
  have hag : w.heap.size ≠ g := by have := HU.out.glt; omega
  have hah : w.heap.size ≠ h := by have := HU.out.hlt; omega
  have HU := Lib.hid (HU.out.alloc (.cells #[.int .u64 0, .bool false, .string ⟨#[]⟩] 30))
  have HK := Lib.hid (HK.out.alloc (.cells #[.int .u64 0, .bool false, .string ⟨#[]⟩] 30))
  generalize w.alloc (.cells #[.int .u64 0, .bool false, .string ⟨#[]⟩] 30) = w1 at *
  generalize ha : w.heap.size = a at *
  refine (HT1.out _ HU.out.cur).mono ?_
  rintro e w2 ⟨rfl, hc, hk⟩
  have HA := Lib.hid (HA.out.keeps hk (fun e => hag e))
  have HK := Lib.hid (HK.out.only2 hk)
  have HU := Lib.hid (HU.out.cur_ hc hk)
  clear hk hc c0
  have c2 := HU.out.rd.c2
  have c0 := HU.out.rd.c0
  have htw := HTW.out
  go_wp2
  clear c0 c2 htw HTW
  have HV := Lib.hid (show IsV _ w2.heap.size t false ⟨#[]⟩ from blk_new w2 _)
  have hbg : w2.heap.size ≠ g := by have := HU.out.glt; omega
  have hbh : w2.heap.size ≠ h := by have := HU.out.hlt; omega
  have hba : w2.heap.size ≠ a := by have := HA.out.lt; omega
  have hwb : a ≤ w2.heap.size := Nat.le_of_lt HA.out.lt
  have HU := Lib.hid (HU.out.alloc (.cells #[.int .u64 t, .bool false, .string ⟨#[]⟩] 30))
  have HK := Lib.hid (HK.out.alloc (.cells #[.int .u64 t, .bool false, .string ⟨#[]⟩] 30))
  have HA := Lib.hid (show IsV (w2.alloc (.cells #[.int .u64 t, .bool false, .string ⟨#[]⟩] 30)) a 0 false ⟨#[]⟩ from blk_alloc HA.out _)
  generalize w2.alloc (.cells #[.int .u64 t, .bool false, .string ⟨#[]⟩] 30) = w3 at *
  generalize hb : w2.heap.size = b at *
  have hwa : w.heap.size ≤ a := Nat.le_of_eq ha
  have hwb : w.heap.size ≤ b := Nat.le_trans hwa hwb
  clear hb hlt ha
  have f5 := HU.out.rd.f 5
  have c5 := HU.out.rd.c5
  refine start_ (n := 17) (S := fun w' => w'.cell? ⟨h, 5, none⟩ = some (.bool false) ∧ w'.cell? ⟨b, 0, none⟩ = some (.int .u64 t) ∧ w'.cell? ⟨h, 2, none⟩ = some (.int .u64 last)) (ds := [16]) #[false, false, false, false, false, false, false, false, false, false, false, false, false, false, false, false, false] (by kernel_rfl) rfl rfl ⟨HU.out.rd.c5, HV.out.c0, HU.out.rd.c2⟩ (fun hHeld => ?_)
  have HK := Lib.hid HK.out.drew
  have HU := Lib.hid HU.out.drew
  have HA := Lib.hid (show IsV w3.drew a 0 false ⟨#[]⟩ from HA.out)
  have HV := Lib.hid (show IsV w3.drew b t false ⟨#[]⟩ from HV.out)
  refine pure_ (i := 0) (N := some 17) (v := ?_) (a' := ?_) #[true, false, false, false, false, false, false, false, false, false, false, false, false, false, false, false, false] rfl rfl (by kernel_rfl) (fun _ _ _ h => h) (Or.inl ⟨by rfl, ?_⟩) ?_ ?_
  rotate_left
  · intro w'
    go_simp
    with_reducible rfl
  rotate_left
  · simp only [Act.put, List.setIfInBounds_toArray, List.set_cons_zero, List.set_cons_succ, i64_w, i32_w]
    rfl
  refine pure_ (i := 1) (N := some 18) (v := ?_) (a' := ?_) #[true, true, false, false, false, false, false, false, false, false, false, false, false, false, false, false, false] rfl rfl (by kernel_rfl) (fun _ _ _ h => h) (Or.inl ⟨by rfl, ?_⟩) ?_ ?_
  rotate_left
  · intro w'
    go_simp
    with_reducible rfl
  rotate_left
  · simp only [Act.put, List.setIfInBounds_toArray, List.set_cons_zero, List.set_cons_succ, i64_w, i32_w]
    rfl
  refine pure_ (i := 2) (N := some 19) (v := ?_) (a' := ?_) #[true, true, true, false, false, false, false, false, false, false, false, false, false, false, false, false, false] rfl rfl (by kernel_rfl) (fun _ _ _ h => h) (Or.inl ⟨by rfl, ?_⟩) ?_ ?_
  rotate_left
  · intro w'
    go_simp
    with_reducible rfl
  rotate_left
  · simp only [Act.put, List.setIfInBounds_toArray, List.set_cons_zero, List.set_cons_succ, i64_w, i32_w]
    rfl
  refine pure_ (i := 3) (N := some 20) (v := ?_) (a' := ?_) #[true, true, true, true, false, false, false, false, false, false, false, false, false, false, false, false, false] rfl rfl (by kernel_rfl) (fun _ _ _ h => h) (Or.inl ⟨by rfl, ?_⟩) ?_ ?_
  rotate_left
  · intro w'
    go_simp
    with_reducible rfl
  rotate_left
  · simp only [Act.put, List.setIfInBounds_toArray, List.set_cons_zero, List.set_cons_succ, i64_w, i32_w]
    rfl
  refine take_ (i := 4) (N := some 21) (v := ?_) (a' := ?_) #[true, true, true, true, true, false, false, false, false, false, false, false, false, false, false, false, false] rfl rfl (by kernel_rfl) (fun _ _ _ h => h) (Or.inl ⟨by rfl, ?_⟩) hHeld ?_ ?_
  rotate_left
  · rintro w' ⟨s0, s1, s2⟩
    go_simp
    with_reducible rfl
  rotate_left
  · simp only [Act.put, List.setIfInBounds_toArray, List.set_cons_zero, List.set_cons_succ, i64_w, i32_w]
    rfl
  refine pure_ (i := 5) (N := some 22) (v := ?_) (a' := ?_) #[true, true, true, true, true, true, false, false, false, false, false, false, false, false, false, false, false] rfl rfl (by kernel_rfl) (fun _ _ _ h => h) (Or.inl ⟨by rfl, ?_⟩) ?_ ?_
  rotate_left
  · intro w'
    go_simp
    with_reducible rfl
  rotate_left
  · simp only [Act.put, List.setIfInBounds_toArray, List.set_cons_zero, List.set_cons_succ, i64_w, i32_w]
    rfl
  refine pure_ (i := 6) (N := some 23) (v := ?_) (a' := ?_) #[true, true, true, true, true, true, true, false, false, false, false, false, false, false, false, false, false] rfl rfl (by kernel_rfl) (fun _ _ _ h => h) (Or.inl ⟨by rfl, ?_⟩) ?_ ?_
  rotate_left
  · intro w'
    go_simp
    with_reducible rfl
  rotate_left
  · simp only [Act.put, List.setIfInBounds_toArray, List.set_cons_zero, List.set_cons_succ, i64_w, i32_w]
    rfl
  refine pure_ (i := 8) (N := some 25) (v := ?_) (a' := ?_) #[true, true, true, true, true, true, true, false, true, false, false, false, false, false, false, false, false] rfl rfl (by kernel_rfl) (fun _ _ _ h => h) (Or.inl ⟨by rfl, ?_⟩) ?_ ?_
  rotate_left
  · intro w'
    go_simp
    with_reducible rfl
  rotate_left
  · simp only [Act.put, List.setIfInBounds_toArray, List.set_cons_zero, List.set_cons_succ, i64_w, i32_w]
    rfl
  refine pure_ (i := 9) (N := some 26) (v := ?_) (a' := ?_) #[true, true, true, true, true, true, true, false, true, true, false, false, false, false, false, false, false] rfl rfl (by kernel_rfl) (fun _ _ _ h => h) (Or.inl ⟨by rfl, ?_⟩) ?_ ?_
  rotate_left
  · intro w'
    go_simp
    with_reducible rfl
  rotate_left
  · simp only [Act.put, List.setIfInBounds_toArray, List.set_cons_zero, List.set_cons_succ, i64_w, i32_w]
    rfl
  refine pure_ (i := 10) (N := some 27) (v := ?_) (a' := ?_) #[true, true, true, true, true, true, true, false, true, true, true, false, false, false, false, false, false] rfl rfl (by kernel_rfl) (fun _ _ _ h => h) (Or.inl ⟨by rfl, ?_⟩) ?_ ?_
  rotate_left
  · intro w'
    go_simp
    with_reducible rfl
  rotate_left
  · simp only [Act.put, List.setIfInBounds_toArray, List.set_cons_zero, List.set_cons_succ, i64_w, i32_w]
    rfl
  refine take_ (i := 7) (N := some 24) (v := ?_) (a' := ?_) #[true, true, true, true, true, true, true, true, true, true, true, false, false, false, false, false, false] rfl rfl (by kernel_rfl) (fun _ _ _ h => h) (Or.inl ⟨by rfl, ?_⟩) hHeld ?_ ?_
  rotate_left
  · rintro w' ⟨s0, s1, s2⟩
    go_simp
    with_reducible rfl
  rotate_left
  · simp only [Act.put, List.setIfInBounds_toArray, List.set_cons_zero, List.set_cons_succ, i64_w, i32_w]
    rfl
  refine take_ (i := 11) (N := some 28) (v := ?_) (a' := ?_) #[true, true, true, true, true, true, true, true, true, true, true, true, false, false, false, false, false] rfl rfl (by kernel_rfl) (fun _ _ _ h => h) (Or.inl ⟨by rfl, ?_⟩) hHeld ?_ ?_
  rotate_left
  · rintro w' ⟨s0, s1, s2⟩
    go_simp
    with_reducible rfl
  rotate_left
  · simp only [Act.put, List.setIfInBounds_toArray, List.set_cons_zero, List.set_cons_succ, i64_w, i32_w]
    rfl
  refine pure_ (i := 12) (N := some 29) (v := ?_) (a' := ?_) #[true, true, true, true, true, true, true, true, true, true, true, true, true, false, false, false, false] rfl rfl (by kernel_rfl) (fun _ _ _ h => h) (Or.inl ⟨by rfl, ?_⟩) ?_ ?_
  rotate_left
  · intro w'
    go_simp
    with_reducible rfl
  rotate_left
  · simp only [Act.put, List.setIfInBounds_toArray, List.set_cons_zero, List.set_cons_succ, i64_w, i32_w]
    rfl
  refine pure_ (i := 13) (N := some 30) (v := ?_) (a' := ?_) #[true, true, true, true, true, true, true, true, true, true, true, true, true, true, false, false, false] rfl rfl (by kernel_rfl) (fun _ _ _ h => h) (Or.inl ⟨by rfl, ?_⟩) ?_ ?_
  rotate_left
  · intro w'
    go_simp
    with_reducible rfl
  rotate_left
  · simp only [Act.put, List.setIfInBounds_toArray, List.set_cons_zero, List.set_cons_succ, i64_w, i32_w]
    rfl
  refine pure_ (i := 14) (N := some 31) (v := ?_) (a' := ?_) #[true, true, true, true, true, true, true, true, true, true, true, true, true, true, true, false, false] rfl rfl (by kernel_rfl) (fun _ _ _ h => h) (Or.inl ⟨by rfl, ?_⟩) ?_ ?_
  rotate_left
  · intro w'
    go_simp
    with_reducible rfl
  rotate_left
  · simp only [Act.put, List.setIfInBounds_toArray, List.set_cons_zero, List.set_cons_succ, i64_w, i32_w]
    rfl
  refine pure_ (i := 15) (N := some 32) (v := ?_) (a' := ?_) #[true, true, true, true, true, true, true, true, true, true, true, true, true, true, true, true, false] rfl rfl (by kernel_rfl) (fun _ _ _ h => h) (Or.inl ⟨by rfl, ?_⟩) ?_ ?_
  rotate_left
  · intro w'
    go_simp
    with_reducible rfl
  rotate_left
  · simp only [Act.put, List.setIfInBounds_toArray, List.set_cons_zero, List.set_cons_succ, i64_w, i32_w]
    rfl
  refine last_ (i := 16) (N := none) #[true, true, true, true, true, true, true, true, true, true, true, true, true, true, true, true, true] rfl rfl (by kernel_rfl) (by decide) (fun K hK => ?_)
  refine skip_ (w1 := ?_) (by rfl) rfl ?_ ?_
  rotate_left
  · go_simp
    rfl
  refine hK.out _ _ ?_
  clear hK K
  refine done_ (by kernel_rfl) ?_

  clear f5 c5 hHeld
  have HU := Lib.hid (show Rd ((w3.setCell ⟨h, 5, none⟩ (.bool (decide (t ≤ last)))).drew) h g r1 b1 base last size long (decide (t ≤ last)) from HU.out.set5 _)
  have HK := Lib.hid (show Keeps (Two h g) w ((w3.setCell ⟨h, 5, none⟩ (.bool (decide (t ≤ last)))).drew) from HK.out.set2 5 _)
  have HA := Lib.hid (show IsV ((w3.setCell ⟨h, 5, none⟩ (.bool (decide (t ≤ last)))).drew) a 0 false ⟨#[]⟩ from blk_far HA.out (p := ⟨h, 5, none⟩) hah _)
  have HV := Lib.hid (show IsV ((w3.setCell ⟨h, 5, none⟩ (.bool (decide (t ≤ last)))).drew) b t false ⟨#[]⟩ from blk_far HV.out (p := ⟨h, 5, none⟩) hbh _)
  generalize (w3.setCell ⟨h, 5, none⟩ (Value.bool (decide (t ≤ last)))).drew = w4 at *
  have v0 := HV.out.c0
  have c0 := HU.out.rd.c0
  have c2 := HU.out.rd.c2
  have f2 := HU.out.rd.f 2
  go_wp2_with fail
  have HU := Lib.hid (HU.out.set2 t)
  have HK := Lib.hid (HK.out.set2 2 (.int .u64 t))
  have HA := Lib.hid (show IsV (w4.setCell ⟨h, 2, none⟩ (.int .u64 t)) a 0 false ⟨#[]⟩ from blk_far HA.out (p := ⟨h, 2, none⟩) hah _)
  have HV := Lib.hid (show IsV (w4.setCell ⟨h, 2, none⟩ (.int .u64 t)) b t false ⟨#[]⟩ from blk_far HV.out (p := ⟨h, 2, none⟩) hbh _)
  generalize w4.setCell ⟨h, 2, none⟩ (Value.int .u64 (t : Int)) = w5 at *
  clear v0 c0 c2 f2
  refine (HT2.out _ HU.out.cur).mono ?_
  rintro e w6 ⟨rfl, hc, hk⟩
  have HA := Lib.hid (HA.out.keeps hk (fun e => hag e))
  have HV := Lib.hid (HV.out.keeps hk (fun e => hbg e))
  have HK := Lib.hid (HK.out.only2 hk)
  have HU := Lib.hid (HU.out.cur_ hc hk)
  clear hk hc HT1 HT2
  have hty := tl y
  by_cases e1 : bl y = [1]
  · have x1 : (y.toList == [1]) = true := by rw [hty, e1]; rfl
    have x1' : y.toList = [1] := by rw [hty, e1]
    have HR := Lib.hid (show verOf t y ⟨r2, b2, base, t, size, long, decide (t ≤ last)⟩ = ((t, true, ⟨#[]⟩), finS ⟨r2, b2, base, t, size, long, decide (t ≤ last)⟩) from if_pos e1)
    clear hty e1
    by_cases hle : t ≤ last
    · rw [decide_eq_true hle] at HU
      have HR := Lib.hid (HR.out.trans (show _ = ((t, true, (⟨#[]⟩ : ByteArray)), (⟨r2, b2, base, t, size, long, true⟩ : RdS)) by rw [decide_eq_true hle]; rfl))
      clear hle
      have c0 := HU.out.rd.c0
      have c5 := HU.out.rd.c5
      have f5 := HU.out.rd.f 5
      have v0 := HV.out.c0
      have v1 := HV.out.c1
      have v2 := HV.out.c2
      have w1 := HV.out.f 1
      have w2 := HV.out.f 2
      have u0 := HA.out.c0
      have u1 := HA.out.c1
      have u2 := HA.out.c2
      have g0 := HA.out.f 0
      have g1 := HA.out.f 1
      have g2 := HA.out.f 2
      go_wp2
      refine bodyPost_ret (res_c (a := ⟨?gg1, 0, none⟩) (v := .agg ?cs1) rfl ?hp1 (load_row (g := ?gg1) (cs := ?cs1) (t := ?tt1) (fr := ?fr1) ?hrow1 _ _ Try.underlying30 rfl ?hi1)) rfl ?_
      case hp1 => rfl
      case hrow1 => exact blk_set (blk_set (blk_set (blk_far (blk_far HA.out (p := ⟨b, 1, none⟩) hba.symm _) (p := ⟨h, 5, none⟩) hah _) 0 _) 1 _) 2 _
      case hi1 => kernel_rfl
      rw [HR.out]
      exact ⟨rfl, ((((HU.out.other (p := ⟨b, 1, none⟩) hbh.symm hbg.symm _).set5 true).other (p := ⟨a, 0, none⟩) hah.symm hag.symm _).other (p := ⟨a, 1, none⟩) hah.symm hag.symm _).other (p := ⟨a, 2, none⟩) hah.symm hag.symm _, ((((HK.out.set (p := ⟨b, 1, none⟩) (.inr hwb) _).set2 5 _).set (p := ⟨a, 0, none⟩) (.inr hwa) _).set (p := ⟨a, 1, none⟩) (.inr hwa) _).set (p := ⟨a, 2, none⟩) (.inr hwa) _⟩
    · rw [decide_eq_false hle] at HU
      have HR := Lib.hid (HR.out.trans (show _ = ((t, true, (⟨#[]⟩ : ByteArray)), (⟨r2, b2, base, t, size, long, b2⟩ : RdS)) by rw [decide_eq_false hle]; rfl))
      clear hle
      have c0 := HU.out.rd.c0
      have c5 := HU.out.rd.c5
      have f5 := HU.out.rd.f 5
      have v0 := HV.out.c0
      have v1 := HV.out.c1
      have v2 := HV.out.c2
      have w1 := HV.out.f 1
      have w2 := HV.out.f 2
      have u0 := HA.out.c0
      have u1 := HA.out.c1
      have u2 := HA.out.c2
      have g0 := HA.out.f 0
      have g1 := HA.out.f 1
      have g2 := HA.out.f 2
      go_wp2_with fail
      refine (cur_bad _ _ _ _ (HU.out.other (p := ⟨b, 1, none⟩) hbh.symm hbg.symm _).cur).mono ?_
      rintro e wq ⟨rfl, rfl⟩
      go_wp2
      refine bodyPost_ret (res_c (a := ⟨?gg2, 0, none⟩) (v := .agg ?cs2) rfl ?hp2 (load_row (g := ?gg2) (cs := ?cs2) (t := ?tt2) (fr := ?fr2) ?hrow2 _ _ Try.underlying30 rfl ?hi2)) rfl ?_
      case hp2 => rfl
      case hrow2 => exact blk_set (blk_set (blk_set (blk_far (blk_far HA.out (p := ⟨b, 1, none⟩) hba.symm _) (p := ⟨h, 5, none⟩) hah _) 0 _) 1 _) 2 _
      case hi2 => kernel_rfl
      rw [HR.out]
      exact ⟨rfl, ((((HU.out.other (p := ⟨b, 1, none⟩) hbh.symm hbg.symm _).set5 b2).other (p := ⟨a, 0, none⟩) hah.symm hag.symm _).other (p := ⟨a, 1, none⟩) hah.symm hag.symm _).other (p := ⟨a, 2, none⟩) hah.symm hag.symm _, ((((HK.out.set (p := ⟨b, 1, none⟩) (.inr hwb) _).set2 5 _).set (p := ⟨a, 0, none⟩) (.inr hwa) _).set (p := ⟨a, 1, none⟩) (.inr hwa) _).set (p := ⟨a, 2, none⟩) (.inr hwa) _⟩
  · have x1 : (y.toList == [1]) = false := by rw [hty]; simpa using e1
    have x1' : ¬ y.toList = [1] := by rw [hty]; exact e1
    by_cases e0 : bl y = [0]
    · have x0 : (y.toList == [0]) = true := by rw [hty, e0]; rfl
      have x0' : y.toList = [0] := by rw [hty, e0]
      have HR := Lib.hid (show verOf t y ⟨r2, b2, base, t, size, long, decide (t ≤ last)⟩ = ((t, false, (valS ⟨r2, b2, base, t, size, long, decide (t ≤ last)⟩).1), finS (valS ⟨r2, b2, base, t, size, long, decide (t ≤ last)⟩).2) from (if_neg e1).trans (if_pos e0))
      clear hty e1 e0
      have RV := Lib.hid (fun w H => rd_value w h g ⟨r2, b2, base, t, size, long, decide (t ≤ last)⟩ H hr' hz)
      generalize valS ⟨r2, b2, base, t, size, long, decide (t ≤ last)⟩ = V at *
      obtain ⟨v, r3, b3, base3, last3, size3, long3, bad3⟩ := V
      simp only [finS] at HR
      go_wp2_with fail
      refine (RV.out _ HU.out).mono ?_
      rintro e w7 ⟨rfl, hu, hk⟩
      have HU := Lib.hid (show Rd w7 h g r3 b3 base3 last3 size3 long3 bad3 from hu)
      have HA := Lib.hid (HA.out.keeps hk (by rintro (e | e); exact hah e; exact hag e))
      have HV := Lib.hid (HV.out.keeps hk (by rintro (e | e); exact hbh e; exact hbg e))
      have HK := Lib.hid (HK.out.trans hk)
      clear hu hk RV
      cases bad3 with
      | true =>
        simp only [Bool.true_or] at HR
        have c0 := HU.out.rd.c0
        have c5 := HU.out.rd.c5
        have f5 := HU.out.rd.f 5
        have v0 := HV.out.c0
        have v1 := HV.out.c1
        have v2 := HV.out.c2
        have w1 := HV.out.f 1
        have w2 := HV.out.f 2
        have u0 := HA.out.c0
        have u1 := HA.out.c1
        have u2 := HA.out.c2
        have g0 := HA.out.f 0
        have g1 := HA.out.f 1
        have g2 := HA.out.f 2
        go_wp2
        refine bodyPost_ret (res_c (a := ⟨?gg3, 0, none⟩) (v := .agg ?cs3) rfl ?hp3 (load_row (g := ?gg3) (cs := ?cs3) (t := ?tt3) (fr := ?fr3) ?hrow3 _ _ Try.underlying30 rfl ?hi3)) rfl ?_
        case hp3 => rfl
        case hrow3 => exact blk_set (blk_set (blk_set (blk_far (blk_far HA.out (p := ⟨b, 2, none⟩) hba.symm _) (p := ⟨h, 5, none⟩) hah _) 0 _) 1 _) 2 _
        case hi3 => kernel_rfl
        rw [HR.out]
        exact ⟨rfl, ((((HU.out.other (p := ⟨b, 2, none⟩) hbh.symm hbg.symm _).set5 true).other (p := ⟨a, 0, none⟩) hah.symm hag.symm _).other (p := ⟨a, 1, none⟩) hah.symm hag.symm _).other (p := ⟨a, 2, none⟩) hah.symm hag.symm _, ((((HK.out.set (p := ⟨b, 2, none⟩) (.inr hwb) _).set2 5 _).set (p := ⟨a, 0, none⟩) (.inr hwa) _).set (p := ⟨a, 1, none⟩) (.inr hwa) _).set (p := ⟨a, 2, none⟩) (.inr hwa) _⟩
      | false =>
        simp only [Bool.false_or] at HR
        have c0 := HU.out.rd.c0
        have c5 := HU.out.rd.c5
        have f5 := HU.out.rd.f 5
        have v0 := HV.out.c0
        have v1 := HV.out.c1
        have v2 := HV.out.c2
        have w1 := HV.out.f 1
        have w2 := HV.out.f 2
        have u0 := HA.out.c0
        have u1 := HA.out.c1
        have u2 := HA.out.c2
        have g0 := HA.out.f 0
        have g1 := HA.out.f 1
        have g2 := HA.out.f 2
        go_wp2_with fail
        refine (cur_bad _ _ _ _ (HU.out.other (p := ⟨b, 2, none⟩) hbh.symm hbg.symm _).cur).mono ?_
        rintro e wq ⟨rfl, rfl⟩
        go_wp2
        refine bodyPost_ret (res_c (a := ⟨?gg4, 0, none⟩) (v := .agg ?cs4) rfl ?hp4 (load_row (g := ?gg4) (cs := ?cs4) (t := ?tt4) (fr := ?fr4) ?hrow4 _ _ Try.underlying30 rfl ?hi4)) rfl ?_
        case hp4 => rfl
        case hrow4 => exact blk_set (blk_set (blk_set (blk_far (blk_far HA.out (p := ⟨b, 2, none⟩) hba.symm _) (p := ⟨h, 5, none⟩) hah _) 0 _) 1 _) 2 _
        case hi4 => kernel_rfl
        rw [HR.out]
        exact ⟨rfl, ((((HU.out.other (p := ⟨b, 2, none⟩) hbh.symm hbg.symm _).set5 b3).other (p := ⟨a, 0, none⟩) hah.symm hag.symm _).other (p := ⟨a, 1, none⟩) hah.symm hag.symm _).other (p := ⟨a, 2, none⟩) hah.symm hag.symm _, ((((HK.out.set (p := ⟨b, 2, none⟩) (.inr hwb) _).set2 5 _).set (p := ⟨a, 0, none⟩) (.inr hwa) _).set (p := ⟨a, 1, none⟩) (.inr hwa) _).set (p := ⟨a, 2, none⟩) (.inr hwa) _⟩
    · have x0 : (y.toList == [0]) = false := by rw [hty]; simpa using e0
      have x0' : ¬ y.toList = [0] := by rw [hty]; exact e0
      have HR := Lib.hid (show verOf t y ⟨r2, b2, base, t, size, long, decide (t ≤ last)⟩ = ((t, false, ⟨#[]⟩), finS ⟨r2, b2, base, t, size, long, true⟩) from (if_neg e1).trans (if_neg e0))
      simp only [finS, Bool.true_or] at HR
      clear hty e1 e0
      have c0 := HU.out.rd.c0
      have c5 := HU.out.rd.c5
      have f5 := HU.out.rd.f 5
      have v0 := HV.out.c0
      have v1 := HV.out.c1
      have v2 := HV.out.c2
      have w1 := HV.out.f 1
      have w2 := HV.out.f 2
      have u0 := HA.out.c0
      have u1 := HA.out.c1
      have u2 := HA.out.c2
      have g0 := HA.out.f 0
      have g1 := HA.out.f 1
      have g2 := HA.out.f 2
      go_wp2
      refine bodyPost_ret (res_c (a := ⟨?gg5, 0, none⟩) (v := .agg ?cs5) rfl ?hp5 (load_row (g := ?gg5) (cs := ?cs5) (t := ?tt5) (fr := ?fr5) ?hrow5 _ _ Try.underlying30 rfl ?hi5)) rfl ?_
      case hp5 => rfl
      case hrow5 => exact blk_set (blk_set (blk_set (blk_far (blk_far (HA.out) (p := ⟨h, 5, none⟩) hah _) (p := ⟨h, 5, none⟩) hah _) 0 _) 1 _) 2 _
      case hi5 => kernel_rfl
      rw [HR.out]
      exact ⟨rfl, ((((HU.out.set5 true).set5 true).other (p := ⟨a, 0, none⟩) hah.symm hag.symm _).other (p := ⟨a, 1, none⟩) hah.symm hag.symm _).other (p := ⟨a, 2, none⟩) hah.symm hag.symm _, ((((HK.out.set2 5 _).set2 5 _).set (p := ⟨a, 0, none⟩) (.inr hwa) _).set (p := ⟨a, 1, none⟩) (.inr hwa) _).set (p := ⟨a, 2, none⟩) (.inr hwa) _⟩
end Go.Proofs.Ytmglkgcogfhabaa.My
