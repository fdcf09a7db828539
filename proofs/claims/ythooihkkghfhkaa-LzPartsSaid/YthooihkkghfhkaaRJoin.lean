/- isoglossref04.Join walked. -/
import Derived.Test.YthooihkkghfhkaaLzRef
import Derived.Test.YthooihkkghfhkaaLzJoin
import Derived.Test.YthooihkkghfhkaaRText
import Derived.Test.YthooihkkghfhkaaOpens
namespace Go.Proofs.Ythooihkkghfhkaa.My
set_option linter.unusedSimpArgs false
set_option linter.unusedVariables false
open Go.RowKit Go.Proofs.YthooihkkghfhkaaW.PrintWords Go.Proofs.YthooihkkghfhkaaW.PrintLast Go.Proofs.Ythooihkkghfhkaa.Pm

/-- A slice of parts that came in. -/
def ArgParts (w : World) (A : Option Addr) (len : Nat) (ps : List PartT) : Prop :=
  ps.length = len ∧ (∀ p ∈ ps, p.1.size ≤ 140737488351232 ∧ p.2.1 < 65536 ∧ p.2.2 < 65536) ∧ (0 < len → ∃ b off, A = some ⟨b, off, none⟩ ∧ b < w.heap.size ∧
    ∀ j (h : j < ps.length), w.cell? ⟨b, off + j * 3, none⟩ = some (.string ps[j].1) ∧ w.cell? ⟨b, off + j * 3 + 1, none⟩ = some (.int .u16 (ps[j].2.1 : Int)) ∧ w.cell? ⟨b, off + j * 3 + 2, none⟩ = some (.int .u16 (ps[j].2.2 : Int)))
theorem join_cons (l : List PartT) (i : Nat) (h : i < l.length) (p : PartT) (hp : l[i] = p) (s : ByteArray) (o : List UInt8) :
    joinF (l.drop i) s o = if jEnd (o ++ bl p.1) p.2.1 p.2.2 ∨ i = l.length - 1 then (s ++ textS p.1, o ++ bl p.1) else joinF (l.drop (i + 1)) (s ++ textS p.1 ++ (uvS p.2.1 ++ uvS p.2.2)) (lzCopies (o ++ bl p.1) p.2.1 p.2.2) := by
  have e : (l.drop (i + 1) = []) ↔ (i = l.length - 1) := by
    rw [List.drop_eq_nil_iff]
    exact ⟨fun h => by omega, fun h => by omega⟩
  rw [List.drop_eq_getElem_cons h, hp, joinF]
  by_cases hc : jEnd (o ++ bl p.1) p.2.1 p.2.2 ∨ i = l.length - 1
  · rw [if_pos hc, if_pos (hc.imp id e.2)]
  · rw [if_neg hc, if_neg (fun h => hc (h.imp id e.1))]
theorem jy0 {d : Nat} : (d < 1 → decide ((d : Int) < 1) = true) ∧ (¬ d < 1 → decide ((d : Int) < 1) = false) := ⟨fun h => by simp; omega, fun h => by simp; omega⟩
theorem jy1 {d m : Nat} : (m < d → decide ((m : Int) < (d : Int)) = true) ∧ (¬ m < d → decide ((m : Int) < (d : Int)) = false) := ⟨fun h => by simp; omega, fun h => by simp; omega⟩
theorem jy2 {n : Nat} : (n < 4 → decide ((n : Int) < 4) = true) ∧ (¬ n < 4 → decide ((n : Int) < 4) = false) := ⟨fun h => by simp; omega, fun h => by simp; omega⟩
theorem jy3 {m n : Nat} : (5000 < m + n → decide (5000 < (m : Int) + (n : Int)) = true) ∧ (¬ 5000 < m + n → decide (5000 < (m : Int) + (n : Int)) = false) := ⟨fun h => by simp; omega, fun h => by simp; omega⟩
theorem jy4 {i len : Nat} (hl : i < len) : (i = len - 1 → ((i : Int) == (len : Int) - 1) = true) ∧ (¬ i = len - 1 → ((i : Int) == (len : Int) - 1) = false) := ⟨fun h => by simp; omega, fun h => by simp; omega⟩
theorem jw {i : Nat} (h : i ≤ 100000) : wrap64 ((i : Int) + 1) = ((i + 1 : Nat) : Int) := wrap64_id (by omega) (by omega)
theorem jlt {m a b : Nat} (h : m = a + b) (h1 : a ≤ 5000) (h2 : b ≤ 100) : m < 18446744073709551616 := by omega
theorem js2 {a b c i : Nat} (h1 : a ≤ 140 * i) (h2 : b ≤ c + 10) (h3 : c ≤ 100) : a + b ≤ 140 * i + 110 := by omega
theorem jx {u s i : Nat} (h : u ≤ 10) (h1 : s ≤ 140 * i + 110) (hi : i ≤ 12) : u + 1 + s ≤ 140737488355328 := by omega
theorem jnl {x : Nat} (h : x ≤ 140737488355328) : (9223372036854775807 < x) = False := eq_false (by omega)
theorem jo1 {m a b : Nat} (h : m = a + b) (h1 : a ≤ 5000) (h2 : b ≤ 100) : m ≤ 5100 := by omega
theorem jfin {u s i : Nat} (h : u ≤ 10) (h1 : s ≤ 140 * i + 110) (hi : i ≤ 12) : u + 1 + s ≤ 2000 := by omega
theorem jme {j n : Nat} (h : j < n) (hw : wrap64 ((j : Int) + 1) = ((j + 1 : Nat) : Int)) : n - (intOf (.int .i64 (wrap64 ((j : Int) + 1)))).toNat < n - (intOf (.int .i64 (j : Int))).toNat := by
  rw [hw]
  simp only [intOf]
  omega
theorem jme2 {j n : Nat} (h : j < n) : n - (intOf (.int .i64 ((j : Int) + 1))).toNat < n - (intOf (.int .i64 (j : Int))).toNat := by
  simp only [intOf]
  omega
theorem jsz {a b c d i : Nat} (h1 : a ≤ 140 * i) (h2 : b ≤ c + 10) (h3 : c ≤ 100) (h4 : d ≤ 20) : a + b + d ≤ 140 * (i + 1) := by omega
theorem jb {a b d i c : Nat} (h1 : a ≤ 140 * i) (h2 : b ≤ c + 10) (h3 : c ≤ 100) (hi : i ≤ 12) (h4 : d ≤ 20) : a + b + d ≤ 140737488355328 := by omega
theorem jol {m d j n : Nat} (hl : m = d + j) (hj : j < n) (h : d + n ≤ 5000) : m ≤ 5000 := by omega

set_option maxRecDepth 100000 in
set_option maxHeartbeats 8000000 in
theorem rjoin_any (A : Option Addr) (len cap : Nat) (ps : List PartT) (w : World) (hA : ArgParts w A len ps) (hlen : len ≤ 12) (hsm : ∀ p ∈ ps, p.1.size ≤ 100) :
    Calls Try.prog 21 #[.slice A len cap] w fun e w' => e = .returned (.tuple #[.string (joinS ps).1, .string (joinS ps).2]) ∧ (joinF ps ⟨#[]⟩ []).2.length ≤ 5100 ∧ (joinS ps).1.size ≤ 2000 ∧ Below w.heap.size w w' := by
  have HB := Lib.hid (Below.refl w.heap.size w)
  have HA := Lib.hid hA; clear hA
  have HM := Lib.hid hsm; clear hsm
  unfold joinS
  have HF := Lib.hid (show joinF ps ⟨#[]⟩ [] = joinF (ps.drop 0) ⟨#[]⟩ [] by rw [List.drop_zero])
  generalize joinF ps ⟨#[]⟩ [] = F at *
  go_enter Try.func21, Try.ntmps21
  go_wp2
  go_loopw [4, 5, 6] (fun v4 v5 v6 wr => ∃ (i : Nat) (s : ByteArray) (o : List UInt8), v4 = .string s ∧ v6 = .int .i64 i ∧ i ≤ len ∧ s.size ≤ 140 * i ∧ o.length ≤ 5000 ∧ Byt wr w.heap.size v5 o ∧ Below w.heap.size w wr ∧ F = joinF (ps.drop i) s o) (fun _ _ v6 _ => len - (intOf v6).toNat)
  case atStart => exact ⟨0, ⟨#[]⟩, [], rfl, rfl, by omega, by decide, by simp, Byt.none_ _ _, HB.out, HF.out⟩
  case round =>
    clear HB HF
    obtain ⟨i, s, o, rfl, rfl, hi, hss, hoo, ho, hb, hf⟩ := hrel
    obtain ⟨wo, rfl⟩ : ∃ wo : World, wo = wr := ⟨_, rfl⟩
    have HO := Lib.hid ho; clear ho
    have HB := Lib.hid hb; clear hb
    have HF := Lib.hid hf; clear hf
    by_cases hlt : i < len
    · obtain ⟨b0, off, rfl, hb0, hcell⟩ := HA.out.2.2 (by omega)
      have hil : i < ps.length := by rw [HA.out.1]; exact hlt
      obtain ⟨p, hp⟩ : ∃ p, ps[i] = p := ⟨_, rfl⟩
      have hc := hcell i hil
      have hj := join_cons ps i hil p hp s o
      have hpm := HM.out _ (List.getElem_mem hil)
      have hpd := HA.out.2.1 _ (List.getElem_mem hil)
      rw [hp] at hc hpm hpd
      obtain ⟨b, d, n⟩ := p
      simp only at hc hpm hpd
      rw [HA.out.1] at hj
      have HJ := Lib.hid hj; clear hj hcell hp hil
      have hc0 : World.cell? _ ⟨b0, off + i * 3, none⟩ = some (.string b) := (HB.out.cell (p := ⟨b0, off + i * 3, none⟩) hb0).trans hc.1
      have HC := Lib.hid hc; clear hc
      have T := Lib.hid (fun w => rtext_any b w (by omega))
      have ht := textS_le (s := b) (by omega)
      obtain ⟨t, htt⟩ : ∃ t, textS b = t := ⟨_, rfl⟩
      rw [htt] at T ht
      have hst : s.size + t.size ≤ 140737488355328 := by omega
      have hap : o.length + b.size ≤ 140737488355328 := by omega
      have hu1 := uvS_le (n := d) (by omega)
      have hu2 := uvS_le (n := n) (by omega)
      have U1 := Lib.hid (fun w => ruint_any d w (by omega))
      have U2 := Lib.hid (fun w => ruint_any n w (by omega))
      obtain ⟨u1, hu1'⟩ : ∃ u1, uvS d = u1 := ⟨_, rfl⟩
      obtain ⟨u2, hu2'⟩ : ∃ u2, uvS n = u2 := ⟨_, rfl⟩
      rw [hu1'] at hu1 U1
      rw [hu2'] at hu2 U2
      have hs1 : u1.size + u2.size ≤ 140737488355328 := by omega
      have HEQ := Lib.hid (And.intro htt (And.intro hu1' hu2')); clear htt hu1' hu2'
      go_wp2_with fail
      refine (T.out _).mono ?_
      rintro e w1 ⟨rfl, hb⟩
      have HO := Lib.hid (HO.out.below (hb.mono (Nat.le_refl _)))
      have HB := Lib.hid (HB.out.trans (hb.mono HB.out.size)); clear hb hc0
      have hc0 : World.cell? _ ⟨b0, off + i * 3, none⟩ = some (.string b) := (HB.out.cell (p := ⟨b0, off + i * 3, none⟩) hb0).trans HC.out.1
      go_wp2_with (at_builtin; refine app_str (w0 := w) w.heap.size rfl (.tmp 24) (.tmp 29) _ o b rfl rfl rfl HO.out HB.out HB.out.size hap ?_; intro v1 w3 HO1 HB1 HG1)
      obtain ⟨o1, ho1⟩ : ∃ o1, o ++ bl b = o1 := ⟨_, rfl⟩
      have hol : o1.length = o.length + b.size := by rw [← ho1, List.length_append, bl_length]
      replace HO1 : Hid (Byt w3 w.heap.size v1 o1) := Lib.hid (by rw [← ho1]; exact HO1.out)
      simp only [ho1] at HJ
      obtain ⟨A1, c1, rfl⟩ := HO1.out.slice
      have hc1 : w3.cell? ⟨b0, off + i * 3 + 1, none⟩ = some (.int .u16 (d : Int)) := (HB1.out.cell (p := ⟨b0, off + i * 3 + 1, none⟩) hb0).trans HC.out.2.1
      have hc2 : w3.cell? ⟨b0, off + i * 3 + 2, none⟩ = some (.int .u16 (n : Int)) := (HB1.out.cell (p := ⟨b0, off + i * 3 + 2, none⟩) hb0).trans HC.out.2.2
      have HO := HO1
      have HB := HB1
      clear HO1 HB1 HG1 hc0 T hap
      have e1 : IntKind.i64.wrap (d : Int) = (d : Int) := IntWalk.i64_in _ (by omega)
      have e2 : IntKind.i64.wrap (n : Int) = (n : Int) := IntWalk.i64_in _ (by omega)
      have e3 : wrap64 ((o1.length : Int) + (n : Int)) = (o1.length : Int) + (n : Int) := wrap64_id (by omega) (by omega)
      have e4 : wrap64 ((len : Int) - 1) = (len : Int) - 1 := wrap64_id (by omega) (by omega)
      have H1 := Lib.hid (And.intro hol (And.intro hpm ht)); clear hol
      go_wp2
      go_quiet (fail)
      have HO := Lib.hid (HO.out.below (pw_below_drewN (Below.refl _ _) nq))
      have HB := Lib.hid (pw_below_drewN HB.out nq)
      generalize World.drewN _ nq = w4 at *
      clear e1 e2
      by_cases k0 : d < 1
      · skip
        have y0 := jy0.1 k0
        have HE := Lib.hid (HF.out.trans (HJ.out.trans (if_pos (.inl (.inl k0)))))
        have U3 := Lib.hid (fun w => ruint_any o1.length w (jlt H1.out.1 hoo hpm))
        have hu3 := uvS_le (n := o1.length) (jlt H1.out.1 hoo hpm)
        have e5 : IntKind.u64.wrap (o1.length : Int) = (o1.length : Int) := wrap_u64_nat (jlt H1.out.1 hoo hpm)
        obtain ⟨u3, hu3'⟩ : ∃ u3, uvS o1.length = u3 := ⟨_, rfl⟩
        rw [hu3'] at hu3 U3
        have HR := Lib.hid (show F = (s ++ t, o1) by rw [HE.out, HEQ.out.1])
        have HU3 := Lib.hid hu3'; clear hu3' HE
        obtain ⟨s2, hs2⟩ : ∃ s2, s ++ t = s2 := ⟨_, rfl⟩
        have hs2s : s2.size ≤ 140 * i + 110 := by rw [← hs2, ByteArray.size_append]; exact js2 hss H1.out.2.2 hpm
        simp only [hs2] at HR
        have hx6 := jx hu3 hs2s (Nat.le_trans hi hlen)
        have hx3 : (9223372036854775807 < u3.size + 1) = False := jnl (Nat.le_trans (Nat.le_add_right _ _) hx6)
        have hx4 : (9223372036854775807 < (u3 ++ ⟨#[1]⟩).size + s2.size) = False := jnl (by rw [ByteArray.size_append]; exact hx6)
        have hx5 : (9223372036854775807 < u3.size + 1 + s2.size) = False := jnl hx6
        clear hx6
        have HS2 := Lib.hid hs2s; clear hs2s
        skip
        go_wp2
        refine start_ (n := 11) (S := fun w' => Byt w' w.heap.size (.slice A1 o1.length c1) o1) (ds := []) #[false, false, false, false, false, false, false, false, false, false, false] (by kernel_rfl) rfl rfl (HO.out) (fun hHeld => ?_)
        have HB := Lib.hid (below_drew HB.out)
        refine pure_ (i := 0) (N := some 93) (v := ?_) (a' := ?_) #[true, false, false, false, false, false, false, false, false, false, false] rfl rfl (by kernel_rfl) (fun _ _ _ h => h) (Or.inl ⟨by rfl, ?_⟩) ?_ ?_
        rotate_left
        · intro w'
          go_simp
          with_reducible rfl
        rotate_left
        · simp only [Act.put, List.setIfInBounds_toArray, List.set_cons_zero, List.set_cons_succ, i64_w, i32_w]
          rfl
        refine pure_ (i := 1) (N := some 94) (v := ?_) (a' := ?_) #[true, true, false, false, false, false, false, false, false, false, false] rfl rfl (by kernel_rfl) (fun _ _ _ h => h) (Or.inl ⟨by rfl, ?_⟩) ?_ ?_
        rotate_left
        · intro w'
          go_simp
          with_reducible rfl
        rotate_left
        · simp only [Act.put, List.setIfInBounds_toArray, List.set_cons_zero, List.set_cons_succ, i64_w, i32_w]
          rfl
        refine pure_ (i := 2) (N := some 95) (v := ?_) (a' := ?_) #[true, true, true, false, false, false, false, false, false, false, false] rfl rfl (by kernel_rfl) (fun _ _ _ h => h) (Or.inl ⟨by rfl, ?_⟩) ?_ ?_
        rotate_left
        · intro w'
          go_simp
          with_reducible rfl
        rotate_left
        · simp only [Act.put, List.setIfInBounds_toArray, List.set_cons_zero, List.set_cons_succ, i64_w, i32_w]
          rfl
        refine pure_ (i := 5) (N := some 98) (v := ?_) (a' := ?_) #[true, true, true, false, false, true, false, false, false, false, false] rfl rfl (by kernel_rfl) (fun _ _ _ h => h) (Or.inl ⟨by rfl, ?_⟩) ?_ ?_
        rotate_left
        · intro w'
          go_simp
          with_reducible rfl
        rotate_left
        · simp only [Act.put, List.setIfInBounds_toArray, List.set_cons_zero, List.set_cons_succ, i64_w, i32_w]
          rfl
        refine pure_ (i := 7) (N := some 100) (v := ?_) (a' := ?_) #[true, true, true, false, false, true, false, true, false, false, false] rfl rfl (by kernel_rfl) (fun _ _ _ h => h) (Or.inl ⟨by rfl, ?_⟩) ?_ ?_
        rotate_left
        · intro w'
          go_simp
          with_reducible rfl
        rotate_left
        · simp only [Act.put, List.setIfInBounds_toArray, List.set_cons_zero, List.set_cons_succ, i64_w, i32_w]
          rfl
        refine take_ (i := 8) (N := some 101) (v := ?_) (a' := ?_) #[true, true, true, false, false, true, false, true, true, false, false] rfl rfl (by kernel_rfl) (fun _ _ _ h => h) (Or.inl ⟨by rfl, ?_⟩) hHeld ?_ ?_
        rotate_left
        · intro w' s0
          refine run_conv 47 9 (.tmp 100) ?_ (.slice A1 o1.length c1) (.string ⟨o1.toArray⟩) ?_ s0.conv <;> rfl
        rotate_left
        · simp only [Act.put, List.setIfInBounds_toArray, List.set_cons_zero, List.set_cons_succ, i64_w, i32_w]
          rfl
        refine one_ (i := 3) (N := some 96) #[true, true, true, true, false, true, false, true, true, false, false] rfl rfl (by kernel_rfl) (by decide) (fun K hK => ?_)
        refine goes_ Try.func38 (by kernel_rfl) rfl #[.int .u64 (o1.length : Int)] (by rfl) rfl rfl (by (try simp only [List.map_toArray, List.map_cons, List.map_nil]); first | done | rfl) ?_
        with_reducible refine (U3.out _).mono ?_
        rintro e w6 ⟨rfl, hb⟩
        refine ⟨_, rfl, ?_⟩
        have HB := Lib.hid (HB.out.trans (hb.mono HB.out.size))
        refine hK.out _ _ (hHeld.below hb) (fun hHeld => ?_)
        clear hK K
        refine norm_ (a' := ?_) ?_ ?_
        rotate_left
        · show Act.put _ (some 96) _ = _
          simp only [Act.put, List.setIfInBounds_toArray, List.set_cons_zero, List.set_cons_succ, i64_w, i32_w]
          rfl
        refine pure_ (i := 4) (N := some 97) (v := ?_) (a' := ?_) #[true, true, true, true, true, true, false, true, true, false, false] rfl rfl (by kernel_rfl) (fun _ _ _ h => h) (Or.inl ⟨by rfl, ?_⟩) ?_ ?_
        rotate_left
        · intro w'
          go_simp
          with_reducible rfl
        rotate_left
        · simp only [Act.put, List.setIfInBounds_toArray, List.set_cons_zero, List.set_cons_succ, i64_w, i32_w]
          rfl
        refine pure_ (i := 6) (N := some 99) (v := ?_) (a' := ?_) #[true, true, true, true, true, true, true, true, true, false, false] rfl rfl (by kernel_rfl) (fun _ _ _ h => h) (Or.inl ⟨by rfl, ?_⟩) ?_ ?_
        rotate_left
        · intro w'
          go_simp
          with_reducible rfl
        rotate_left
        · simp only [Act.put, List.setIfInBounds_toArray, List.set_cons_zero, List.set_cons_succ, i64_w, i32_w]
          rfl
        refine pure_ (i := 9) (N := some 2) (v := ?_) (a' := ?_) #[true, true, true, true, true, true, true, true, true, true, false] rfl rfl (by kernel_rfl) (fun _ _ _ h => h) (Or.inl ⟨by rfl, ?_⟩) ?_ ?_
        rotate_left
        · intro w'
          go_simp
          with_reducible rfl
        rotate_left
        · simp only [Act.put, List.setIfInBounds_toArray, List.set_cons_zero, List.set_cons_succ, i64_w, i32_w]
          rfl
        refine pure_ (i := 10) (N := some 3) (v := ?_) (a' := ?_) #[true, true, true, true, true, true, true, true, true, true, true] rfl rfl (by kernel_rfl) (fun _ _ _ h => h) (Or.inl ⟨by rfl, ?_⟩) ?_ ?_
        rotate_left
        · intro w'
          go_simp
          with_reducible rfl
        rotate_left
        · simp only [Act.put, List.setIfInBounds_toArray, List.set_cons_zero, List.set_cons_succ, i64_w, i32_w]
          rfl
        refine done_ (by kernel_rfl) ?_

        go_wp2
        go_ret2
        exact ⟨by rw [HR.out, HU3.out]; rfl, by rw [HR.out]; show o1.length ≤ 5100; exact jo1 H1.out.1 hoo hpm, by rw [HR.out, HU3.out]; show (u3 ++ ⟨#[1]⟩ ++ s2).size ≤ 2000; rw [ByteArray.size_append, ByteArray.size_append]; exact jfin hu3 HS2.out (Nat.le_trans hi hlen), HB.out⟩
      have y0 := jy0.2 k0
      by_cases k1 : o1.length < d
      · skip
        have y1 := jy1.1 k1
        have HE := Lib.hid (HF.out.trans (HJ.out.trans (if_pos (.inl (.inr (.inl k1))))))
        have U3 := Lib.hid (fun w => ruint_any o1.length w (jlt H1.out.1 hoo hpm))
        have hu3 := uvS_le (n := o1.length) (jlt H1.out.1 hoo hpm)
        have e5 : IntKind.u64.wrap (o1.length : Int) = (o1.length : Int) := wrap_u64_nat (jlt H1.out.1 hoo hpm)
        obtain ⟨u3, hu3'⟩ : ∃ u3, uvS o1.length = u3 := ⟨_, rfl⟩
        rw [hu3'] at hu3 U3
        have HR := Lib.hid (show F = (s ++ t, o1) by rw [HE.out, HEQ.out.1])
        have HU3 := Lib.hid hu3'; clear hu3' HE
        obtain ⟨s2, hs2⟩ : ∃ s2, s ++ t = s2 := ⟨_, rfl⟩
        have hs2s : s2.size ≤ 140 * i + 110 := by rw [← hs2, ByteArray.size_append]; exact js2 hss H1.out.2.2 hpm
        simp only [hs2] at HR
        have hx6 := jx hu3 hs2s (Nat.le_trans hi hlen)
        have hx3 : (9223372036854775807 < u3.size + 1) = False := jnl (Nat.le_trans (Nat.le_add_right _ _) hx6)
        have hx4 : (9223372036854775807 < (u3 ++ ⟨#[1]⟩).size + s2.size) = False := jnl (by rw [ByteArray.size_append]; exact hx6)
        have hx5 : (9223372036854775807 < u3.size + 1 + s2.size) = False := jnl hx6
        clear hx6
        have HS2 := Lib.hid hs2s; clear hs2s
        skip
        go_wp2
        refine start_ (n := 11) (S := fun w' => Byt w' w.heap.size (.slice A1 o1.length c1) o1) (ds := []) #[false, false, false, false, false, false, false, false, false, false, false] (by kernel_rfl) rfl rfl (HO.out) (fun hHeld => ?_)
        have HB := Lib.hid (below_drew HB.out)
        refine pure_ (i := 0) (N := some 93) (v := ?_) (a' := ?_) #[true, false, false, false, false, false, false, false, false, false, false] rfl rfl (by kernel_rfl) (fun _ _ _ h => h) (Or.inl ⟨by rfl, ?_⟩) ?_ ?_
        rotate_left
        · intro w'
          go_simp
          with_reducible rfl
        rotate_left
        · simp only [Act.put, List.setIfInBounds_toArray, List.set_cons_zero, List.set_cons_succ, i64_w, i32_w]
          rfl
        refine pure_ (i := 1) (N := some 94) (v := ?_) (a' := ?_) #[true, true, false, false, false, false, false, false, false, false, false] rfl rfl (by kernel_rfl) (fun _ _ _ h => h) (Or.inl ⟨by rfl, ?_⟩) ?_ ?_
        rotate_left
        · intro w'
          go_simp
          with_reducible rfl
        rotate_left
        · simp only [Act.put, List.setIfInBounds_toArray, List.set_cons_zero, List.set_cons_succ, i64_w, i32_w]
          rfl
        refine pure_ (i := 2) (N := some 95) (v := ?_) (a' := ?_) #[true, true, true, false, false, false, false, false, false, false, false] rfl rfl (by kernel_rfl) (fun _ _ _ h => h) (Or.inl ⟨by rfl, ?_⟩) ?_ ?_
        rotate_left
        · intro w'
          go_simp
          with_reducible rfl
        rotate_left
        · simp only [Act.put, List.setIfInBounds_toArray, List.set_cons_zero, List.set_cons_succ, i64_w, i32_w]
          rfl
        refine pure_ (i := 5) (N := some 98) (v := ?_) (a' := ?_) #[true, true, true, false, false, true, false, false, false, false, false] rfl rfl (by kernel_rfl) (fun _ _ _ h => h) (Or.inl ⟨by rfl, ?_⟩) ?_ ?_
        rotate_left
        · intro w'
          go_simp
          with_reducible rfl
        rotate_left
        · simp only [Act.put, List.setIfInBounds_toArray, List.set_cons_zero, List.set_cons_succ, i64_w, i32_w]
          rfl
        refine pure_ (i := 7) (N := some 100) (v := ?_) (a' := ?_) #[true, true, true, false, false, true, false, true, false, false, false] rfl rfl (by kernel_rfl) (fun _ _ _ h => h) (Or.inl ⟨by rfl, ?_⟩) ?_ ?_
        rotate_left
        · intro w'
          go_simp
          with_reducible rfl
        rotate_left
        · simp only [Act.put, List.setIfInBounds_toArray, List.set_cons_zero, List.set_cons_succ, i64_w, i32_w]
          rfl
        refine take_ (i := 8) (N := some 101) (v := ?_) (a' := ?_) #[true, true, true, false, false, true, false, true, true, false, false] rfl rfl (by kernel_rfl) (fun _ _ _ h => h) (Or.inl ⟨by rfl, ?_⟩) hHeld ?_ ?_
        rotate_left
        · intro w' s0
          refine run_conv 47 9 (.tmp 100) ?_ (.slice A1 o1.length c1) (.string ⟨o1.toArray⟩) ?_ s0.conv <;> rfl
        rotate_left
        · simp only [Act.put, List.setIfInBounds_toArray, List.set_cons_zero, List.set_cons_succ, i64_w, i32_w]
          rfl
        refine one_ (i := 3) (N := some 96) #[true, true, true, true, false, true, false, true, true, false, false] rfl rfl (by kernel_rfl) (by decide) (fun K hK => ?_)
        refine goes_ Try.func38 (by kernel_rfl) rfl #[.int .u64 (o1.length : Int)] (by rfl) rfl rfl (by (try simp only [List.map_toArray, List.map_cons, List.map_nil]); first | done | rfl) ?_
        with_reducible refine (U3.out _).mono ?_
        rintro e w6 ⟨rfl, hb⟩
        refine ⟨_, rfl, ?_⟩
        have HB := Lib.hid (HB.out.trans (hb.mono HB.out.size))
        refine hK.out _ _ (hHeld.below hb) (fun hHeld => ?_)
        clear hK K
        refine norm_ (a' := ?_) ?_ ?_
        rotate_left
        · show Act.put _ (some 96) _ = _
          simp only [Act.put, List.setIfInBounds_toArray, List.set_cons_zero, List.set_cons_succ, i64_w, i32_w]
          rfl
        refine pure_ (i := 4) (N := some 97) (v := ?_) (a' := ?_) #[true, true, true, true, true, true, false, true, true, false, false] rfl rfl (by kernel_rfl) (fun _ _ _ h => h) (Or.inl ⟨by rfl, ?_⟩) ?_ ?_
        rotate_left
        · intro w'
          go_simp
          with_reducible rfl
        rotate_left
        · simp only [Act.put, List.setIfInBounds_toArray, List.set_cons_zero, List.set_cons_succ, i64_w, i32_w]
          rfl
        refine pure_ (i := 6) (N := some 99) (v := ?_) (a' := ?_) #[true, true, true, true, true, true, true, true, true, false, false] rfl rfl (by kernel_rfl) (fun _ _ _ h => h) (Or.inl ⟨by rfl, ?_⟩) ?_ ?_
        rotate_left
        · intro w'
          go_simp
          with_reducible rfl
        rotate_left
        · simp only [Act.put, List.setIfInBounds_toArray, List.set_cons_zero, List.set_cons_succ, i64_w, i32_w]
          rfl
        refine pure_ (i := 9) (N := some 2) (v := ?_) (a' := ?_) #[true, true, true, true, true, true, true, true, true, true, false] rfl rfl (by kernel_rfl) (fun _ _ _ h => h) (Or.inl ⟨by rfl, ?_⟩) ?_ ?_
        rotate_left
        · intro w'
          go_simp
          with_reducible rfl
        rotate_left
        · simp only [Act.put, List.setIfInBounds_toArray, List.set_cons_zero, List.set_cons_succ, i64_w, i32_w]
          rfl
        refine pure_ (i := 10) (N := some 3) (v := ?_) (a' := ?_) #[true, true, true, true, true, true, true, true, true, true, true] rfl rfl (by kernel_rfl) (fun _ _ _ h => h) (Or.inl ⟨by rfl, ?_⟩) ?_ ?_
        rotate_left
        · intro w'
          go_simp
          with_reducible rfl
        rotate_left
        · simp only [Act.put, List.setIfInBounds_toArray, List.set_cons_zero, List.set_cons_succ, i64_w, i32_w]
          rfl
        refine done_ (by kernel_rfl) ?_

        go_wp2
        go_ret2
        exact ⟨by rw [HR.out, HU3.out]; rfl, by rw [HR.out]; show o1.length ≤ 5100; exact jo1 H1.out.1 hoo hpm, by rw [HR.out, HU3.out]; show (u3 ++ ⟨#[1]⟩ ++ s2).size ≤ 2000; rw [ByteArray.size_append, ByteArray.size_append]; exact jfin hu3 HS2.out (Nat.le_trans hi hlen), HB.out⟩
      have y1 := jy1.2 k1
      by_cases k2 : n < 4
      · skip
        have y2 := jy2.1 k2
        have HE := Lib.hid (HF.out.trans (HJ.out.trans (if_pos (.inl (.inr (.inr (.inl k2)))))))
        have U3 := Lib.hid (fun w => ruint_any o1.length w (jlt H1.out.1 hoo hpm))
        have hu3 := uvS_le (n := o1.length) (jlt H1.out.1 hoo hpm)
        have e5 : IntKind.u64.wrap (o1.length : Int) = (o1.length : Int) := wrap_u64_nat (jlt H1.out.1 hoo hpm)
        obtain ⟨u3, hu3'⟩ : ∃ u3, uvS o1.length = u3 := ⟨_, rfl⟩
        rw [hu3'] at hu3 U3
        have HR := Lib.hid (show F = (s ++ t, o1) by rw [HE.out, HEQ.out.1])
        have HU3 := Lib.hid hu3'; clear hu3' HE
        obtain ⟨s2, hs2⟩ : ∃ s2, s ++ t = s2 := ⟨_, rfl⟩
        have hs2s : s2.size ≤ 140 * i + 110 := by rw [← hs2, ByteArray.size_append]; exact js2 hss H1.out.2.2 hpm
        simp only [hs2] at HR
        have hx6 := jx hu3 hs2s (Nat.le_trans hi hlen)
        have hx3 : (9223372036854775807 < u3.size + 1) = False := jnl (Nat.le_trans (Nat.le_add_right _ _) hx6)
        have hx4 : (9223372036854775807 < (u3 ++ ⟨#[1]⟩).size + s2.size) = False := jnl (by rw [ByteArray.size_append]; exact hx6)
        have hx5 : (9223372036854775807 < u3.size + 1 + s2.size) = False := jnl hx6
        clear hx6
        have HS2 := Lib.hid hs2s; clear hs2s
        skip
        go_wp2
        refine start_ (n := 11) (S := fun w' => Byt w' w.heap.size (.slice A1 o1.length c1) o1) (ds := []) #[false, false, false, false, false, false, false, false, false, false, false] (by kernel_rfl) rfl rfl (HO.out) (fun hHeld => ?_)
        have HB := Lib.hid (below_drew HB.out)
        refine pure_ (i := 0) (N := some 93) (v := ?_) (a' := ?_) #[true, false, false, false, false, false, false, false, false, false, false] rfl rfl (by kernel_rfl) (fun _ _ _ h => h) (Or.inl ⟨by rfl, ?_⟩) ?_ ?_
        rotate_left
        · intro w'
          go_simp
          with_reducible rfl
        rotate_left
        · simp only [Act.put, List.setIfInBounds_toArray, List.set_cons_zero, List.set_cons_succ, i64_w, i32_w]
          rfl
        refine pure_ (i := 1) (N := some 94) (v := ?_) (a' := ?_) #[true, true, false, false, false, false, false, false, false, false, false] rfl rfl (by kernel_rfl) (fun _ _ _ h => h) (Or.inl ⟨by rfl, ?_⟩) ?_ ?_
        rotate_left
        · intro w'
          go_simp
          with_reducible rfl
        rotate_left
        · simp only [Act.put, List.setIfInBounds_toArray, List.set_cons_zero, List.set_cons_succ, i64_w, i32_w]
          rfl
        refine pure_ (i := 2) (N := some 95) (v := ?_) (a' := ?_) #[true, true, true, false, false, false, false, false, false, false, false] rfl rfl (by kernel_rfl) (fun _ _ _ h => h) (Or.inl ⟨by rfl, ?_⟩) ?_ ?_
        rotate_left
        · intro w'
          go_simp
          with_reducible rfl
        rotate_left
        · simp only [Act.put, List.setIfInBounds_toArray, List.set_cons_zero, List.set_cons_succ, i64_w, i32_w]
          rfl
        refine pure_ (i := 5) (N := some 98) (v := ?_) (a' := ?_) #[true, true, true, false, false, true, false, false, false, false, false] rfl rfl (by kernel_rfl) (fun _ _ _ h => h) (Or.inl ⟨by rfl, ?_⟩) ?_ ?_
        rotate_left
        · intro w'
          go_simp
          with_reducible rfl
        rotate_left
        · simp only [Act.put, List.setIfInBounds_toArray, List.set_cons_zero, List.set_cons_succ, i64_w, i32_w]
          rfl
        refine pure_ (i := 7) (N := some 100) (v := ?_) (a' := ?_) #[true, true, true, false, false, true, false, true, false, false, false] rfl rfl (by kernel_rfl) (fun _ _ _ h => h) (Or.inl ⟨by rfl, ?_⟩) ?_ ?_
        rotate_left
        · intro w'
          go_simp
          with_reducible rfl
        rotate_left
        · simp only [Act.put, List.setIfInBounds_toArray, List.set_cons_zero, List.set_cons_succ, i64_w, i32_w]
          rfl
        refine take_ (i := 8) (N := some 101) (v := ?_) (a' := ?_) #[true, true, true, false, false, true, false, true, true, false, false] rfl rfl (by kernel_rfl) (fun _ _ _ h => h) (Or.inl ⟨by rfl, ?_⟩) hHeld ?_ ?_
        rotate_left
        · intro w' s0
          refine run_conv 47 9 (.tmp 100) ?_ (.slice A1 o1.length c1) (.string ⟨o1.toArray⟩) ?_ s0.conv <;> rfl
        rotate_left
        · simp only [Act.put, List.setIfInBounds_toArray, List.set_cons_zero, List.set_cons_succ, i64_w, i32_w]
          rfl
        refine one_ (i := 3) (N := some 96) #[true, true, true, true, false, true, false, true, true, false, false] rfl rfl (by kernel_rfl) (by decide) (fun K hK => ?_)
        refine goes_ Try.func38 (by kernel_rfl) rfl #[.int .u64 (o1.length : Int)] (by rfl) rfl rfl (by (try simp only [List.map_toArray, List.map_cons, List.map_nil]); first | done | rfl) ?_
        with_reducible refine (U3.out _).mono ?_
        rintro e w6 ⟨rfl, hb⟩
        refine ⟨_, rfl, ?_⟩
        have HB := Lib.hid (HB.out.trans (hb.mono HB.out.size))
        refine hK.out _ _ (hHeld.below hb) (fun hHeld => ?_)
        clear hK K
        refine norm_ (a' := ?_) ?_ ?_
        rotate_left
        · show Act.put _ (some 96) _ = _
          simp only [Act.put, List.setIfInBounds_toArray, List.set_cons_zero, List.set_cons_succ, i64_w, i32_w]
          rfl
        refine pure_ (i := 4) (N := some 97) (v := ?_) (a' := ?_) #[true, true, true, true, true, true, false, true, true, false, false] rfl rfl (by kernel_rfl) (fun _ _ _ h => h) (Or.inl ⟨by rfl, ?_⟩) ?_ ?_
        rotate_left
        · intro w'
          go_simp
          with_reducible rfl
        rotate_left
        · simp only [Act.put, List.setIfInBounds_toArray, List.set_cons_zero, List.set_cons_succ, i64_w, i32_w]
          rfl
        refine pure_ (i := 6) (N := some 99) (v := ?_) (a' := ?_) #[true, true, true, true, true, true, true, true, true, false, false] rfl rfl (by kernel_rfl) (fun _ _ _ h => h) (Or.inl ⟨by rfl, ?_⟩) ?_ ?_
        rotate_left
        · intro w'
          go_simp
          with_reducible rfl
        rotate_left
        · simp only [Act.put, List.setIfInBounds_toArray, List.set_cons_zero, List.set_cons_succ, i64_w, i32_w]
          rfl
        refine pure_ (i := 9) (N := some 2) (v := ?_) (a' := ?_) #[true, true, true, true, true, true, true, true, true, true, false] rfl rfl (by kernel_rfl) (fun _ _ _ h => h) (Or.inl ⟨by rfl, ?_⟩) ?_ ?_
        rotate_left
        · intro w'
          go_simp
          with_reducible rfl
        rotate_left
        · simp only [Act.put, List.setIfInBounds_toArray, List.set_cons_zero, List.set_cons_succ, i64_w, i32_w]
          rfl
        refine pure_ (i := 10) (N := some 3) (v := ?_) (a' := ?_) #[true, true, true, true, true, true, true, true, true, true, true] rfl rfl (by kernel_rfl) (fun _ _ _ h => h) (Or.inl ⟨by rfl, ?_⟩) ?_ ?_
        rotate_left
        · intro w'
          go_simp
          with_reducible rfl
        rotate_left
        · simp only [Act.put, List.setIfInBounds_toArray, List.set_cons_zero, List.set_cons_succ, i64_w, i32_w]
          rfl
        refine done_ (by kernel_rfl) ?_

        go_wp2
        go_ret2
        exact ⟨by rw [HR.out, HU3.out]; rfl, by rw [HR.out]; show o1.length ≤ 5100; exact jo1 H1.out.1 hoo hpm, by rw [HR.out, HU3.out]; show (u3 ++ ⟨#[1]⟩ ++ s2).size ≤ 2000; rw [ByteArray.size_append, ByteArray.size_append]; exact jfin hu3 HS2.out (Nat.le_trans hi hlen), HB.out⟩
      have y2 := jy2.2 k2
      by_cases k3 : 5000 < o1.length + n
      · skip
        have y3 := jy3.1 k3
        have HE := Lib.hid (HF.out.trans (HJ.out.trans (if_pos (.inl (.inr (.inr (.inr k3)))))))
        have U3 := Lib.hid (fun w => ruint_any o1.length w (jlt H1.out.1 hoo hpm))
        have hu3 := uvS_le (n := o1.length) (jlt H1.out.1 hoo hpm)
        have e5 : IntKind.u64.wrap (o1.length : Int) = (o1.length : Int) := wrap_u64_nat (jlt H1.out.1 hoo hpm)
        obtain ⟨u3, hu3'⟩ : ∃ u3, uvS o1.length = u3 := ⟨_, rfl⟩
        rw [hu3'] at hu3 U3
        have HR := Lib.hid (show F = (s ++ t, o1) by rw [HE.out, HEQ.out.1])
        have HU3 := Lib.hid hu3'; clear hu3' HE
        obtain ⟨s2, hs2⟩ : ∃ s2, s ++ t = s2 := ⟨_, rfl⟩
        have hs2s : s2.size ≤ 140 * i + 110 := by rw [← hs2, ByteArray.size_append]; exact js2 hss H1.out.2.2 hpm
        simp only [hs2] at HR
        have hx6 := jx hu3 hs2s (Nat.le_trans hi hlen)
        have hx3 : (9223372036854775807 < u3.size + 1) = False := jnl (Nat.le_trans (Nat.le_add_right _ _) hx6)
        have hx4 : (9223372036854775807 < (u3 ++ ⟨#[1]⟩).size + s2.size) = False := jnl (by rw [ByteArray.size_append]; exact hx6)
        have hx5 : (9223372036854775807 < u3.size + 1 + s2.size) = False := jnl hx6
        clear hx6
        have HS2 := Lib.hid hs2s; clear hs2s
        skip
        go_wp2
        refine start_ (n := 11) (S := fun w' => Byt w' w.heap.size (.slice A1 o1.length c1) o1) (ds := []) #[false, false, false, false, false, false, false, false, false, false, false] (by kernel_rfl) rfl rfl (HO.out) (fun hHeld => ?_)
        have HB := Lib.hid (below_drew HB.out)
        refine pure_ (i := 0) (N := some 93) (v := ?_) (a' := ?_) #[true, false, false, false, false, false, false, false, false, false, false] rfl rfl (by kernel_rfl) (fun _ _ _ h => h) (Or.inl ⟨by rfl, ?_⟩) ?_ ?_
        rotate_left
        · intro w'
          go_simp
          with_reducible rfl
        rotate_left
        · simp only [Act.put, List.setIfInBounds_toArray, List.set_cons_zero, List.set_cons_succ, i64_w, i32_w]
          rfl
        refine pure_ (i := 1) (N := some 94) (v := ?_) (a' := ?_) #[true, true, false, false, false, false, false, false, false, false, false] rfl rfl (by kernel_rfl) (fun _ _ _ h => h) (Or.inl ⟨by rfl, ?_⟩) ?_ ?_
        rotate_left
        · intro w'
          go_simp
          with_reducible rfl
        rotate_left
        · simp only [Act.put, List.setIfInBounds_toArray, List.set_cons_zero, List.set_cons_succ, i64_w, i32_w]
          rfl
        refine pure_ (i := 2) (N := some 95) (v := ?_) (a' := ?_) #[true, true, true, false, false, false, false, false, false, false, false] rfl rfl (by kernel_rfl) (fun _ _ _ h => h) (Or.inl ⟨by rfl, ?_⟩) ?_ ?_
        rotate_left
        · intro w'
          go_simp
          with_reducible rfl
        rotate_left
        · simp only [Act.put, List.setIfInBounds_toArray, List.set_cons_zero, List.set_cons_succ, i64_w, i32_w]
          rfl
        refine pure_ (i := 5) (N := some 98) (v := ?_) (a' := ?_) #[true, true, true, false, false, true, false, false, false, false, false] rfl rfl (by kernel_rfl) (fun _ _ _ h => h) (Or.inl ⟨by rfl, ?_⟩) ?_ ?_
        rotate_left
        · intro w'
          go_simp
          with_reducible rfl
        rotate_left
        · simp only [Act.put, List.setIfInBounds_toArray, List.set_cons_zero, List.set_cons_succ, i64_w, i32_w]
          rfl
        refine pure_ (i := 7) (N := some 100) (v := ?_) (a' := ?_) #[true, true, true, false, false, true, false, true, false, false, false] rfl rfl (by kernel_rfl) (fun _ _ _ h => h) (Or.inl ⟨by rfl, ?_⟩) ?_ ?_
        rotate_left
        · intro w'
          go_simp
          with_reducible rfl
        rotate_left
        · simp only [Act.put, List.setIfInBounds_toArray, List.set_cons_zero, List.set_cons_succ, i64_w, i32_w]
          rfl
        refine take_ (i := 8) (N := some 101) (v := ?_) (a' := ?_) #[true, true, true, false, false, true, false, true, true, false, false] rfl rfl (by kernel_rfl) (fun _ _ _ h => h) (Or.inl ⟨by rfl, ?_⟩) hHeld ?_ ?_
        rotate_left
        · intro w' s0
          refine run_conv 47 9 (.tmp 100) ?_ (.slice A1 o1.length c1) (.string ⟨o1.toArray⟩) ?_ s0.conv <;> rfl
        rotate_left
        · simp only [Act.put, List.setIfInBounds_toArray, List.set_cons_zero, List.set_cons_succ, i64_w, i32_w]
          rfl
        refine one_ (i := 3) (N := some 96) #[true, true, true, true, false, true, false, true, true, false, false] rfl rfl (by kernel_rfl) (by decide) (fun K hK => ?_)
        refine goes_ Try.func38 (by kernel_rfl) rfl #[.int .u64 (o1.length : Int)] (by rfl) rfl rfl (by (try simp only [List.map_toArray, List.map_cons, List.map_nil]); first | done | rfl) ?_
        with_reducible refine (U3.out _).mono ?_
        rintro e w6 ⟨rfl, hb⟩
        refine ⟨_, rfl, ?_⟩
        have HB := Lib.hid (HB.out.trans (hb.mono HB.out.size))
        refine hK.out _ _ (hHeld.below hb) (fun hHeld => ?_)
        clear hK K
        refine norm_ (a' := ?_) ?_ ?_
        rotate_left
        · show Act.put _ (some 96) _ = _
          simp only [Act.put, List.setIfInBounds_toArray, List.set_cons_zero, List.set_cons_succ, i64_w, i32_w]
          rfl
        refine pure_ (i := 4) (N := some 97) (v := ?_) (a' := ?_) #[true, true, true, true, true, true, false, true, true, false, false] rfl rfl (by kernel_rfl) (fun _ _ _ h => h) (Or.inl ⟨by rfl, ?_⟩) ?_ ?_
        rotate_left
        · intro w'
          go_simp
          with_reducible rfl
        rotate_left
        · simp only [Act.put, List.setIfInBounds_toArray, List.set_cons_zero, List.set_cons_succ, i64_w, i32_w]
          rfl
        refine pure_ (i := 6) (N := some 99) (v := ?_) (a' := ?_) #[true, true, true, true, true, true, true, true, true, false, false] rfl rfl (by kernel_rfl) (fun _ _ _ h => h) (Or.inl ⟨by rfl, ?_⟩) ?_ ?_
        rotate_left
        · intro w'
          go_simp
          with_reducible rfl
        rotate_left
        · simp only [Act.put, List.setIfInBounds_toArray, List.set_cons_zero, List.set_cons_succ, i64_w, i32_w]
          rfl
        refine pure_ (i := 9) (N := some 2) (v := ?_) (a' := ?_) #[true, true, true, true, true, true, true, true, true, true, false] rfl rfl (by kernel_rfl) (fun _ _ _ h => h) (Or.inl ⟨by rfl, ?_⟩) ?_ ?_
        rotate_left
        · intro w'
          go_simp
          with_reducible rfl
        rotate_left
        · simp only [Act.put, List.setIfInBounds_toArray, List.set_cons_zero, List.set_cons_succ, i64_w, i32_w]
          rfl
        refine pure_ (i := 10) (N := some 3) (v := ?_) (a' := ?_) #[true, true, true, true, true, true, true, true, true, true, true] rfl rfl (by kernel_rfl) (fun _ _ _ h => h) (Or.inl ⟨by rfl, ?_⟩) ?_ ?_
        rotate_left
        · intro w'
          go_simp
          with_reducible rfl
        rotate_left
        · simp only [Act.put, List.setIfInBounds_toArray, List.set_cons_zero, List.set_cons_succ, i64_w, i32_w]
          rfl
        refine done_ (by kernel_rfl) ?_

        go_wp2
        go_ret2
        exact ⟨by rw [HR.out, HU3.out]; rfl, by rw [HR.out]; show o1.length ≤ 5100; exact jo1 H1.out.1 hoo hpm, by rw [HR.out, HU3.out]; show (u3 ++ ⟨#[1]⟩ ++ s2).size ≤ 2000; rw [ByteArray.size_append, ByteArray.size_append]; exact jfin hu3 HS2.out (Nat.le_trans hi hlen), HB.out⟩
      have y3 := jy3.2 k3
      by_cases k4 : i = len - 1
      · skip
        have y4 := (jy4 hlt).1 k4
        have HE := Lib.hid (HF.out.trans (HJ.out.trans (if_pos (.inr k4))))
        have U3 := Lib.hid (fun w => ruint_any o1.length w (jlt H1.out.1 hoo hpm))
        have hu3 := uvS_le (n := o1.length) (jlt H1.out.1 hoo hpm)
        have e5 : IntKind.u64.wrap (o1.length : Int) = (o1.length : Int) := wrap_u64_nat (jlt H1.out.1 hoo hpm)
        obtain ⟨u3, hu3'⟩ : ∃ u3, uvS o1.length = u3 := ⟨_, rfl⟩
        rw [hu3'] at hu3 U3
        have HR := Lib.hid (show F = (s ++ t, o1) by rw [HE.out, HEQ.out.1])
        have HU3 := Lib.hid hu3'; clear hu3' HE
        obtain ⟨s2, hs2⟩ : ∃ s2, s ++ t = s2 := ⟨_, rfl⟩
        have hs2s : s2.size ≤ 140 * i + 110 := by rw [← hs2, ByteArray.size_append]; exact js2 hss H1.out.2.2 hpm
        simp only [hs2] at HR
        have hx6 := jx hu3 hs2s (Nat.le_trans hi hlen)
        have hx3 : (9223372036854775807 < u3.size + 1) = False := jnl (Nat.le_trans (Nat.le_add_right _ _) hx6)
        have hx4 : (9223372036854775807 < (u3 ++ ⟨#[1]⟩).size + s2.size) = False := jnl (by rw [ByteArray.size_append]; exact hx6)
        have hx5 : (9223372036854775807 < u3.size + 1 + s2.size) = False := jnl hx6
        clear hx6
        have HS2 := Lib.hid hs2s; clear hs2s
        skip
        go_wp2
        refine start_ (n := 11) (S := fun w' => Byt w' w.heap.size (.slice A1 o1.length c1) o1) (ds := []) #[false, false, false, false, false, false, false, false, false, false, false] (by kernel_rfl) rfl rfl (HO.out) (fun hHeld => ?_)
        have HB := Lib.hid (below_drew HB.out)
        refine pure_ (i := 0) (N := some 93) (v := ?_) (a' := ?_) #[true, false, false, false, false, false, false, false, false, false, false] rfl rfl (by kernel_rfl) (fun _ _ _ h => h) (Or.inl ⟨by rfl, ?_⟩) ?_ ?_
        rotate_left
        · intro w'
          go_simp
          with_reducible rfl
        rotate_left
        · simp only [Act.put, List.setIfInBounds_toArray, List.set_cons_zero, List.set_cons_succ, i64_w, i32_w]
          rfl
        refine pure_ (i := 1) (N := some 94) (v := ?_) (a' := ?_) #[true, true, false, false, false, false, false, false, false, false, false] rfl rfl (by kernel_rfl) (fun _ _ _ h => h) (Or.inl ⟨by rfl, ?_⟩) ?_ ?_
        rotate_left
        · intro w'
          go_simp
          with_reducible rfl
        rotate_left
        · simp only [Act.put, List.setIfInBounds_toArray, List.set_cons_zero, List.set_cons_succ, i64_w, i32_w]
          rfl
        refine pure_ (i := 2) (N := some 95) (v := ?_) (a' := ?_) #[true, true, true, false, false, false, false, false, false, false, false] rfl rfl (by kernel_rfl) (fun _ _ _ h => h) (Or.inl ⟨by rfl, ?_⟩) ?_ ?_
        rotate_left
        · intro w'
          go_simp
          with_reducible rfl
        rotate_left
        · simp only [Act.put, List.setIfInBounds_toArray, List.set_cons_zero, List.set_cons_succ, i64_w, i32_w]
          rfl
        refine pure_ (i := 5) (N := some 98) (v := ?_) (a' := ?_) #[true, true, true, false, false, true, false, false, false, false, false] rfl rfl (by kernel_rfl) (fun _ _ _ h => h) (Or.inl ⟨by rfl, ?_⟩) ?_ ?_
        rotate_left
        · intro w'
          go_simp
          with_reducible rfl
        rotate_left
        · simp only [Act.put, List.setIfInBounds_toArray, List.set_cons_zero, List.set_cons_succ, i64_w, i32_w]
          rfl
        refine pure_ (i := 7) (N := some 100) (v := ?_) (a' := ?_) #[true, true, true, false, false, true, false, true, false, false, false] rfl rfl (by kernel_rfl) (fun _ _ _ h => h) (Or.inl ⟨by rfl, ?_⟩) ?_ ?_
        rotate_left
        · intro w'
          go_simp
          with_reducible rfl
        rotate_left
        · simp only [Act.put, List.setIfInBounds_toArray, List.set_cons_zero, List.set_cons_succ, i64_w, i32_w]
          rfl
        refine take_ (i := 8) (N := some 101) (v := ?_) (a' := ?_) #[true, true, true, false, false, true, false, true, true, false, false] rfl rfl (by kernel_rfl) (fun _ _ _ h => h) (Or.inl ⟨by rfl, ?_⟩) hHeld ?_ ?_
        rotate_left
        · intro w' s0
          refine run_conv 47 9 (.tmp 100) ?_ (.slice A1 o1.length c1) (.string ⟨o1.toArray⟩) ?_ s0.conv <;> rfl
        rotate_left
        · simp only [Act.put, List.setIfInBounds_toArray, List.set_cons_zero, List.set_cons_succ, i64_w, i32_w]
          rfl
        refine one_ (i := 3) (N := some 96) #[true, true, true, true, false, true, false, true, true, false, false] rfl rfl (by kernel_rfl) (by decide) (fun K hK => ?_)
        refine goes_ Try.func38 (by kernel_rfl) rfl #[.int .u64 (o1.length : Int)] (by rfl) rfl rfl (by (try simp only [List.map_toArray, List.map_cons, List.map_nil]); first | done | rfl) ?_
        with_reducible refine (U3.out _).mono ?_
        rintro e w6 ⟨rfl, hb⟩
        refine ⟨_, rfl, ?_⟩
        have HB := Lib.hid (HB.out.trans (hb.mono HB.out.size))
        refine hK.out _ _ (hHeld.below hb) (fun hHeld => ?_)
        clear hK K
        refine norm_ (a' := ?_) ?_ ?_
        rotate_left
        · show Act.put _ (some 96) _ = _
          simp only [Act.put, List.setIfInBounds_toArray, List.set_cons_zero, List.set_cons_succ, i64_w, i32_w]
          rfl
        refine pure_ (i := 4) (N := some 97) (v := ?_) (a' := ?_) #[true, true, true, true, true, true, false, true, true, false, false] rfl rfl (by kernel_rfl) (fun _ _ _ h => h) (Or.inl ⟨by rfl, ?_⟩) ?_ ?_
        rotate_left
        · intro w'
          go_simp
          with_reducible rfl
        rotate_left
        · simp only [Act.put, List.setIfInBounds_toArray, List.set_cons_zero, List.set_cons_succ, i64_w, i32_w]
          rfl
        refine pure_ (i := 6) (N := some 99) (v := ?_) (a' := ?_) #[true, true, true, true, true, true, true, true, true, false, false] rfl rfl (by kernel_rfl) (fun _ _ _ h => h) (Or.inl ⟨by rfl, ?_⟩) ?_ ?_
        rotate_left
        · intro w'
          go_simp
          with_reducible rfl
        rotate_left
        · simp only [Act.put, List.setIfInBounds_toArray, List.set_cons_zero, List.set_cons_succ, i64_w, i32_w]
          rfl
        refine pure_ (i := 9) (N := some 2) (v := ?_) (a' := ?_) #[true, true, true, true, true, true, true, true, true, true, false] rfl rfl (by kernel_rfl) (fun _ _ _ h => h) (Or.inl ⟨by rfl, ?_⟩) ?_ ?_
        rotate_left
        · intro w'
          go_simp
          with_reducible rfl
        rotate_left
        · simp only [Act.put, List.setIfInBounds_toArray, List.set_cons_zero, List.set_cons_succ, i64_w, i32_w]
          rfl
        refine pure_ (i := 10) (N := some 3) (v := ?_) (a' := ?_) #[true, true, true, true, true, true, true, true, true, true, true] rfl rfl (by kernel_rfl) (fun _ _ _ h => h) (Or.inl ⟨by rfl, ?_⟩) ?_ ?_
        rotate_left
        · intro w'
          go_simp
          with_reducible rfl
        rotate_left
        · simp only [Act.put, List.setIfInBounds_toArray, List.set_cons_zero, List.set_cons_succ, i64_w, i32_w]
          rfl
        refine done_ (by kernel_rfl) ?_

        go_wp2
        go_ret2
        exact ⟨by rw [HR.out, HU3.out]; rfl, by rw [HR.out]; show o1.length ≤ 5100; exact jo1 H1.out.1 hoo hpm, by rw [HR.out, HU3.out]; show (u3 ++ ⟨#[1]⟩ ++ s2).size ≤ 2000; rw [ByteArray.size_append, ByteArray.size_append]; exact jfin hu3 HS2.out (Nat.le_trans hi hlen), HB.out⟩
      have y4 := (jy4 hlt).2 k4
      have HE := Lib.hid (HF.out.trans (HJ.out.trans (if_neg (by rintro ((h | h | h | h) | h); exact k0 h; exact k1 h; exact k2 h; exact k3 h; exact k4 h))))
      rw [HEQ.out.1, HEQ.out.2.1, HEQ.out.2.2] at HE
      have HC2 := Lib.hid (show 1 ≤ d ∧ d ≤ o1.length ∧ o1.length + n ≤ 5000 from ⟨Nat.not_lt.1 k0, Nat.not_lt.1 k1, Nat.not_lt.1 k3⟩)
      have hst2 : (s ++ t).size + (u1 ++ u2).size ≤ 140737488355328 := by rw [ByteArray.size_append, ByteArray.size_append]; exact jb hss ht hpm (Nat.le_trans hi hlen) (Nat.add_le_add hu1 hu2)
      have HSZ := Lib.hid (show (s ++ t ++ (u1 ++ u2)).size ≤ 140 * (i + 1) by rw [ByteArray.size_append, ByteArray.size_append, ByteArray.size_append]; exact jsz hss ht hpm (Nat.add_le_add hu1 hu2))
      have e6 : IntKind.u64.wrap (d : Int) = (d : Int) := wrap_u64_nat (Nat.lt_trans hpd.2.1 (by decide))
      have e7 : IntKind.u64.wrap (n : Int) = (n : Int) := wrap_u64_nat (Nat.lt_trans hpd.2.2 (by decide))
      have e8 : wrap64 ((i : Int) + 1) = ((i + 1 : Nat) : Int) := jw (Nat.le_trans hi (Nat.le_trans hlen (by decide)))
      obtain ⟨s3, hs3⟩ : ∃ s3, s ++ t = s3 := ⟨_, rfl⟩
      obtain ⟨u3, hu3⟩ : ∃ u3, u1 ++ u2 = u3 := ⟨_, rfl⟩
      rw [hs3, hu3] at HE HSZ hst2
      have HL := Lib.hid (And.intro hi (And.intro hss (And.intro hoo (And.intro hst (And.intro hs1 ht)))))
      clear k0 k2 k3 k4 hss hoo ht hu1 hu2
      go_wp2_with fail
      refine (U1.out _).mono ?_
      rintro e w5 ⟨rfl, hb⟩
      have HO := Lib.hid (HO.out.below hb)
      have HB := Lib.hid (HB.out.trans (hb.mono HB.out.size)); clear hb
      go_wp2_with fail
      refine (U2.out _).mono ?_
      rintro e w6 ⟨rfl, hb⟩
      have HO := Lib.hid (HO.out.below hb)
      have HB := Lib.hid (HB.out.trans (hb.mono HB.out.size)); clear hb
      go_wp2
      have hn5 : n ≤ 100000 := Nat.le_trans (Nat.le_of_lt hpd.2.2) (by decide)
      clear y0 y1 y2 y3 y4 e3 e4 e6 e7 k1 hst hs1 hst2 hpm hpd
      go_loopw [5, 9] (fun v5 v9 wr => ∃ (j : Nat), v9 = .int .i64 j ∧ j ≤ n ∧ Byt wr w.heap.size v5 (lzCopies o1 d j) ∧ Below w.heap.size w wr) (fun _ v9 _ => n - (intOf v9).toNat)
      case atStart => exact ⟨0, rfl, Nat.zero_le _, HO.out, HB.out⟩
      case round =>
        clear HO HB
        obtain ⟨j, rfl, hj, ho, hb⟩ := hrel
        have HO := Lib.hid ho; clear ho
        have HB := Lib.hid hb; clear hb
        by_cases hlt2 : j < n
        · have hl := lzCopies_length o1 d j
          have HS1 := Lib.hid (show lzCopies o1 d (j + 1) = lzCopies o1 d j ++ [(lzCopies o1 d j).getD ((lzCopies o1 d j).length - d) 0] from rfl)
          generalize lzCopies o1 d j = os at *
          have HOL := Lib.hid (And.intro (jol hl hlt2 HC2.out.2.2) (Nat.le_trans HC2.out.2.1 (hl ▸ Nat.le_add_right _ _)))
          obtain ⟨q, cap', x, p, rfl, hpx, hx, hp, hxl⟩ := copy_elem HO.out HC2.out.1 HOL.out.2
          rw [hx, hp] at HS1
          have hs' : wrap64 ((os.length : Int) - (d : Int)) = (x : Int) := copy_wrap2 HOL.out.2 HOL.out.1 (by decide) hx
          have HX := Lib.hid hx; clear hx hp
          have HL2 := Lib.hid hl; clear hl
          have hw2 : wrap64 ((j : Int) + 1) = ((j + 1 : Nat) : Int) := jw (Nat.le_trans (Nat.le_of_lt hlt2) hn5)
          go_wp2_with (at_builtin; refine app_byte (w0 := w) w.heap.size rfl (.tmp 83) (.tmp 91) _ os p rfl rfl rfl HO.out HB.out HB.out.size (copy_len HOL.out.1 (by decide)) ?_; intro v1 w5 HO1 HB1)
          go_roundw
          case rel => exact ⟨j + 1, by go_num, hlt2, by rw [HS1.out]; exact HO1.out, HB1.out⟩
          case measure => first | exact jme hlt2 hw2 | exact jme2 hlt2
        · obtain rfl : j = n := Nat.le_antisymm hj (Nat.not_lt.1 hlt2)
          have hll := lzCopies_length o1 d j
          generalize lzCopies o1 d j = os at *
          have HLL := Lib.hid hll; clear hll
          go_wp2
          go_roundw
          case rel => exact ⟨i + 1, s3 ++ u3, os, rfl, by go_num, hlt, HSZ.out, by rw [HLL.out]; exact HC2.out.2.2, HO.out, HB.out, HE.out⟩
          case measure => first | exact jme hlt e8 | exact jme2 hlt
    · obtain rfl : i = len := by omega
      have hpl : ps.length = i := HA.out.1
      have HE := Lib.hid (HF.out.trans (by rw [List.drop_eq_nil_of_le (Nat.le_of_eq hpl)]; rfl : _ = (s, o)))
      have U3 := Lib.hid (fun w => ruint_any o.length w (by omega))
      have hu3 := uvS_le (n := o.length) (by omega)
      have e5 : IntKind.u64.wrap (o.length : Int) = (o.length : Int) := wrap_u64_nat (by omega)
      obtain ⟨u3, hu3'⟩ : ∃ u3, uvS o.length = u3 := ⟨_, rfl⟩
      rw [hu3'] at hu3 U3
      have HU3 := Lib.hid hu3'; clear hu3' hpl
      have hx3 : (9223372036854775807 < u3.size + 1) = False := eq_false (by omega)
      have hx4 : (9223372036854775807 < (u3 ++ ⟨#[1]⟩).size + s.size) = False := eq_false (by rw [ByteArray.size_append]; simp only [show (⟨#[1]⟩ : ByteArray).size = 1 from rfl]; omega)
      have hx5 : (9223372036854775807 < u3.size + 1 + s.size) = False := eq_false (by omega)
      obtain ⟨A1, c1, rfl⟩ := HO.out.slice
      go_wp2
      refine start_ (n := 11) (S := fun w' => Byt w' w.heap.size (.slice A1 o.length c1) o) (ds := []) #[false, false, false, false, false, false, false, false, false, false, false] (by kernel_rfl) rfl rfl (HO.out) (fun hHeld => ?_)
      have HB := Lib.hid (below_drew HB.out)
      refine pure_ (i := 0) (N := some 93) (v := ?_) (a' := ?_) #[true, false, false, false, false, false, false, false, false, false, false] rfl rfl (by kernel_rfl) (fun _ _ _ h => h) (Or.inl ⟨by rfl, ?_⟩) ?_ ?_
      rotate_left
      · intro w'
        go_simp
        with_reducible rfl
      rotate_left
      · simp only [Act.put, List.setIfInBounds_toArray, List.set_cons_zero, List.set_cons_succ, i64_w, i32_w]
        rfl
      refine pure_ (i := 1) (N := some 94) (v := ?_) (a' := ?_) #[true, true, false, false, false, false, false, false, false, false, false] rfl rfl (by kernel_rfl) (fun _ _ _ h => h) (Or.inl ⟨by rfl, ?_⟩) ?_ ?_
      rotate_left
      · intro w'
        go_simp
        with_reducible rfl
      rotate_left
      · simp only [Act.put, List.setIfInBounds_toArray, List.set_cons_zero, List.set_cons_succ, i64_w, i32_w]
        rfl
      refine pure_ (i := 2) (N := some 95) (v := ?_) (a' := ?_) #[true, true, true, false, false, false, false, false, false, false, false] rfl rfl (by kernel_rfl) (fun _ _ _ h => h) (Or.inl ⟨by rfl, ?_⟩) ?_ ?_
      rotate_left
      · intro w'
        go_simp
        with_reducible rfl
      rotate_left
      · simp only [Act.put, List.setIfInBounds_toArray, List.set_cons_zero, List.set_cons_succ, i64_w, i32_w]
        rfl
      refine pure_ (i := 5) (N := some 98) (v := ?_) (a' := ?_) #[true, true, true, false, false, true, false, false, false, false, false] rfl rfl (by kernel_rfl) (fun _ _ _ h => h) (Or.inl ⟨by rfl, ?_⟩) ?_ ?_
      rotate_left
      · intro w'
        go_simp
        with_reducible rfl
      rotate_left
      · simp only [Act.put, List.setIfInBounds_toArray, List.set_cons_zero, List.set_cons_succ, i64_w, i32_w]
        rfl
      refine pure_ (i := 7) (N := some 100) (v := ?_) (a' := ?_) #[true, true, true, false, false, true, false, true, false, false, false] rfl rfl (by kernel_rfl) (fun _ _ _ h => h) (Or.inl ⟨by rfl, ?_⟩) ?_ ?_
      rotate_left
      · intro w'
        go_simp
        with_reducible rfl
      rotate_left
      · simp only [Act.put, List.setIfInBounds_toArray, List.set_cons_zero, List.set_cons_succ, i64_w, i32_w]
        rfl
      refine take_ (i := 8) (N := some 101) (v := ?_) (a' := ?_) #[true, true, true, false, false, true, false, true, true, false, false] rfl rfl (by kernel_rfl) (fun _ _ _ h => h) (Or.inl ⟨by rfl, ?_⟩) hHeld ?_ ?_
      rotate_left
      · intro w' s0
        refine run_conv 47 9 (.tmp 100) ?_ (.slice A1 o.length c1) (.string ⟨o.toArray⟩) ?_ s0.conv <;> rfl
      rotate_left
      · simp only [Act.put, List.setIfInBounds_toArray, List.set_cons_zero, List.set_cons_succ, i64_w, i32_w]
        rfl
      refine one_ (i := 3) (N := some 96) #[true, true, true, true, false, true, false, true, true, false, false] rfl rfl (by kernel_rfl) (by decide) (fun K hK => ?_)
      refine goes_ Try.func38 (by kernel_rfl) rfl #[.int .u64 (o.length : Int)] (by rfl) rfl rfl (by (try simp only [List.map_toArray, List.map_cons, List.map_nil]); first | done | rfl) ?_
      with_reducible refine (U3.out _).mono ?_
      rintro e w6 ⟨rfl, hb⟩
      refine ⟨_, rfl, ?_⟩
      have HB := Lib.hid (HB.out.trans (hb.mono HB.out.size))
      refine hK.out _ _ (hHeld.below hb) (fun hHeld => ?_)
      clear hK K
      refine norm_ (a' := ?_) ?_ ?_
      rotate_left
      · show Act.put _ (some 96) _ = _
        simp only [Act.put, List.setIfInBounds_toArray, List.set_cons_zero, List.set_cons_succ, i64_w, i32_w]
        rfl
      refine pure_ (i := 4) (N := some 97) (v := ?_) (a' := ?_) #[true, true, true, true, true, true, false, true, true, false, false] rfl rfl (by kernel_rfl) (fun _ _ _ h => h) (Or.inl ⟨by rfl, ?_⟩) ?_ ?_
      rotate_left
      · intro w'
        go_simp
        with_reducible rfl
      rotate_left
      · simp only [Act.put, List.setIfInBounds_toArray, List.set_cons_zero, List.set_cons_succ, i64_w, i32_w]
        rfl
      refine pure_ (i := 6) (N := some 99) (v := ?_) (a' := ?_) #[true, true, true, true, true, true, true, true, true, false, false] rfl rfl (by kernel_rfl) (fun _ _ _ h => h) (Or.inl ⟨by rfl, ?_⟩) ?_ ?_
      rotate_left
      · intro w'
        go_simp
        with_reducible rfl
      rotate_left
      · simp only [Act.put, List.setIfInBounds_toArray, List.set_cons_zero, List.set_cons_succ, i64_w, i32_w]
        rfl
      refine pure_ (i := 9) (N := some 2) (v := ?_) (a' := ?_) #[true, true, true, true, true, true, true, true, true, true, false] rfl rfl (by kernel_rfl) (fun _ _ _ h => h) (Or.inl ⟨by rfl, ?_⟩) ?_ ?_
      rotate_left
      · intro w'
        go_simp
        with_reducible rfl
      rotate_left
      · simp only [Act.put, List.setIfInBounds_toArray, List.set_cons_zero, List.set_cons_succ, i64_w, i32_w]
        rfl
      refine pure_ (i := 10) (N := some 3) (v := ?_) (a' := ?_) #[true, true, true, true, true, true, true, true, true, true, true] rfl rfl (by kernel_rfl) (fun _ _ _ h => h) (Or.inl ⟨by rfl, ?_⟩) ?_ ?_
      rotate_left
      · intro w'
        go_simp
        with_reducible rfl
      rotate_left
      · simp only [Act.put, List.setIfInBounds_toArray, List.set_cons_zero, List.set_cons_succ, i64_w, i32_w]
        rfl
      refine done_ (by kernel_rfl) ?_

      go_wp2
      go_ret2
      exact ⟨by rw [HE.out, HU3.out]; rfl, by rw [HE.out]; show o.length ≤ 5100; omega, by rw [HE.out, HU3.out]; show (u3 ++ ⟨#[1]⟩ ++ s).size ≤ 2000; rw [ByteArray.size_append, ByteArray.size_append]; simp only [show (⟨#[1]⟩ : ByteArray).size = 1 from rfl]; omega, HB.out⟩
end Go.Proofs.Ythooihkkghfhkaa.My
