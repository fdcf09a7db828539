/- isoglossref04.Unpack: what packed bytes mean. -/
import Derived.Test.YthooihkkghfhkaaLzSpec2
import Derived.Test.YthooihkkghfhkaaByt
import Derived.Test.YthooihkkghfhkaaLzUn2
namespace Go.Proofs.Ythooihkkghfhkaa.My
set_option linter.unusedSimpArgs false
set_option linter.unusedVariables false
open Go.RowKit Go.Proofs.YthooihkkghfhkaaW.PrintWords Go.Proofs.YthooihkkghfhkaaW.PrintLast Go.Proofs.Ythooihkkghfhkaa.Pm

theorem ref_none {s : ByteArray} {w : World} (h : (takeS s).2 = 0) : lzUn s = (⟨#[]⟩, 2) := lzUn_none s h
/-- Where the reference stands ahead of turn t. -/
def RefSt (n : Nat) (r : ByteArray) (o : List UInt8) (t : Nat) (L : Option (ByteArray × List UInt8)) : Prop :=
  if t % 2 = 1 then L = lzTail n r o else if t = 0 ∨ o.length < n then L = (lzPlain n r o).bind (fun p => lzTail n p.1 p.2) else L = some (r, o)
theorem RefSt.odd {n t : Nat} {r : ByteArray} {o : List UInt8} {L : Option (ByteArray × List UInt8)} (h : RefSt n r o t L) (ht : t % 2 = 1) : L = lzTail n r o := by unfold RefSt at h; rwa [if_pos ht] at h
theorem RefSt.even {n t : Nat} {r : ByteArray} {o : List UInt8} {L : Option (ByteArray × List UInt8)} (h : RefSt n r o t L) (ht : t % 2 ≠ 1) (h2 : t = 0 ∨ o.length < n) : L = (lzPlain n r o).bind (fun p => lzTail n p.1 p.2) := by unfold RefSt at h; rwa [if_neg ht, if_pos h2] at h
theorem RefSt.over {n t : Nat} {r : ByteArray} {o : List UInt8} {L : Option (ByteArray × List UInt8)} (h : RefSt n r o t L) (h2 : ¬ (t = 0 ∨ o.length < n)) : L = some (r, o) := by
  unfold RefSt at h
  split at h
  · rw [h, lzTail_end (by omega)]
  · exact h
/-- Behind a plain part. -/
theorem RefSt.plain {n t : Nat} {r r' : ByteArray} {o o' : List UInt8} {L : Option (ByteArray × List UInt8)} (h : RefSt n r o t L) (ht : t % 2 ≠ 1) (h2 : t = 0 ∨ o.length < n) (h3 : lzPlain n r o = some (r', o')) : RefSt n r' o' (t + 1) L := by
  have h := h.even ht h2
  unfold RefSt
  rw [if_pos (by omega), h, h3]
  rfl
theorem RefSt.plain_bad {n t : Nat} {r : ByteArray} {o : List UInt8} {L : Option (ByteArray × List UInt8)} (h : RefSt n r o t L) (ht : t % 2 ≠ 1) (h2 : t = 0 ∨ o.length < n) (h3 : lzPlain n r o = none) : L = none := by
  have h := h.even ht h2
  rw [h, h3]
  rfl
/-- Behind a copy. -/
theorem RefSt.copy {n t : Nat} {r r' : ByteArray} {o o' : List UInt8} {L : Option (ByteArray × List UInt8)} (h : RefSt n r o t L) (ht : t % 2 = 1) (h2 : o.length < n) (h3 : lzCopy n r o = some (r', o')) : RefSt n r' o' (t + 1) L := by
  have h := h.odd ht
  unfold RefSt
  rw [if_neg (by omega)]
  by_cases h4 : o'.length < n
  · rw [if_pos (.inr h4), h, lzTail_more h2 h3 h4]
  · rw [if_neg (by omega), h, lzTail_full h2 h3 h4]
theorem RefSt.copy_bad {n t : Nat} {r : ByteArray} {o : List UInt8} {L : Option (ByteArray × List UInt8)} (h : RefSt n r o t L) (ht : t % 2 = 1) (h2 : o.length < n) (h3 : lzCopy n r o = none) : L = none := by
  rw [h.odd ht, lzTail_bad h2 h3]
def lenOf : Value → Nat | .slice _ l _ => l | _ => 0
theorem Byt.len {w : World} {B : Nat} {v : Value} {o : List UInt8} (h : Byt w B v o) : lenOf v = o.length := by
  obtain ⟨A, c, rfl⟩ := h.slice
  rfl

theorem plain_meas {n t o v : Nat} (ht : t % 2 ≠ 1) (h : o + v ≤ n) : 2 * (n - (o + v)) + (1 - ((t : Int) + 1).toNat % 2) < 2 * (n - o) + (1 - (t : Int).toNat % 2) := by
  have e1 : ((t : Int) + 1).toNat = t + 1 := by omega
  have e2 : ((t : Int)).toNat = t := by omega
  rw [e1, e2]
  omega
theorem plain_meas1 {n t o v : Nat} (hq : wrap64 ((t : Int) + 1) = (t : Int) + 1) (ht : t % 2 ≠ 1) (h : o + v ≤ n) : 2 * (n - (o + v)) + (1 - (intOf (.int .i64 (wrap64 ((t : Int) + 1)))).toNat % 2) < 2 * (n - o) + (1 - (intOf (.int .i64 (t : Int))).toNat % 2) := by
  rw [hq]
  exact plain_meas ht h
theorem plain_meas0 {n t o v : Nat} (ht : t = 0) (h : o + v ≤ n) : 2 * (n - (o + v)) + (1 - (intOf (.int .i64 1)).toNat % 2) < 2 * (n - o) + (1 - (intOf (.int .i64 (t : Int))).toNat % 2) := by
  subst ht
  simp only [intOf]
  omega
theorem plain_t1 {t o v : Nat} (ht : t % 2 ≠ 1) (h : t ≤ o + 1 ∧ (t % 2 = 0 → t ≤ o)) : t + 1 ≤ o + v + 1 ∧ ((t + 1) % 2 = 0 → t + 1 ≤ o + v) := by omega
theorem copy_meas {n t o u : Nat} (ht : t % 2 = 1) (h : o + u ≤ n) (h4 : 4 ≤ u) : 2 * (n - (o + u)) + (1 - ((t : Int) + 1).toNat % 2) < 2 * (n - o) + (1 - (t : Int).toNat % 2) := by
  have e1 : ((t : Int) + 1).toNat = t + 1 := by omega
  have e2 : ((t : Int)).toNat = t := by omega
  rw [e1, e2]
  omega
theorem copy_meas1 {n t o u : Nat} (hq : wrap64 ((t : Int) + 1) = (t : Int) + 1) (ht : t % 2 = 1) (h : o + u ≤ n) (h4 : 4 ≤ u) : 2 * (n - (o + u)) + (1 - (intOf (.int .i64 (wrap64 ((t : Int) + 1)))).toNat % 2) < 2 * (n - o) + (1 - (intOf (.int .i64 (t : Int))).toNat % 2) := by
  rw [hq]
  exact copy_meas ht h h4
theorem copy_t1 {t o u : Nat} (h4 : 4 ≤ u) (h : t ≤ o + 1 ∧ (t % 2 = 0 → t ≤ o)) : t + 1 ≤ o + u + 1 ∧ ((t + 1) % 2 = 0 → t + 1 ≤ o + u) := by omega
theorem app_byte {ops : Array Oper} {rest : List Oper} {o : Oper} {a : Act} {Q : Exit → Act → World → Prop} {w0 W : World} (base : Nat) (hgd : o.guard = none) (s x : Operand) (v : Value) (xs : List UInt8) (p : UInt8)
    (ho : o.op = .call { callee := .builtin .append, args := #[s, x], argTypes := #[47, 47] }) (hs : a.eval s = v) (hx : a.eval x = .slice (some ⟨W.heap.size, 0, none⟩) 1 1)
    (HO : Byt W base v xs) (HB : Below base w0 W) (hbase : base ≤ W.heap.size) (hl : xs.length + 1 ≤ 140737488355328)
    (h : ∀ v1 w1, Hid (Byt w1 base v1 (xs ++ [p])) → Hid (Below base w0 w1) → wpList Try.prog ops Q rest (a.put o.dst v1) w1) :
    wpList Try.prog ops Q (o :: rest) a (W.alloc (.cells #[.int .u8 (p.toNat : Int)] 5)) := by
  refine app_u8 (w0 := w0) base hgd s x v (nb xs) (p.toNat : Int) ho hs hx (Kd.R_of_own (by rw [nb_length]; exact HO) (fun _ _ => trivial)) HB hbase (by rw [nb_length]; exact hl) ?_
  intro v1 w1 h1 h2
  refine h v1 w1 ?_ h2
  have := Kd.own_of_R h1.out
  rw [show nb xs ++ [(p.toNat : Int)] = nb (xs ++ [p]) by simp [nb], nb_length] at this
  exact this

set_option maxRecDepth 100000 in
set_option maxHeartbeats 8000000 in
theorem rlz_unpack (s : ByteArray) (w : World) (hs : s.size ≤ 140737488355328) :
    Calls Try.prog 20 #[.string s] w fun e w' => e = .returned (.tuple #[.string (lzUn s).1, .int .i64 (lzUn s).2]) ∧ Below w.heap.size w w' := by
  have T1 := Lib.hid (fun w => rtake_any s w hs)
  have F0 := lzUn_none s
  have F1 := lzUn_long s
  have F2 := lzUn_short s
  have F3 := lzUn_how s
  have hk1 := takeS_le s
  have hn1 := takeS_lt s
  generalize takeS s = T at *
  obtain ⟨n, k⟩ := T
  simp only at hk1 hn1
  have F0 := Lib.hid F0
  have F1 := Lib.hid (F1 n k rfl)
  have F2 := Lib.hid (F2 n k rfl)
  have F3 := Lib.hid (fun c => F3 n k c rfl)
  rename_i F0' F1' F2' F3'
  clear F0' F1' F2' F3'
  generalize lzUn s = Z at *
  have HB := Lib.hid (Below.refl w.heap.size w)
  go_enter Try.func20, Try.ntmps20
  go_wp2_with fail
  refine (T1.out _).mono ?_
  rintro e w1 ⟨rfl, rfl⟩
  by_cases hk0 : k = 0
  · subst hk0
    go_wp2
    go_ret2
    rw [F0.out trivial]
    exact ⟨rfl, HB.out⟩
  have hkp : 0 < k := by omega
  have x1 : decide (0 < (k : Int)) = true := by simp; omega
  have x2 : ((k : Int) == 0) = false := by simp; omega
  by_cases h6 : 60000 < n
  · have x3 : decide (60000 < (n : Int)) = true := by simp; omega
    have Z1 := Lib.hid (F1.out hk0 h6)
    clear hk0
    go_wp2
    go_ret2
    rw [Z1.out]
    exact ⟨rfl, HB.out⟩
  have x3 : decide (60000 < (n : Int)) = false := by simp; omega
  by_cases hks : k = s.size
  · have x4 : ((k : Int) == (s.size : Int)) = true := by simp; omega
    have Z1 := Lib.hid (F2.out hk0 h6 hks)
    clear hk0 hks
    go_wp2
    go_ret2
    rw [Z1.out]
    exact ⟨rfl, HB.out⟩
  have x4 : ((k : Int) == (s.size : Int)) = false := by simp; omega
  have hkl : k < s.size := by omega
  obtain ⟨c, hc⟩ : ∃ c, s[k] = c := ⟨_, rfl⟩
  have Z1 := Lib.hid (F3.out c hk0 h6 hkl hc)
  have hcc : ∀ h : k < s.size, s[k]'h = c := fun _ => hc
  clear hc
  have hk1 : wrap64 ((k : Int) + 1) = ((k + 1 : Nat) : Int) := wrap64_id (by omega) (by omega)
  have hks1 : k + 1 ≤ s.size := by omega
  have hwn : wrap64 (n : Int) = (n : Int) := wrap64_id (by omega) (by omega)
  clear F0 F1 F2 F3 hks hk0
  go_wp2
  go_quiet (fail)
  obtain ⟨r0, hr0⟩ : ∃ r0, s.extract (k + 1) s.size = r0 := ⟨_, rfl⟩
  rw [hr0] at Z1 ⊢
  have hr0s : r0.size ≤ s.size := by rw [← hr0, ByteArray.size_extract]; omega
  have HB := Lib.hid (pw_below_drewN HB.out nq)
  generalize w.drewN nq = w1 at *
  clear hr0 hcc
  by_cases c0 : c = 0
  · have x5 : ((c.toNat : Int) == 0) = true := by rw [c0]; rfl
    rw [if_pos c0] at Z1
    by_cases hrn : r0.size = n
    · rw [if_pos hrn] at Z1
      have x6 : ((r0.size : Int) == (n : Int)) = true := by simp; omega
      clear hrn c0
      go_wp2
      go_ret2
      rw [Z1.out]
      exact ⟨rfl, HB.out⟩
    · rw [if_neg hrn] at Z1
      have x6 : ((r0.size : Int) == (n : Int)) = false := by simp; omega
      have x7 : ((c.toNat : Int) != 1) = true := by rw [c0]; rfl
      clear hrn c0
      go_wp2
      go_ret2
      rw [Z1.out]
      exact ⟨rfl, HB.out⟩
  rw [if_neg c0] at Z1
  have x5 : ((c.toNat : Int) == 0) = false := by
    have : c.toNat ≠ 0 := fun e => c0 (UInt8.toNat.inj e)
    simp
    omega
  by_cases c1 : c = 1
  · have x7 : ((c.toNat : Int) != 1) = false := by rw [c1]; rfl
    rw [if_neg (by simp [c1])] at Z1
    clear c0 c1
    have HL0 := Lib.hid (show RefSt n r0 [] 0 (lzAll n r0) by unfold RefSt; rw [if_neg (by decide), if_pos (.inl rfl)]; rfl)
    generalize lzAll n r0 = L at *
    have hn6 : n ≤ 60000 := by omega
    go_wp2
    clear x1 x2 x3 x4 x5 x7 T1
    go_loopw [7, 8, 9] (fun v7 v8 v9 wr => ∃ (t : Nat) (r : ByteArray) (o : List UInt8), v7 = .string r ∧ v9 = .int .i64 t ∧ t ≤ o.length + 1 ∧ (t % 2 = 0 → t ≤ o.length) ∧ o.length ≤ n ∧ r.size ≤ 140737488355328 ∧ Byt wr w.heap.size v8 o ∧ Below w.heap.size w wr ∧ RefSt n r o t L) (fun _ v8 v9 _ => 2 * (n - lenOf v8) + (1 - (intOf v9).toNat % 2))
    case atStart => exact ⟨0, r0, [], rfl, rfl, by omega, by omega, Nat.zero_le _, by omega, Byt.none_ _ _, HB.out, HL0.out⟩
    case round =>
      clear HB HL0
      obtain ⟨t, r, o, rfl, rfl, ht1, ht2, hon, hrs, ho, hb, hst⟩ := hrel
      have HO := Lib.hid ho; clear ho
      have HB := Lib.hid hb; clear hb
      have HS := Lib.hid hst; clear hst
      have HT := Lib.hid (And.intro ht1 ht2); clear ht1 ht2
      obtain ⟨A, c8, rfl⟩ := HO.out.slice
      by_cases hov : t = 0 ∨ o.length < n
      · have T := Lib.hid (fun w => rtake_any r w hrs)
        have PB := lzPlain_bad n r o
        have PT := lzPlain_take n
        have CB := lzCopy_bad n r o
        have CT := lzCopy_take n
        have hm := takeS_le r
        have hv := takeS_lt r
        have hTP : ∀ v m, takeS r = (v, m) → m ≠ 0 → _ := fun v m => lzPlain_take n v m r o
        have hTC : ∀ v m, takeS r = (v, m) → m ≠ 0 → ∀ u k, takeS (r.extract m r.size) = (u, k) → _ := fun v m h h0 u k h2 => lzCopy_take n v m u k r o h h0 h2
        generalize takeS r = T1 at *
        obtain ⟨v, m⟩ := T1
        simp only at hm hv
        have PB := Lib.hid PB
        have CB := Lib.hid CB
        have PT := Lib.hid (hTP v m rfl)
        have CT := Lib.hid (hTC v m rfl)
        clear hTP hTC
        by_cases ht : t % 2 = 1
        · have x10 : ((t : Int) % 2 == 0) = false := by simp; omega
          have x11 : ((t : Int).tmod 2 == 0) = false := by rw [Int.tmod_eq_emod_of_nonneg (by omega)]; exact x10
          have x8 : ((t : Int) == 0) = false := by simp; omega
          have hlt : o.length < n := by omega
          have x9 : decide ((o.length : Int) < (n : Int)) = true := by simp; omega
          have q1 : IntKind.u64.wrap (o.length : Int) = (o.length : Int) := wrap_u64_nat (by omega)
          have q3 : IntKind.u64.wrap ((n : Int) - (o.length : Int)) = (n : Int) - (o.length : Int) := IntWalk.u64_in _ (by omega)
          have qt : wrap64 ((t : Int) + 1) = ((t + 1 : Nat) : Int) := wrap64_id (by have := HT.out; omega) (by have := HT.out; omega)
          have HQ := Lib.hid (show wrap64 ((t : Int) + 1) = (t : Int) + 1 from wrap64_id (by have := HT.out; omega) (by have := HT.out; omega))
          have HH := Lib.hid (And.intro ht hlt)
          by_cases hm0 : m = 0
          · have HE := Lib.hid (HS.out.copy_bad ht hlt (CB.out hm0))
            have x12 : ((m : Int) == 0) = true := by simp; omega
            clear hov ht hm0
            go_wp2_with fail
            refine (T.out _).mono ?_
            rintro e wq ⟨rfl, rfl⟩
            go_wp2
            go_ret2
            rw [Z1.out, HE.out]
            exact ⟨rfl, HB.out⟩
          have x12 : ((m : Int) == 0) = false := by simp; omega
          have CT1 := CT.out hm0
          obtain ⟨r1, hr1⟩ : ∃ r1, r.extract m r.size = r1 := ⟨_, rfl⟩
          have hr1s : r1.size ≤ r.size := by rw [← hr1, ByteArray.size_extract]; omega
          rw [hr1] at CT1
          have T2 := fun w => rtake_any r1 w (Nat.le_trans hr1s hrs)
          have hk2 := takeS_le r1
          obtain ⟨y, hy⟩ : ∃ y, takeS r1 = y := ⟨_, rfl⟩
          obtain ⟨u, k2⟩ := y
          rw [hy] at hk2
          simp only [hy] at T2 hk2
          have CT2 := CT1 u k2 hy
          have T2 := Lib.hid T2
          rename_i T2'
          clear T2' CT1 hy
          obtain ⟨r4, hr4⟩ : ∃ r4, r1.extract k2 r1.size = r4 := ⟨_, rfl⟩
          have hr4s : r4.size ≤ r1.size := by rw [← hr4, ByteArray.size_extract]; omega
          rw [hr4] at CT2
          have HR4 := Lib.hid (Nat.le_trans hr4s (Nat.le_trans hr1s hrs))
          have CT2 := Lib.hid CT2
          rename_i CT2'
          clear CT2' hr4s hr1s ht hov hm0
          by_cases c : k2 = 0
          · have z1 : ((k2 : Int) == 0) = true := by simp; omega
            have HE := Lib.hid (HS.out.copy_bad HH.out.1 HH.out.2 (CT2.out.trans (if_pos (.inl c))))
            skip
            go_wp2_with fail
            refine (T.out _).mono ?_
            rintro e wq ⟨rfl, rfl⟩
            go_wp2_with fail
            refine (T2.out _).mono ?_
            rintro e wq ⟨rfl, rfl⟩
            go_wp2
            go_ret2
            rw [Z1.out, HE.out]
            exact ⟨rfl, HB.out⟩
          have z1 : ((k2 : Int) == 0) = false := by simp; omega
          have c1 := c; clear c
          by_cases c : v < 1
          · have z2 : decide ((v : Int) < 1) = true := by simp; omega
            have HE := Lib.hid (HS.out.copy_bad HH.out.1 HH.out.2 (CT2.out.trans (if_pos (.inr (.inl c)))))
            skip
            go_wp2_with fail
            refine (T.out _).mono ?_
            rintro e wq ⟨rfl, rfl⟩
            go_wp2_with fail
            refine (T2.out _).mono ?_
            rintro e wq ⟨rfl, rfl⟩
            go_wp2
            go_ret2
            rw [Z1.out, HE.out]
            exact ⟨rfl, HB.out⟩
          have z2 : decide ((v : Int) < 1) = false := by simp; omega
          have c2 := c; clear c
          by_cases c : o.length < v
          · have z3 : decide ((o.length : Int) < (v : Int)) = true := by simp; omega
            have HE := Lib.hid (HS.out.copy_bad HH.out.1 HH.out.2 (CT2.out.trans (if_pos (.inr (.inr (.inl c))))))
            skip
            go_wp2_with fail
            refine (T.out _).mono ?_
            rintro e wq ⟨rfl, rfl⟩
            go_wp2_with fail
            refine (T2.out _).mono ?_
            rintro e wq ⟨rfl, rfl⟩
            go_wp2
            go_ret2
            rw [Z1.out, HE.out]
            exact ⟨rfl, HB.out⟩
          have z3 : decide ((o.length : Int) < (v : Int)) = false := by simp; omega
          have c3 := c; clear c
          by_cases c : u < 4
          · have z4 : decide ((u : Int) < 4) = true := by simp; omega
            have HE := Lib.hid (HS.out.copy_bad HH.out.1 HH.out.2 (CT2.out.trans (if_pos (.inr (.inr (.inr (.inl c)))))))
            skip
            go_wp2_with fail
            refine (T.out _).mono ?_
            rintro e wq ⟨rfl, rfl⟩
            go_wp2_with fail
            refine (T2.out _).mono ?_
            rintro e wq ⟨rfl, rfl⟩
            go_wp2
            go_ret2
            rw [Z1.out, HE.out]
            exact ⟨rfl, HB.out⟩
          have z4 : decide ((u : Int) < 4) = false := by simp; omega
          have c4 := c; clear c
          by_cases c : n < o.length + u
          · have z5 : decide ((n : Int) - (o.length : Int) < (u : Int)) = true := by simp; omega
            have HE := Lib.hid (HS.out.copy_bad HH.out.1 HH.out.2 (CT2.out.trans (if_pos (.inr (.inr (.inr (.inr c)))))))
            skip
            go_wp2_with fail
            refine (T.out _).mono ?_
            rintro e wq ⟨rfl, rfl⟩
            go_wp2_with fail
            refine (T2.out _).mono ?_
            rintro e wq ⟨rfl, rfl⟩
            go_wp2
            go_ret2
            rw [Z1.out, HE.out]
            exact ⟨rfl, HB.out⟩
          have z5 : decide ((n : Int) - (o.length : Int) < (u : Int)) = false := by simp; omega
          have c5 := c; clear c
          have HE := Lib.hid (HS.out.copy HH.out.1 HH.out.2 (CT2.out.trans (if_neg (by rintro (h | h | h | h | h); exact c1 h; exact c2 h; exact c3 h; exact c4 h; exact c5 h))))
          have hu6 : u ≤ 60000 := by omega
          have HC := Lib.hid (show 1 ≤ v ∧ v ≤ o.length ∧ 4 ≤ u ∧ o.length + u ≤ n by omega)
          obtain ⟨wo, rfl⟩ : ∃ wo : World, wo = wr := ⟨_, rfl⟩
          go_wp2_with fail
          refine (T.out _).mono ?_
          rintro e wq ⟨rfl, rfl⟩
          go_wp2_with fail
          refine (T2.out _).mono ?_
          rintro e wq ⟨rfl, rfl⟩
          go_wp2
          clear z1 z2 z3 z4 z5 c1 c2 c3 c4 c5 x8 x9 x10 x11 x12 q1 q3
          go_loopw [8, 14] (fun v8 v14 wr => ∃ (i : Nat), v14 = .int .u64 i ∧ i ≤ u ∧ Byt wr w.heap.size v8 (lzCopies o v i) ∧ Below w.heap.size w wr) (fun _ v14 _ => u - (intOf v14).toNat)
          case atStart => exact ⟨0, rfl, by omega, HO.out, HB.out⟩
          case round =>
            have HLEN := Lib.hid HO.out.len
            clear HO HB
            obtain ⟨i, rfl, hi, ho, hb⟩ := hrel
            have HO := Lib.hid ho; clear ho
            have HB := Lib.hid hb; clear hb
            by_cases hlt2 : i < u
            · have hl := lzCopies_length o v i
              have HS1 := Lib.hid (show lzCopies o v (i + 1) = lzCopies o v i ++ [(lzCopies o v i).getD ((lzCopies o v i).length - v) 0] from rfl)
              generalize lzCopies o v i = os at *
              have HOL := Lib.hid (And.intro (show os.length ≤ n by have := HC.out; omega) (show v ≤ os.length by have := HC.out; omega))
              obtain ⟨q, cap, x, p, rfl, hpx, hx, hp, hxl⟩ := copy_elem HO.out HC.out.1 HOL.out.2
              rw [hx, hp] at HS1
              have hd : wrap64 (v : Int) = (v : Int) := copy_wrap HOL.out.2 HOL.out.1 hn6
              have hs' : wrap64 ((os.length : Int) - (v : Int)) = (x : Int) := copy_wrap2 HOL.out.2 HOL.out.1 hn6 hx
              have HX := Lib.hid hx; clear hx hp
              have HL := Lib.hid hl; clear hl
              obtain ⟨i2, hi2, hw2, hi3⟩ := copy_next hlt2 hu6
              rw [hi2] at HS1
              have H2 := Lib.hid hi3; clear hi2 hi3
              go_wp2_with (at_builtin; refine app_byte (w0 := w) w.heap.size rfl (.tmp 138) (.tmp 147) _ os p rfl rfl rfl HO.out HB.out HB.out.size (copy_len HOL.out.1 hn6) ?_; intro v1 w5 HO1 HB1)
              go_roundw
              case rel => exact ⟨i2, by go_num, H2.out.1, by rw [HS1.out]; exact HO1.out, HB1.out⟩
              case measure => simpa [intOf] using H2.out.2
            · obtain rfl : i = u := by omega
              have hll := lzCopies_length o v i
              have HE' := HE
              generalize lzCopies o v i = os at *
              have HLL := Lib.hid hll; clear hll HE'
              obtain ⟨A3, c3, rfl⟩ := HO.out.slice
              go_wp2
              go_roundw
              case rel => exact ⟨t + 1, r4, os, rfl, by go_num, by rw [HLL.out]; exact (copy_t1 HC.out.2.2.1 HT.out).1, by rw [HLL.out]; exact (copy_t1 HC.out.2.2.1 HT.out).2, by rw [HLL.out]; exact HC.out.2.2.2, HR4.out, HO.out, HB.out, HE.out⟩
              case measure =>
                rw [HLEN.out, HO.out.len, HLL.out]
                exact copy_meas1 HQ.out HH.out.1 HC.out.2.2.2 HC.out.2.2.1
        · have x10 : ((t : Int) % 2 == 0) = true := by simp; omega
          have x11 : ((t : Int).tmod 2 == 0) = true := by rw [Int.tmod_eq_emod_of_nonneg (by omega)]; exact x10
          have q1 : IntKind.u64.wrap (o.length : Int) = (o.length : Int) := wrap_u64_nat (by omega)
          have q3 : IntKind.u64.wrap ((n : Int) - (o.length : Int)) = (n : Int) - (o.length : Int) := IntWalk.u64_in _ (by omega)
          have qt : wrap64 ((t : Int) + 1) = ((t + 1 : Nat) : Int) := wrap64_id (by have := HT.out; omega) (by have := HT.out; omega)
          have HQ := Lib.hid (show wrap64 ((t : Int) + 1) = (t : Int) + 1 from wrap64_id (by have := HT.out; omega) (by have := HT.out; omega))
          by_cases ht0 : t = 0
          · skip
            have x8 : ((t : Int) == 0) = true := by simp; omega
            by_cases hm0 : m = 0
            · have HE := Lib.hid (HS.out.plain_bad ht hov (PB.out hm0))
              have x12 : ((m : Int) == 0) = true := by simp; omega
              clear hov ht hm0
              go_wp2_with fail
              refine (T.out _).mono ?_
              rintro e wq ⟨rfl, rfl⟩
              go_wp2
              go_ret2
              rw [Z1.out, HE.out]
              exact ⟨rfl, HB.out⟩
            have x12 : ((m : Int) == 0) = false := by simp; omega
            have PT1 := PT.out hm0
            obtain ⟨r1, hr1⟩ : ∃ r1, r.extract m r.size = r1 := ⟨_, rfl⟩
            have hr1s : r1.size ≤ r.size := by rw [← hr1, ByteArray.size_extract]; omega
            rw [hr1] at PT1
            have q4 : IntKind.u64.wrap (r1.size : Int) = (r1.size : Int) := wrap_u64_nat (by omega)
            by_cases h1 : r1.size < v
            · have y1 : decide ((r1.size : Int) < (v : Int)) = true := by simp; omega
              have HE := Lib.hid (HS.out.plain_bad ht hov (PT1.trans (if_pos (.inl h1))))
              clear hov ht hm0 PT1 hr1s
              go_wp2_with fail
              refine (T.out _).mono ?_
              rintro e wq ⟨rfl, rfl⟩
              go_wp2
              go_ret2
              rw [Z1.out, HE.out]
              exact ⟨rfl, HB.out⟩
            have y1 : decide ((r1.size : Int) < (v : Int)) = false := by simp; omega
            by_cases h2 : n < o.length + v
            · have y2 : decide ((n : Int) - (o.length : Int) < (v : Int)) = true := by simp; omega
              have HE := Lib.hid (HS.out.plain_bad ht hov (PT1.trans (if_pos (.inr h2))))
              clear hov ht hm0 PT1 hr1s
              go_wp2_with fail
              refine (T.out _).mono ?_
              rintro e wq ⟨rfl, rfl⟩
              go_wp2
              go_ret2
              rw [Z1.out, HE.out]
              exact ⟨rfl, HB.out⟩
            have y2 : decide ((n : Int) - (o.length : Int) < (v : Int)) = false := by simp; omega
            have hvr : v ≤ r1.size := by omega
            obtain ⟨r2, hr2⟩ : ∃ r2, r1.extract 0 v = r2 := ⟨_, rfl⟩
            obtain ⟨r3, hr3⟩ : ∃ r3, r1.extract v r1.size = r3 := ⟨_, rfl⟩
            have hr2s : r2.size = v := by rw [← hr2, ByteArray.size_extract]; omega
            have hr3s : r3.size ≤ r1.size := by rw [← hr3, ByteArray.size_extract]; omega
            rw [hr2, hr3] at PT1
            have HE := Lib.hid (HS.out.plain ht hov (PT1.trans (if_neg (by omega))))
            have H2 := Lib.hid (And.intro hr2s (And.intro ht (And.intro (Nat.le_trans hr3s (Nat.le_trans hr1s hrs)) (show o.length + v ≤ n by omega))))
            have hap : o.length + r2.size ≤ 140737488355328 := by omega
            have hlb := bl_length r2
            rw [hr2s] at hlb
            have HLB := Lib.hid hlb
            clear hlb hov ht hm0 PT1 hr1s hr2s hr3s h1 h2
            go_wp2_with fail
            refine (T.out _).mono ?_
            rintro e wq ⟨rfl, rfl⟩
            go_wp2_with (at_builtin; refine app_str (w0 := w) w.heap.size rfl (.tmp 91) (.tmp 94) _ o r2 rfl rfl rfl HO.out HB.out HB.out.size hap ?_; intro v1 w3 HO1 HB1 HG1; obtain ⟨A1, m1, c1, rfl⟩ := HO1.out.slice_)
            go_roundw
            case rel => exact ⟨t + 1, r3, o ++ bl r2, rfl, by go_num, by rw [List.length_append, HLB.out]; exact (plain_t1 H2.out.2.1 HT.out).1, by rw [List.length_append, HLB.out]; exact (plain_t1 H2.out.2.1 HT.out).2, by rw [List.length_append, HLB.out]; exact H2.out.2.2.2, H2.out.2.2.1, HO1.out, HB1.out, HE.out⟩
            case measure =>
              rw [HO1.out.len, HO.out.len, List.length_append, show r2.data.toList.length = v from HLB.out]
              first
                | exact plain_meas0 ht0 H2.out.2.2.2
                | exact plain_meas1 HQ.out H2.out.2.1 H2.out.2.2.2
          · skip
            have hlt : o.length < n := by omega
            have x8 : ((t : Int) == 0) = false := by simp; omega
            have x9 : decide ((o.length : Int) < (n : Int)) = true := by simp; omega
            by_cases hm0 : m = 0
            · have HE := Lib.hid (HS.out.plain_bad ht hov (PB.out hm0))
              have x12 : ((m : Int) == 0) = true := by simp; omega
              clear hov ht hm0
              go_wp2_with fail
              refine (T.out _).mono ?_
              rintro e wq ⟨rfl, rfl⟩
              go_wp2
              go_ret2
              rw [Z1.out, HE.out]
              exact ⟨rfl, HB.out⟩
            have x12 : ((m : Int) == 0) = false := by simp; omega
            have PT1 := PT.out hm0
            obtain ⟨r1, hr1⟩ : ∃ r1, r.extract m r.size = r1 := ⟨_, rfl⟩
            have hr1s : r1.size ≤ r.size := by rw [← hr1, ByteArray.size_extract]; omega
            rw [hr1] at PT1
            have q4 : IntKind.u64.wrap (r1.size : Int) = (r1.size : Int) := wrap_u64_nat (by omega)
            by_cases h1 : r1.size < v
            · have y1 : decide ((r1.size : Int) < (v : Int)) = true := by simp; omega
              have HE := Lib.hid (HS.out.plain_bad ht hov (PT1.trans (if_pos (.inl h1))))
              clear hov ht hm0 PT1 hr1s
              go_wp2_with fail
              refine (T.out _).mono ?_
              rintro e wq ⟨rfl, rfl⟩
              go_wp2
              go_ret2
              rw [Z1.out, HE.out]
              exact ⟨rfl, HB.out⟩
            have y1 : decide ((r1.size : Int) < (v : Int)) = false := by simp; omega
            by_cases h2 : n < o.length + v
            · have y2 : decide ((n : Int) - (o.length : Int) < (v : Int)) = true := by simp; omega
              have HE := Lib.hid (HS.out.plain_bad ht hov (PT1.trans (if_pos (.inr h2))))
              clear hov ht hm0 PT1 hr1s
              go_wp2_with fail
              refine (T.out _).mono ?_
              rintro e wq ⟨rfl, rfl⟩
              go_wp2
              go_ret2
              rw [Z1.out, HE.out]
              exact ⟨rfl, HB.out⟩
            have y2 : decide ((n : Int) - (o.length : Int) < (v : Int)) = false := by simp; omega
            have hvr : v ≤ r1.size := by omega
            obtain ⟨r2, hr2⟩ : ∃ r2, r1.extract 0 v = r2 := ⟨_, rfl⟩
            obtain ⟨r3, hr3⟩ : ∃ r3, r1.extract v r1.size = r3 := ⟨_, rfl⟩
            have hr2s : r2.size = v := by rw [← hr2, ByteArray.size_extract]; omega
            have hr3s : r3.size ≤ r1.size := by rw [← hr3, ByteArray.size_extract]; omega
            rw [hr2, hr3] at PT1
            have HE := Lib.hid (HS.out.plain ht hov (PT1.trans (if_neg (by omega))))
            have H2 := Lib.hid (And.intro hr2s (And.intro ht (And.intro (Nat.le_trans hr3s (Nat.le_trans hr1s hrs)) (show o.length + v ≤ n by omega))))
            have hap : o.length + r2.size ≤ 140737488355328 := by omega
            have hlb := bl_length r2
            rw [hr2s] at hlb
            have HLB := Lib.hid hlb
            clear hlb hov ht hm0 PT1 hr1s hr2s hr3s h1 h2
            go_wp2_with fail
            refine (T.out _).mono ?_
            rintro e wq ⟨rfl, rfl⟩
            go_wp2_with (at_builtin; refine app_str (w0 := w) w.heap.size rfl (.tmp 91) (.tmp 94) _ o r2 rfl rfl rfl HO.out HB.out HB.out.size hap ?_; intro v1 w3 HO1 HB1 HG1; obtain ⟨A1, m1, c1, rfl⟩ := HO1.out.slice_)
            go_roundw
            case rel => exact ⟨t + 1, r3, o ++ bl r2, rfl, by go_num, by rw [List.length_append, HLB.out]; exact (plain_t1 H2.out.2.1 HT.out).1, by rw [List.length_append, HLB.out]; exact (plain_t1 H2.out.2.1 HT.out).2, by rw [List.length_append, HLB.out]; exact H2.out.2.2.2, H2.out.2.2.1, HO1.out, HB1.out, HE.out⟩
            case measure =>
              rw [HO1.out.len, HO.out.len, List.length_append, show r2.data.toList.length = v from HLB.out]
              first
                | exact plain_meas0 ht0 H2.out.2.2.2
                | exact plain_meas1 HQ.out H2.out.2.1 H2.out.2.2.2
      · have x8 : ((t : Int) == 0) = false := by simp; omega
        have x9 : decide ((o.length : Int) < (n : Int)) = false := by simp; omega
        have HS := Lib.hid (HS.out.over hov)
        have hnl : ¬ o.length < n := fun h => hov (.inr h)
        have hdn := done_iff r
        clear hov
        have HV := Lib.hid HO.out.conv
        by_cases hr : r.size = 0
        · rw [decide_eq_true hr] at hdn
          have HR := Lib.hid hr; clear hr
          have h9 := HV.out
          go_wp2
          go_ret2
          rw [Z1.out, HS.out]
          exact ⟨by simp only [lzFin]; rw [if_pos HR.out]; rfl, HB.out⟩
        · rw [decide_eq_false hr] at hdn
          have HR := Lib.hid hr; clear hr
          go_wp2
          go_ret2
          rw [Z1.out, HS.out]
          exact ⟨by simp only [lzFin]; rw [if_neg HR.out]; rfl, HB.out⟩
  · have x7 : ((c.toNat : Int) != 1) = true := by
      have : c.toNat ≠ 1 := fun e => c1 (UInt8.toNat.inj e)
      simp
      omega
    rw [if_pos c1] at Z1
    clear c0 c1
    go_wp2
    go_ret2
    rw [Z1.out]
    exact ⟨rfl, HB.out⟩
end Go.Proofs.Ythooihkkghfhkaa.My
