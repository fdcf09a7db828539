/- msg.Decode, plain: of a message's own bytes. -/
import Derived.Test.YtemhmgpihkemjaaMrd10
namespace Go.Proofs.Ytemhmgpihkemjaa.My
set_option linter.unusedSimpArgs false
set_option linter.unusedVariables false
open Go.RowKit Go.Proofs.YtemhmgpihkemjaaW.PrintWords Go.Proofs.YtemhmgpihkemjaaW.PrintLast Go.Proofs.Ytemhmgpihkemjaa.Pm

theorem ap_nil (s : ByteArray) : s ++ (⟨#[]⟩ : ByteArray) = s := bl_ext (by rw [bl_append, bl_empty, List.append_nil])
theorem nil_ap (s : ByteArray) : (⟨#[]⟩ : ByteArray) ++ s = s := bl_ext (by rw [bl_append, bl_empty, List.nil_append])
theorem sz_nil {s : ByteArray} (h : s.size = 0) : s = ⟨#[]⟩ := bl_ext (by rw [bl_empty]; exact List.eq_nil_of_length_eq_zero (by rw [bl_length]; exact h))
theorem curUint_own {n : Nat} (h : n < 18446744073709551616) : curUint (uvS n) false = (n, ⟨#[]⟩, false) := by
  have := curUint_ub n ⟨#[]⟩ h
  rwa [ap_nil] at this
theorem em_nil : (⟨#[]⟩ : ByteArray).toList.isEmpty = true := (str_e _).trans rfl
theorem oneD_own {n : Nat} (h : n < 18446744073709551616) : oneD (uvS n) = true := by
  unfold oneD
  rw [curUint_own h]
  simp only [em_nil]
  rfl
/-- The loop with fuel enough. -/
def decW (K : Nat) (s : ByteArray) (was : Nat) (r : RM) : ByteArray × Bool × RM := decL K (s.size + 1) s false was r
theorem decL_more (K : Nat) : ∀ (n n' : Nat) (s : ByteArray) (cb : Bool) (was : Nat) (r : RM), (cb = true ∨ s.size < n) → (cb = true ∨ s.size < n') → decL K n s cb was r = decL K n' s cb was r := by
  intro n
  induction n with
  | zero =>
    intro n' s cb was r h1 h2
    rcases h1 with rfl | h1
    · rw [decL_stop (.inr (.inl rfl)), decL_stop (.inr (.inl rfl))]
    · omega
  | succ n ih =>
    intro n' s cb was r h1 h2
    by_cases hs : s.size = 0 ∨ cb = true ∨ r.bad = true
    · rw [decL_stop hs, decL_stop hs]
    · cases n' with
      | zero =>
        rcases h2 with h2 | h2
        · exact absurd (.inr (.inl h2)) hs
        · omega
      | succ n' =>
        rw [decL, decL, if_neg hs, if_neg hs]
        have hcb : ¬ cb = true := fun e => hs (.inr (.inl e))
        have hz : s.size < n + 1 := h1.resolve_left hcb
        have hz' : s.size < n' + 1 := h2.resolve_left hcb
        have k3 := curText_sz (curUint s false).2.1 (curUint s false).2.2
        have key : (curText (curUint s false).2.1 (curUint s false).2.2).2.2 = true ∨ (curText (curUint s false).2.1 (curUint s false).2.2).2.1.size < s.size := by
          cases h : (curUint s false).2.2 with
          | true => exact .inl (curText_of_bad _)
          | false =>
            have := curUint_shrinks s h
            rw [h] at k3
            exact .inr (by omega)
        exact ih n' _ _ _ _ (key.imp id (fun h => by omega)) (key.imp id (fun h => by omega))
theorem decW_is {K n : Nat} {s : ByteArray} {was : Nat} {r : RM} (h : s.size < n) : decL K n s false was r = decW K s was r := decL_more K n _ s false was r (.inr h) (.inr (by omega))
/-- One field of bytes. -/
theorem decW_field {K was h : Nat} {t rest : ByteArray} {r : RM} (hh : h < 18446744073709551616) (ht : t.size < 18446744073709551616) (hb : r.bad = false) (hq : was < h / 2) :
    decW K (uvS h ++ (textS t ++ rest)) was r = decW K rest (h / 2) (fldM h t K r) := by
  have e0 : 0 < (uvS h).size := by rw [uvS_size]; unfold uv; split <;> simp
  have hz : ¬ ((uvS h ++ (textS t ++ rest)).size = 0 ∨ false = true ∨ r.bad = true) := by
    rw [ByteArray.size_append, hb]
    rintro (h | h | h)
    · omega
    · cases h
    · cases h
  unfold decW
  rw [decL, if_neg hz, curUint_ub h _ hh]
  simp only
  rw [curText_app t rest ht]
  simp only
  rw [if_pos ⟨by trivial, hq⟩]
  exact decW_is (by rw [ByteArray.size_append, ByteArray.size_append]; omega)
/-- A message's fields up to a tag. -/
def restr (m : MsgS) (t : Nat) : MsgS := ⟨m.kind, if 1 ≤ t then m.frm else 0, if 2 ≤ t then m.tow else 0, if 3 ≤ t then m.node else 0, if 3 ≤ t then m.life else 0, if 3 ≤ t then m.seq else 0, if 4 ≤ t then m.a else 0, if 5 ≤ t then m.b else 0, if 6 ≤ t then m.key else ⟨#[]⟩, if 7 ≤ t then m.found else false, if 8 ≤ t then m.time else 0, if 8 ≤ t then m.gone else false, if 8 ≤ t then m.value else ⟨#[]⟩, if 9 ≤ t then m.ws else [], if 10 ≤ t then m.note else ⟨#[]⟩, if 11 ≤ t then m.hint else 0, if 12 ≤ t then m.must else 0⟩
theorem twelve {P : Nat → Prop} (h1 : P 1) (h2 : P 2) (h3 : P 3) (h4 : P 4) (h5 : P 5) (h6 : P 6) (h7 : P 7) (h8 : P 8) (h9 : P 9) (h10 : P 10) (h11 : P 11) (h12 : P 12) {k : Nat} (ha : 1 ≤ k) (hb : k ≤ 12) : P k := by
  rcases (show k = 1 ∨ k = 2 ∨ k = 3 ∨ k = 4 ∨ k = 5 ∨ k = 6 ∨ k = 7 ∨ k = 8 ∨ k = 9 ∨ k = 10 ∨ k = 11 ∨ k = 12 by omega) with rfl | rfl | rfl | rfl | rfl | rfl | rfl | rfl | rfl | rfl | rfl | rfl <;> assumption
theorem restr_in (m : MsgS) {t k : Nat} (h1 : 1 ≤ k) (h12 : k ≤ 12) (hk : k ≤ t) : fieldS (restr m t) k = fieldS m k := by
  revert hk
  refine twelve (P := fun k => k ≤ t → fieldS (restr m t) k = fieldS m k) ?_ ?_ ?_ ?_ ?_ ?_ ?_ ?_ ?_ ?_ ?_ ?_ h1 h12 <;>
  · intro hk
    unfold fieldS restr
    simp only [if_pos hk]
    rfl
theorem restr_out (m : MsgS) {t k : Nat} (h1 : 1 ≤ k) (h12 : k ≤ 12) (hk : ¬ k ≤ t) : (fieldS (restr m t) k).2 = false := by
  revert hk
  refine twelve (P := fun k => ¬ k ≤ t → (fieldS (restr m t) k).2 = false) ?_ ?_ ?_ ?_ ?_ ?_ ?_ ?_ ?_ ?_ ?_ ?_ h1 h12 <;>
  · intro hk
    unfold fieldS restr
    simp only [if_neg hk]
    rfl
/-- What is said of a message that is encoded. -/
structure MsgS.Good (m : MsgS) : Prop where
  fit : m.Fit
  w8 : m.ws.length ≤ 8
theorem restr_skip {m : MsgS} {k : Nat} (h12 : k + 1 ≤ 12) (h : (fieldS m (k + 1)).2 = false) : restr m (k + 1) = restr m k := by
  obtain ⟨j, hj⟩ : ∃ j, k + 1 = j := ⟨_, rfl⟩
  obtain rfl : k = j - 1 := by omega
  rw [hj] at h12 h ⊢
  have h1 : 1 ≤ j := by omega
  clear hj
  revert h
  refine twelve (P := fun j => (fieldS m j).2 = false → restr m j = restr m (j - 1)) ?_ ?_ ?_ ?_ ?_ ?_ ?_ ?_ ?_ ?_ ?_ ?_ h1 h12
  · intro h
    have e : m.frm = 0 := Decidable.of_not_not (of_decide_eq_false h)
    show (MsgS.mk _ m.frm _ _ _ _ _ _ _ _ _ _ _ _ _ _ _ : MsgS) = _
    rw [e]
    rfl
  · intro h
    have e : m.tow = 0 := Decidable.of_not_not (of_decide_eq_false h)
    show (MsgS.mk _ _ m.tow _ _ _ _ _ _ _ _ _ _ _ _ _ _ : MsgS) = _
    rw [e]
    rfl
  · intro h
    have e := Decidable.of_not_not (of_decide_eq_false h)
    show (MsgS.mk _ _ _ m.node m.life m.seq _ _ _ _ _ _ _ _ _ _ _ : MsgS) = _
    rw [e.1, e.2.1, e.2.2]
    rfl
  · intro h
    have e : m.a = 0 := Decidable.of_not_not (of_decide_eq_false h)
    show (MsgS.mk _ _ _ _ _ _ m.a _ _ _ _ _ _ _ _ _ _ : MsgS) = _
    rw [e]
    rfl
  · intro h
    have e : m.b = 0 := Decidable.of_not_not (of_decide_eq_false h)
    show (MsgS.mk _ _ _ _ _ _ _ m.b _ _ _ _ _ _ _ _ _ : MsgS) = _
    rw [e]
    rfl
  · intro h
    have e : m.key = ⟨#[]⟩ := sz_nil (Decidable.of_not_not (of_decide_eq_false h))
    show (MsgS.mk _ _ _ _ _ _ _ _ m.key _ _ _ _ _ _ _ _ : MsgS) = _
    rw [e]
    rfl
  · intro h
    have e : m.found = false := h
    show (MsgS.mk _ _ _ _ _ _ _ _ _ m.found _ _ _ _ _ _ _ : MsgS) = _
    rw [e]
    rfl
  · intro h
    have e := Decidable.of_not_not (of_decide_eq_false h)
    have e8 := sz_nil e.2.2
    show (MsgS.mk _ _ _ _ _ _ _ _ _ _ m.time m.gone m.value _ _ _ _ : MsgS) = _
    rw [e.1, e.2.1, e8]
    rfl
  · intro h
    have e : m.ws = [] := List.eq_nil_of_length_eq_zero (by have := of_decide_eq_false h; omega)
    show (MsgS.mk _ _ _ _ _ _ _ _ _ _ _ _ _ m.ws _ _ _ : MsgS) = _
    rw [e]
    rfl
  · intro h
    have e : m.note = ⟨#[]⟩ := sz_nil (Decidable.of_not_not (of_decide_eq_false h))
    show (MsgS.mk _ _ _ _ _ _ _ _ _ _ _ _ _ _ m.note _ _ : MsgS) = _
    rw [e]
    rfl
  · intro h
    have e : m.hint = 0 := Decidable.of_not_not (of_decide_eq_false h)
    show (MsgS.mk _ _ _ _ _ _ _ _ _ _ _ _ _ _ _ m.hint _ : MsgS) = _
    rw [e]
    rfl
  · intro h
    have e : m.must = 0 := Decidable.of_not_not (of_decide_eq_false h)
    show (MsgS.mk _ _ _ _ _ _ _ _ _ _ _ _ _ _ _ _ m.must : MsgS) = _
    rw [e]
    rfl
theorem flagS_bl (g : Bool) : bl (flagS g) = if g then [1] else [0] := by cases g <;> rfl
theorem flag_one (g : Bool) : decide (bl (flagS g) = [1]) = g := by cases g <;> rfl
theorem flag_ok (g : Bool) : flB (flagS g) = false := by cases g <;> rfl
theorem wrsL_own : ∀ (ws acc : List WrT) (u : ByteArray) (bad : Bool), (∀ p ∈ ws, p.1.size < 18446744073709551616 ∧ p.2.2.size < 18446744073709551616) → wrsL ws.length (writesS ws ++ u) false bad acc = (acc ++ ws, u, false, bad)
  | [], acc, u, bad, _ => by
    show (acc, (⟨#[]⟩ : ByteArray) ++ u, false, bad) = _
    rw [nil_ap, List.append_nil]
  | (k, g, v) :: r, acc, u, bad, h => by
    have hk := h _ (List.mem_cons_self ..)
    rw [List.length_cons, wrsL, writesS]
    simp only
    rw [ByteArray.append_assoc, curBytes_app (flagS g) _ 1 (by rw [flagS_size]; rfl)]
    simp only
    rw [ByteArray.append_assoc, curText_app k _ hk.1]
    simp only
    rw [ByteArray.append_assoc, curText_app v _ hk.2]
    simp only
    rw [flag_ok, Bool.or_false, flag_one, wrsL_own r _ u bad (fun p hp => h p (List.mem_cons_of_mem _ hp)), List.append_assoc]
    rfl
theorem take_own {m : MsgS} (G : m.Good) {k : Nat} (h1 : 1 ≤ k) (h12 : k ≤ 12) (L : Nat) (C : Bool) (h : (fieldS m k).2 = true) : takeS k (fieldS m k).1 ⟨restr m (k - 1), L, C, false⟩ = ⟨restr m k, L, C, false⟩ := by
  have f := G.fit
  have int : ∀ {x : Int}, Ok32 x → ((((x.toNat % 2147483648 : Nat)) : Int) = x ∧ decide (2147483647 < x.toNat) = false) := fun {x} hx => by
    unfold Ok32 at hx
    exact ⟨by omega, decide_eq_false (by omega)⟩
  revert h
  refine twelve (P := fun k => (fieldS m k).2 = true → takeS k (fieldS m k).1 ⟨restr m (k - 1), L, C, false⟩ = ⟨restr m k, L, C, false⟩) ?_ ?_ ?_ ?_ ?_ ?_ ?_ ?_ ?_ ?_ ?_ ?_ h1 h12 <;> intro h
  · have c := curUint_own (ok32_lt f.frm)
    have d := oneD_own (ok32_lt f.frm)
    obtain ⟨e1, e2⟩ := int f.frm
    show RM.mk { restr m 0 with frm := (((curUint (uvS m.frm.toNat) false).1 % 2147483648 : Nat) : Int) } L C ((false || !oneD (uvS m.frm.toNat)) || decide (2147483647 < (curUint (uvS m.frm.toNat) false).1)) = _
    rw [c, d]
    simp only
    rw [e1, e2]
    rfl
  · have c := curUint_own (ok32_lt f.tow)
    have d := oneD_own (ok32_lt f.tow)
    obtain ⟨e1, e2⟩ := int f.tow
    show RM.mk { restr m 1 with tow := (((curUint (uvS m.tow.toNat) false).1 % 2147483648 : Nat) : Int) } L C ((false || !oneD (uvS m.tow.toNat)) || decide (2147483647 < (curUint (uvS m.tow.toNat) false).1)) = _
    rw [c, d]
    simp only
    rw [e1, e2]
    rfl
  · have c1 := curUint_ub m.node.toNat (uvS m.life.toNat ++ uvS m.seq.toNat) (ok32_lt f.node)
    have c2 := curUint_ub m.life.toNat (uvS m.seq.toNat) (ok32_lt f.life)
    have c3 := curUint_own (ok32_lt f.seq)
    rw [← ByteArray.append_assoc] at c1
    obtain ⟨e1, e2⟩ := int f.node
    obtain ⟨e3, e4⟩ := int f.life
    obtain ⟨e5, e6⟩ := int f.seq
    have hc : cur3u (uvS m.node.toNat ++ uvS m.life.toNat ++ uvS m.seq.toNat) = (m.node.toNat, m.life.toNat, m.seq.toNat, true) := by
      unfold cur3u
      rw [c1]
      simp only
      rw [c2]
      simp only
      rw [c3]
      simp only [em_nil]
      rfl
    show RM.mk { restr m 2 with node := (((cur3u (uvS m.node.toNat ++ uvS m.life.toNat ++ uvS m.seq.toNat)).1 % 2147483648 : Nat) : Int), life := (((cur3u (uvS m.node.toNat ++ uvS m.life.toNat ++ uvS m.seq.toNat)).2.1 % 2147483648 : Nat) : Int), seq := (((cur3u (uvS m.node.toNat ++ uvS m.life.toNat ++ uvS m.seq.toNat)).2.2.1 % 2147483648 : Nat) : Int) } L C
      ((((false || decide (2147483647 < (cur3u (uvS m.node.toNat ++ uvS m.life.toNat ++ uvS m.seq.toNat)).1)) || decide (2147483647 < (cur3u (uvS m.node.toNat ++ uvS m.life.toNat ++ uvS m.seq.toNat)).2.1)) || decide (2147483647 < (cur3u (uvS m.node.toNat ++ uvS m.life.toNat ++ uvS m.seq.toNat)).2.2.1)) || !(cur3u (uvS m.node.toNat ++ uvS m.life.toNat ++ uvS m.seq.toNat)).2.2.2) = _
    rw [hc]
    simp only
    rw [e1, e2, e3, e4, e5, e6]
    rfl
  · have c := curUint_own f.a
    have d := oneD_own f.a
    show RM.mk { restr m 3 with a := (curUint (uvS m.a) false).1 } L C (false || !oneD (uvS m.a)) = _
    rw [c, d]
    rfl
  · have c := curUint_own f.b
    have d := oneD_own f.b
    show RM.mk { restr m 4 with b := (curUint (uvS m.b) false).1 } L C (false || !oneD (uvS m.b)) = _
    rw [c, d]
    rfl
  · rfl
  · have e : m.found = true := h
    show RM.mk { restr m 6 with found := true } L C (false || !(⟨#[]⟩ : ByteArray).toList.isEmpty) = RM.mk (MsgS.mk _ _ _ _ _ _ _ _ _ m.found _ _ _ _ _ _ _) L C false
    rw [e, em_nil]
    rfl
  · have c1 := curUint_ub m.time (flagS m.gone ++ m.value) f.time
    have c2 := curBytes_app (flagS m.gone) m.value 1 (by rw [flagS_size]; rfl)
    have c3 := curBytes_app m.value ⟨#[]⟩ (m.value.size : Nat) rfl
    rw [← ByteArray.append_assoc] at c1
    rw [ap_nil] at c3
    have hc : curV (uvS m.time ++ flagS m.gone ++ m.value) = (m.time, flagS m.gone, m.value, false) := by
      unfold curV
      rw [c1]
      simp only
      rw [c2]
      simp only
      rw [c3]
    show RM.mk { restr m 7 with time := (curV (uvS m.time ++ flagS m.gone ++ m.value)).1, gone := decide (bl (curV (uvS m.time ++ flagS m.gone ++ m.value)).2.1 = [1]), value := (curV (uvS m.time ++ flagS m.gone ++ m.value)).2.2.1 } L C ((false || flB (curV (uvS m.time ++ flagS m.gone ++ m.value)).2.1) || (curV (uvS m.time ++ flagS m.gone ++ m.value)).2.2.2) = _
    rw [hc]
    simp only
    rw [flag_ok, flag_one]
    rfl
  · have c1 := curUint_ub m.ws.length (writesS m.ws) (by have := G.w8; omega)
    have c2 := wrsL_own m.ws [] ⟨#[]⟩ false (fun p hp => ⟨Nat.lt_of_le_of_lt (f.wss p hp).1 (by decide), Nat.lt_of_le_of_lt (f.wss p hp).2 (by decide)⟩)
    rw [ap_nil, List.nil_append] at c2
    have hm : min m.ws.length 8 = m.ws.length := Nat.min_eq_left G.w8
    have hc : wrsS (uvS m.ws.length ++ writesS m.ws) false = (m.ws, false) := by
      unfold wrsS
      rw [c1]
      simp only
      rw [hm, c2]
      simp only
      rw [decide_eq_false (by have := G.w8; omega), em_nil]
      rfl
    show RM.mk { restr m 8 with ws := (wrsS (uvS m.ws.length ++ writesS m.ws) false).1 } L C (wrsS (uvS m.ws.length ++ writesS m.ws) false).2 = _
    rw [hc]
    rfl
  · rfl
  · have c := curUint_own f.hint
    have d := oneD_own f.hint
    show RM.mk { restr m 10 with hint := (curUint (uvS m.hint) false).1 } L C (false || !oneD (uvS m.hint)) = _
    rw [c, d]
    rfl
  · have c := curUint_own f.must
    have d := oneD_own f.must
    show RM.mk { restr m 11 with must := (curUint (uvS m.must) false).1 } L C (false || !oneD (uvS m.must)) = _
    rw [c, d]
    rfl
end Go.Proofs.Ytemhmgpihkemjaa.My
