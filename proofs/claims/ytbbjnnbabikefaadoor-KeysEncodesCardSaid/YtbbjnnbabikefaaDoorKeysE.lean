/- keys: what is encoded is decoded, and the other way (plain). -/
import Derived.Test.YtbbjnnbabikefaaDoorKeysD
namespace Go.Proofs.YtbbjnnbabikefaaDoor.My
set_option linter.unusedSimpArgs false
set_option linter.unusedVariables false
open Go.RowKit Go.Proofs.YtbbjnnbabikefaaDoorW.PrintWords Go.Proofs.YtbbjnnbabikefaaDoorW.PrintLast Go.Proofs.YtbbjnnbabikefaaDoor.Pm

theorem textL_esc : ∀ (l r : List UInt8), textL (escB l ++ 0 :: 0 :: r) = some (l, (escB l).length + 2)
  | [], r => by rw [escB, List.nil_append, textL_end]; rfl
  | b :: l, r => by
    have ih := textL_esc l r
    by_cases hb : b = 0
    · simp only [escB, hb, if_true, List.cons_append]
      rw [textL_nul, ih]
      rfl
    · simp only [escB, hb, if_false, List.cons_append]
      rw [textL_ne hb, ih]
      rfl
theorem textL_back : ∀ (k : Nat) (l : List UInt8), l.length ≤ k → ∀ o n, textL l = some (o, n) → escB o ++ [0, 0] = l.take n
  | 0, [], _, o, n, h => by cases h
  | k + 1, l, hk, o, n, h => by
    match l, hk, h with
    | [], _, h => cases h
    | [_], _, h => cases h
    | b :: c :: q, hk, h =>
      simp only [List.length_cons] at hk
      rw [textL] at h
      split at h
      · rename_i hb
        obtain ⟨⟨o', n'⟩, h1, h2⟩ := Option.map_eq_some_iff.1 h
        have ih := textL_back k (c :: q) (by simp only [List.length_cons]; omega) o' n' h1
        simp only [Prod.mk.injEq] at h2
        obtain ⟨rfl, rfl⟩ := h2
        simp only [escB, if_neg hb, List.cons_append, List.take_succ_cons]
        rw [ih]
      · rename_i hb
        have hb : b = 0 := Classical.not_not.1 hb
        subst hb
        split at h
        · rename_i hc
          subst hc
          simp only [Option.some.injEq, Prod.mk.injEq] at h
          obtain ⟨rfl, rfl⟩ := h
          rfl
        · split at h
          · rename_i hc
            subst hc
            obtain ⟨⟨o', n'⟩, h1, h2⟩ := Option.map_eq_some_iff.1 h
            have ih := textL_back k q (by omega) o' n' h1
            simp only [Prod.mk.injEq] at h2
            obtain ⟨rfl, rfl⟩ := h2
            simp only [escB, if_true, List.cons_append, List.take_succ_cons]
            rw [ih]
          · cases h
theorem valBE_cons (b : UInt8) (l : List UInt8) : valBE (b :: l) = b.toNat * 256 ^ l.length + valBE l := by
  show List.foldl (fun n b => n * 256 + b.toNat) 0 (b :: l) = _
  rw [List.foldl_cons, Nat.zero_mul, Nat.zero_add, foldBE_cons]
theorem be_add (m v k : Nat) : ∀ j, j ≤ k → be (m * 256 ^ k + v) j = be v j
  | 0, _ => rfl
  | j + 1, hj => by
    rw [be, be, be_add m v k j (by omega)]
    congr 2
    have hp : 0 < 256 ^ j := Nat.pow_pos (by decide)
    have e : 256 ^ k = 256 ^ j * (256 * 256 ^ (k - j - 1)) := by rw [← Nat.pow_succ', ← Nat.pow_add]; congr 1; omega
    rw [e, show m * (256 ^ j * (256 * 256 ^ (k - j - 1))) + v = v + 256 ^ j * (m * (256 * 256 ^ (k - j - 1))) by
      rw [Nat.add_comm]; congr 1; rw [← Nat.mul_assoc, Nat.mul_comm m, Nat.mul_assoc], Nat.add_mul_div_left _ _ hp]
    rw [show m * (256 * 256 ^ (k - j - 1)) = 256 * (m * 256 ^ (k - j - 1)) by rw [← Nat.mul_assoc, Nat.mul_comm m, Nat.mul_assoc]]
    omega
theorem be_valBE : ∀ l : List UInt8, be (valBE l) l.length = l
  | [] => rfl
  | b :: l => by
    have hlt := valBE_lt l
    rw [List.length_cons, be, valBE_cons, be_add _ _ _ _ (Nat.le_refl _), be_valBE l]
    congr 1
    rw [Nat.add_comm, Nat.add_mul_div_right _ _ (Nat.pow_pos (by decide)), Nat.div_eq_of_lt hlt, Nat.zero_add]
    have := b.toNat_lt
    rw [Nat.mod_eq_of_lt this]
    exact UInt8.ofNat_toNat
theorem be8_back {r : List UInt8} (h : 8 ≤ r.length) : bl (fixedS (valBE (r.take 8) : Int) 8 true) = r.take 8 := by
  rw [bl_fixed8]
  have := be_valBE (r.take 8)
  rw [List.length_take, Nat.min_eq_left h] at this
  exact this
theorem plainL_one {p : PIt} (hp : p.ok) (r : List UInt8) : plainL (bl (oneS p) ++ r) = some (p, (oneS p).size) := by
  cases p with
  | nul => rfl
  | boo b => cases b <;> rfl
  | i64 x =>
    have hx : -9223372036854775808 ≤ x ∧ x < 9223372036854775808 := hp
    have hz : (oneS (.i64 x)).size = 9 := by
      show ((⟨#[48]⟩ : ByteArray) ++ fixedS (x + 9223372036854775808) 8 true).size = 9
      rw [ByteArray.size_append, fixed8_size]
      rfl
    rw [hz, bl_one]
    obtain ⟨n, hn⟩ := Int.eq_ofNat_of_zero_le (show 0 ≤ x + 9223372036854775808 by omega)
    have ht : tailS (.i64 x) = be n 8 := by
      show bl (fixedS (x + 9223372036854775808) 8 true) = _
      rw [hn, bl_fixed8]
    show plainL (48 :: (tailS (.i64 x) ++ r)) = _
    have hl := be_length n 8
    rw [ht, plainL, if_neg (by decide), if_neg (by decide), if_neg (by decide), if_pos rfl, if_pos (by rw [List.length_append, hl]; omega), show (be n 8 ++ r).take 8 = be n 8 by rw [List.take_append_of_le_length (by omega), List.take_of_length_le (by omega)], valBE_be]
    have e : 256 ^ 8 = 18446744073709551616 := by decide
    rw [e, Nat.mod_eq_of_lt (by omega)]
    simp only [Option.some.injEq, Prod.mk.injEq, PIt.i64.injEq, and_true]
    omega
  | u64 n =>
    have hx : n < 18446744073709551616 := hp
    have hz : (oneS (.u64 n)).size = 9 := by
      show ((⟨#[64]⟩ : ByteArray) ++ fixedS (n : Int) 8 true).size = 9
      rw [ByteArray.size_append, fixed8_size]
      rfl
    rw [hz, bl_one]
    have ht : tailS (.u64 n) = be n 8 := bl_fixed8 n
    show plainL (64 :: (tailS (.u64 n) ++ r)) = _
    have hl := be_length n 8
    rw [ht, plainL, if_neg (by decide), if_neg (by decide), if_neg (by decide), if_neg (by decide), if_pos rfl, if_pos (by rw [List.length_append, hl]; omega), show (be n 8 ++ r).take 8 = be n 8 by rw [List.take_append_of_le_length (by omega), List.take_of_length_le (by omega)], valBE_be]
    have e : 256 ^ 8 = 18446744073709551616 := by decide
    rw [e, Nat.mod_eq_of_lt (by omega)]
  | str s =>
    have hz : (oneS (.str s)).size = (escB (bl s)).length + 3 := by
      rw [← bl_length, bl_one]
      show (_ :: (escB (bl s) ++ [0, 0])).length = _
      rw [List.length_cons, List.length_append]
      rfl
    rw [hz, bl_one]
    show plainL (80 :: ((escB (bl s) ++ [0, 0]) ++ r)) = _
    rw [List.append_assoc]
    show plainL (80 :: (escB (bl s) ++ 0 :: 0 :: r)) = _
    rw [plainL, if_neg (by decide), if_neg (by decide), if_neg (by decide), if_neg (by decide), if_neg (by decide), if_pos rfl, textL_esc]
    rfl
theorem plainL_back {l : List UInt8} {p : PIt} {n : Nat} (hl : l.length ≤ 1000) (h : plainL l = some (p, n)) : p.ok ∧ bl (oneS p) = l.take n := by
  cases l with
  | nil => cases h
  | cons c r =>
    simp only [List.length_cons] at hl
    rw [plainL] at h
    split at h
    · rename_i hc; subst hc; cases h; exact ⟨trivial, rfl⟩
    split at h
    · rename_i hc; subst hc; cases h; exact ⟨trivial, rfl⟩
    split at h
    · rename_i hc; subst hc; cases h; exact ⟨trivial, rfl⟩
    split at h
    · rename_i hc
      subst hc
      split at h
      · rename_i h8
        cases h
        have hlt := valBE8_lt r
        refine ⟨⟨by omega, by omega⟩, ?_⟩
        rw [bl_one]
        show 48 :: bl (fixedS ((valBE (r.take 8) : Int) - 9223372036854775808 + 9223372036854775808) 8 true) = _
        rw [show (valBE (r.take 8) : Int) - 9223372036854775808 + 9223372036854775808 = (valBE (r.take 8) : Int) by omega, be8_back h8]
        rfl
      · cases h
    split at h
    · rename_i hc
      subst hc
      split at h
      · rename_i h8
        cases h
        refine ⟨valBE8_lt r, ?_⟩
        rw [bl_one]
        show 64 :: bl (fixedS (valBE (r.take 8) : Int) 8 true) = _
        rw [be8_back h8]
        rfl
      · cases h
    split at h
    · rename_i hc
      subst hc
      obtain ⟨⟨o, m⟩, h1, h2⟩ := Option.map_eq_some_iff.1 h
      have hlen := textL_len _ r (Nat.le_refl _) o m h1
      have hbk := textL_back _ r (Nat.le_refl _) o m h1
      simp only [Prod.mk.injEq] at h2
      obtain ⟨rfl, rfl⟩ := h2
      refine ⟨?_, ?_⟩
      · show (⟨o.toArray⟩ : ByteArray).size ≤ 1000
        rw [← bl_length]
        show o.length ≤ 1000
        omega
      · rw [bl_one, List.take_succ_cons, ← hbk]
        rfl
    · cases h
theorem notU_notU (b : UInt8) : notU (notU b) = b := by
  have hb := b.toNat_lt
  refine UInt8.toNat_inj.1 ?_
  rw [notU_nat, notU_nat]
  omega
theorem map_notU (l : List UInt8) : (l.map notU).map notU = l := by
  rw [List.map_map]
  exact (List.map_congr_left (g := id) fun b _ => notU_notU b).trans (List.map_id l)
theorem bl_item (x : ItX) : bl (itemS x.1 x.2) = turnL x.2 (bl (oneS x.1)) := by
  obtain ⟨p, d⟩ := x
  cases d <;> rfl
theorem turnL_turnL (d : Bool) (l : List UInt8) : turnL d (turnL d l) = l := by
  cases d
  · rfl
  · exact map_notU l
theorem turnL_append (d : Bool) (l r : List UInt8) : turnL d (l ++ r) = turnL d l ++ turnL d r := by
  cases d
  · rfl
  · exact List.map_append
theorem highL_item (x : ItX) (r : List UInt8) : highL (bl (itemS x.1 x.2) ++ r) = x.2 := by
  obtain ⟨p, d⟩ := x
  have hp := headS_lt p
  rw [UInt8.lt_iff_toNat_lt, show (128 : UInt8).toNat = 128 from rfl] at hp
  cases d
  · show highL (bl (oneS p) ++ r) = _
    rw [bl_one]
    exact decide_eq_false (by omega)
  · show highL (bl (notB (oneS p)) ++ r) = _
    rw [bl_notB, bl_one]
    show decide (128 ≤ (notU (headS p)).toNat) = true
    rw [notU_nat]
    exact decide_eq_true (by omega)
theorem decL_enc : ∀ (l : List ItX) (k : Nat), (∀ x ∈ l, x.1.ok) → (l.flatMap fun x => bl (itemS x.1 x.2)).length ≤ k → decL k (l.flatMap fun x => bl (itemS x.1 x.2)) = some l
  | [], k, _, _ => decL_nil k
  | x :: l, k, h, hk => by
    rw [List.flatMap_cons] at hk ⊢
    obtain ⟨a, q, hq⟩ := item_cons x
    have hne : bl (itemS x.1 x.2) ++ (l.flatMap fun x => bl (itemS x.1 x.2)) ≠ [] := by rw [hq]; simp
    obtain ⟨k, rfl⟩ : ∃ j, k = j + 1 := ⟨k - 1, by rw [hq] at hk; simp only [List.length_append, List.length_cons] at hk; omega⟩
    have hk2 : (l.flatMap fun x => bl (itemS x.1 x.2)).length ≤ k := by rw [hq] at hk; simp only [List.length_append, List.length_cons] at hk; omega
    have ih := decL_enc l k (fun z hz => h z (by simp [hz])) hk2
    have hz : (oneS x.1).size = (bl (itemS x.1 x.2)).length := by rw [bl_item, turnL_len, bl_length]
    rw [decL_step hne, highL_item, turnL_append, bl_item, turnL_turnL, plainL_one (h x (by simp))]
    simp only
    rw [← bl_item, hz, List.drop_left, ih]
    rfl
theorem decL_back : ∀ (k : Nat) (b : List UInt8) (l : List ItX), b.length ≤ 1000 → decL k b = some l → (∀ x ∈ l, x.1.ok) ∧ (l.flatMap fun x => bl (itemS x.1 x.2)) = b
  | k, [], l, _, h => by
    rw [decL_nil] at h
    cases h
    exact ⟨fun x hx => (by cases hx), rfl⟩
  | 0, c :: r, l, _, h => by cases h
  | k + 1, c :: r, l, hb, h => by
    rw [decL_step (by simp)] at h
    cases hp : plainL (turnL (highL (c :: r)) (c :: r)) with
    | none => rw [hp] at h; cases h
    | some pn =>
      obtain ⟨p, n⟩ := pn
      rw [hp] at h
      obtain ⟨l', h1, rfl⟩ := Option.map_eq_some_iff.1 h
      have hlt := plainL_len hp
      rw [turnL_len] at hlt
      obtain ⟨hok, hbk⟩ := plainL_back (by rw [turnL_len]; exact hb) hp
      obtain ⟨ho2, hf⟩ := decL_back k ((c :: r).drop n) l' (by rw [List.length_drop]; omega) h1
      refine ⟨fun x hx => ?_, ?_⟩
      · rcases List.mem_cons.1 hx with rfl | hx
        · exact hok
        · exact ho2 x hx
      · rw [List.flatMap_cons, hf, bl_item]
        show turnL (highL (c :: r)) (bl (oneS p)) ++ _ = _
        rw [hbk]
        have e : turnL (highL (c :: r)) ((turnL (highL (c :: r)) (c :: r)).take n) = (c :: r).take n := by
          generalize highL (c :: r) = d
          cases d
          · rfl
          · show ((((c :: r).map notU)).take n).map notU = _
            rw [← List.map_take, map_notU]
        rw [e, List.take_append_drop]
end Go.Proofs.YtbbjnnbabikefaaDoor.My
