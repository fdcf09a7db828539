/- The order of items' bytes, plain. -/
import Derived.Test.YtbbjnnbabikefaaDoorKeys7
import Derived.Test.YtbbjnnbabikefaaDoorCmp0
namespace Go.Proofs.YtbbjnnbabikefaaDoor.My
set_option linter.unusedSimpArgs false
set_option linter.unusedVariables false
open Go.RowKit Go.Proofs.YtbbjnnbabikefaaDoorW.PrintWords Go.Proofs.YtbbjnnbabikefaaDoorW.PrintLast Go.Proofs.YtbbjnnbabikefaaDoor.Pm

/-- Two rows of bytes, looked at up to the first place at which they differ (none is the other's beginning). -/
def C3 (x y : List UInt8) (c : Int) : Prop :=
  (x = y ∧ c = 0) ∨ (∃ p a b s t, x = p ++ a :: s ∧ y = p ++ b :: t ∧ a < b ∧ c = -1) ∨ (∃ p a b s t, x = p ++ a :: s ∧ y = p ++ b :: t ∧ b < a ∧ c = 1)
theorem C3.same (x : List UInt8) : C3 x x 0 := .inl ⟨rfl, rfl⟩
theorem C3.lt {a b : UInt8} (h : a < b) (s t : List UInt8) : C3 (a :: s) (b :: t) (-1) := .inr (.inl ⟨[], a, b, s, t, rfl, rfl, h, rfl⟩)
theorem C3.gt {a b : UInt8} (h : b < a) (s t : List UInt8) : C3 (a :: s) (b :: t) 1 := .inr (.inr ⟨[], a, b, s, t, rfl, rfl, h, rfl⟩)
theorem C3.pre {x y : List UInt8} {c : Int} (h : C3 x y c) (q : List UInt8) : C3 (q ++ x) (q ++ y) c := by
  rcases h with ⟨rfl, rfl⟩ | ⟨p, a, b, s, t, rfl, rfl, h, rfl⟩ | ⟨p, a, b, s, t, rfl, rfl, h, rfl⟩
  · exact .same _
  · exact .inr (.inl ⟨q ++ p, a, b, s, t, by simp, by simp, h, rfl⟩)
  · exact .inr (.inr ⟨q ++ p, a, b, s, t, by simp, by simp, h, rfl⟩)
theorem C3.cons {x y : List UInt8} {c : Int} (h : C3 x y c) (q : UInt8) : C3 (q :: x) (q :: y) c := h.pre [q]
theorem notU_lt {a b : UInt8} (h : a < b) : notU b < notU a := by
  have h1 := a.toNat_lt
  have h2 := b.toNat_lt
  rw [UInt8.lt_iff_toNat_lt] at h ⊢
  rw [notU_nat, notU_nat]
  omega
theorem C3.neg {x y : List UInt8} {c : Int} (h : C3 x y c) : C3 (x.map notU) (y.map notU) (-c) := by
  rcases h with ⟨rfl, rfl⟩ | ⟨p, a, b, s, t, rfl, rfl, h, rfl⟩ | ⟨p, a, b, s, t, rfl, rfl, h, rfl⟩
  · exact .same _
  · exact .inr (.inr ⟨p.map notU, notU a, notU b, s.map notU, t.map notU, by simp, by simp, notU_lt h, rfl⟩)
  · exact .inr (.inl ⟨p.map notU, notU a, notU b, s.map notU, t.map notU, by simp, by simp, notU_lt h, rfl⟩)
theorem cmpB_pre : ∀ (p x y : List UInt8), Lib.compareBytes (p ++ x) (p ++ y) = Lib.compareBytes x y
  | [], x, y => rfl
  | a :: p, x, y => by
    show Lib.compareBytes (a :: (p ++ x)) (a :: (p ++ y)) = _
    rw [Lib.compareBytes]
    rw [if_neg (UInt8.lt_irrefl a), if_neg (UInt8.lt_irrefl a)]
    exact cmpB_pre p x y
theorem C3.ne {x y : List UInt8} {c : Int} (h : C3 x y c) (hc : c ≠ 0) (r q : List UInt8) : Lib.compareBytes (x ++ r) (y ++ q) = c := by
  rcases h with ⟨rfl, rfl⟩ | ⟨p, a, b, s, t, rfl, rfl, h, rfl⟩ | ⟨p, a, b, s, t, rfl, rfl, h, rfl⟩
  · exact absurd rfl hc
  · rw [List.append_assoc, List.append_assoc, cmpB_pre, List.cons_append, List.cons_append, Lib.compareBytes, if_pos h]
  · rw [List.append_assoc, List.append_assoc, cmpB_pre, List.cons_append, List.cons_append, Lib.compareBytes, if_neg (fun h2 => UInt8.lt_irrefl _ (UInt8.lt_trans h h2)), if_pos h]
theorem C3.eq {x y : List UInt8} (h : C3 x y 0) : x = y := by
  rcases h with ⟨h, _⟩ | ⟨_, _, _, _, _, _, _, _, h⟩ | ⟨_, _, _, _, _, _, _, _, h⟩
  · exact h
  · cases h
  · cases h
def signI (l m : Bool) : Int := if l then -1 else if m then 1 else 0
theorem u8_lt_asymm {a b : UInt8} (h : a < b) : ¬ b < a := fun h2 => UInt8.lt_irrefl _ (UInt8.lt_trans h h2)
theorem cmpB_sign : ∀ x y : List UInt8, Lib.compareBytes x y = signI (Op.bytesLess x y) (Op.bytesLess y x)
  | [], [] => rfl
  | [], _ :: _ => rfl
  | _ :: _, [] => rfl
  | a :: x, b :: y => by
    have ih := cmpB_sign x y
    by_cases h1 : a < b
    · have h2 := u8_lt_asymm h1
      have hne : ¬ b = a := fun e => by subst e; exact UInt8.lt_irrefl _ h1
      rw [Lib.compareBytes, if_pos h1]
      simp [Op.bytesLess, h1, h2, hne, signI]
    · by_cases h2 : b < a
      · have hne : ¬ a = b := fun e => by subst e; exact UInt8.lt_irrefl _ h2
        rw [Lib.compareBytes, if_neg h1, if_pos h2]
        simp [Op.bytesLess, h1, h2, hne, signI]
      · have e : a = b := UInt8.le_antisymm (UInt8.not_lt.1 h2) (UInt8.not_lt.1 h1)
        subst e
        rw [Lib.compareBytes, if_neg h1, if_neg h1, ih]
        simp [Op.bytesLess, h1]
theorem u8_zero_lt {b : UInt8} (h : b ≠ 0) : (0 : UInt8) < b := by
  rw [UInt8.lt_iff_toNat_lt]
  have h0 : b.toNat ≠ 0 := fun e => h (UInt8.toNat_inj.1 e)
  show 0 < b.toNat
  omega
theorem C3_esc : ∀ s t : List UInt8, C3 (escB s ++ [0, 0]) (escB t ++ [0, 0]) (Lib.compareBytes s t)
  | [], [] => .same _
  | [], b :: t => by
    by_cases hb : b = 0
    · simp only [escB, hb, if_true]
      exact (C3.lt (by decide) _ _).cons 0
    · simp only [escB, hb, if_false]
      exact C3.lt (u8_zero_lt hb) _ _
  | a :: s, [] => by
    by_cases ha : a = 0
    · simp only [escB, ha, if_true]
      exact (C3.gt (by decide) _ _).cons 0
    · simp only [escB, ha, if_false]
      exact C3.gt (u8_zero_lt ha) _ _
  | a :: s, b :: t => by
    rw [Lib.compareBytes]
    by_cases h1 : a < b
    · rw [if_pos h1]
      have hb : b ≠ 0 := fun e => by rw [e, UInt8.lt_iff_toNat_lt] at h1; exact Nat.not_lt_zero _ h1
      by_cases ha : a = 0
      · simp only [escB, hb, ha, if_true, if_false]
        exact C3.lt (u8_zero_lt hb) _ _
      · simp only [escB, hb, ha, if_false]
        exact C3.lt h1 _ _
    · rw [if_neg h1]
      by_cases h2 : b < a
      · rw [if_pos h2]
        have ha : a ≠ 0 := fun e => by rw [e, UInt8.lt_iff_toNat_lt] at h2; exact Nat.not_lt_zero _ h2
        by_cases hb : b = 0
        · simp only [escB, hb, ha, if_true, if_false]
          exact C3.gt (u8_zero_lt ha) _ _
        · simp only [escB, hb, ha, if_false]
          exact C3.gt h2 _ _
      · rw [if_neg h2]
        have e : a = b := UInt8.le_antisymm (UInt8.not_lt.1 h2) (UInt8.not_lt.1 h1)
        subst e
        have ih := C3_esc s t
        by_cases ha : a = 0
        · simp only [escB, ha, if_true]
          exact ih.pre [0, 255]
        · simp only [escB, ha, if_false]
          exact ih.cons a
theorem C3_be (n m : Nat) : ∀ k, C3 (be n k) (be m k) (signI (decide (n % 256 ^ k < m % 256 ^ k)) (decide (m % 256 ^ k < n % 256 ^ k)))
  | 0 => by simp [be, signI, Nat.mod_one]; exact .same _
  | k + 1 => by
    have ih := C3_be n m k
    have hA : n / 256 ^ k % 256 < 256 := Nat.mod_lt _ (by decide)
    have hB : m / 256 ^ k % 256 < 256 := Nat.mod_lt _ (by decide)
    rw [Nat.pow_succ, Nat.mod_mul, Nat.mod_mul, be, be]
    have hp : 0 < 256 ^ k := Nat.pow_pos (by decide)
    have hr := Nat.mod_lt n hp
    have hs := Nat.mod_lt m hp
    generalize n / 256 ^ k % 256 = A at *
    generalize m / 256 ^ k % 256 = B at *
    generalize n % 256 ^ k = r at *
    generalize m % 256 ^ k = s at *
    generalize 256 ^ k = P at *
    have key : ∀ x y u v : Nat, x < y → u < P → u + P * x < v + P * y := fun x y u v h hu => by
      have h1 : P * (x + 1) ≤ P * y := Nat.mul_le_mul_left P h
      rw [Nat.mul_add, Nat.mul_one] at h1
      omega
    rcases Nat.lt_trichotomy A B with h | h | h
    · have h1 := key A B r s h hr
      rw [decide_eq_true h1]
      refine C3.lt ?_ _ _
      rw [UInt8.lt_iff_toNat_lt, toNat_ofNat8 hA, toNat_ofNat8 hB]
      exact h
    · subst h
      have e1 : decide (r + P * A < s + P * A) = decide (r < s) := decide_eq_decide.2 ⟨fun h => by omega, fun h => by omega⟩
      have e2 : decide (s + P * A < r + P * A) = decide (s < r) := decide_eq_decide.2 ⟨fun h => by omega, fun h => by omega⟩
      rw [e1, e2]
      exact ih.cons _
    · have h1 := key B A s r h hs
      rw [decide_eq_false (by omega : ¬ r + P * A < s + P * B), decide_eq_true h1]
      refine C3.gt ?_ _ _
      rw [UInt8.lt_iff_toNat_lt, toNat_ofNat8 hA, toNat_ofNat8 hB]
      exact h
def rankP : PIt → Nat
  | .nul => 0
  | .boo b => if b then 2 else 1
  | .i64 _ => 3
  | .u64 _ => 4
  | .str _ => 5
def hdU (r : Nat) : UInt8 := [16, 32, 33, 48, 64, 80].getD r 80
theorem headS_rank (p : PIt) : headS p = hdU (rankP p) := by
  cases p with
  | boo b => cases b <;> rfl
  | _ => rfl
theorem rank_lt (p : PIt) : rankP p < 6 := by
  cases p with
  | boo b => cases b <;> decide
  | _ => simp [rankP]
theorem hdU_lt : ∀ i, i < 6 → ∀ j, j < 6 → i < j → hdU i < hdU j := by decide
/-- Of two items of one kind. -/
def valC : PIt → PIt → Int
  | .i64 a, .i64 b => signI (decide (a < b)) (decide (b < a))
  | .u64 a, .u64 b => signI (decide (a < b)) (decide (b < a))
  | .str s, .str t => signI (Op.bytesLess (bl s) (bl t)) (Op.bytesLess (bl t) (bl s))
  | _, _ => 0
def cmpP (p q : PIt) : Int := if rankP p < rankP q then -1 else if rankP q < rankP p then 1 else valC p q
def cmpI (x y : ItX) : Int := if x.2 ≠ y.2 then signI y.2 x.2 else if x.2 then -(cmpP x.1 y.1) else cmpP x.1 y.1
theorem bl_fixed8 (n : Nat) : bl (fixedS (n : Int) 8 true) = be n 8 := bl_fixed n 8 true (by decide) (by decide)
theorem C3_i64 {a b : Int} (ha : -9223372036854775808 ≤ a ∧ a < 9223372036854775808) (hb : -9223372036854775808 ≤ b ∧ b < 9223372036854775808) :
    C3 (bl (fixedS (a + 9223372036854775808) 8 true)) (bl (fixedS (b + 9223372036854775808) 8 true)) (signI (decide (a < b)) (decide (b < a))) := by
  obtain ⟨n, hn⟩ := Int.eq_ofNat_of_zero_le (show 0 ≤ a + 9223372036854775808 by omega)
  obtain ⟨m, hm⟩ := Int.eq_ofNat_of_zero_le (show 0 ≤ b + 9223372036854775808 by omega)
  rw [hn, hm, bl_fixed8, bl_fixed8]
  have h := C3_be n m 8
  have e : 256 ^ 8 = 18446744073709551616 := by decide
  rw [e, Nat.mod_eq_of_lt (by omega : n < 18446744073709551616), Nat.mod_eq_of_lt (by omega : m < 18446744073709551616)] at h
  rw [show decide (a < b) = decide (n < m) from decide_eq_decide.2 ⟨fun h => by omega, fun h => by omega⟩, show decide (b < a) = decide (m < n) from decide_eq_decide.2 ⟨fun h => by omega, fun h => by omega⟩]
  exact h
theorem C3_u64 {n m : Nat} (hn : n < 18446744073709551616) (hm : m < 18446744073709551616) :
    C3 (bl (fixedS (n : Int) 8 true)) (bl (fixedS (m : Int) 8 true)) (signI (decide (n < m)) (decide (m < n))) := by
  rw [bl_fixed8, bl_fixed8]
  have h := C3_be n m 8
  have e : 256 ^ 8 = 18446744073709551616 := by decide
  rw [e, Nat.mod_eq_of_lt hn, Nat.mod_eq_of_lt hm] at h
  exact h
theorem C3_one {p q : PIt} (hp : p.ok) (hq : q.ok) : C3 (bl (oneS p)) (bl (oneS q)) (cmpP p q) := by
  rw [bl_one, bl_one, headS_rank, headS_rank]
  unfold cmpP
  split
  · exact C3.lt (hdU_lt _ (rank_lt p) _ (rank_lt q) (by assumption)) _ _
  · rename_i h1
    split
    · exact C3.gt (hdU_lt _ (rank_lt q) _ (rank_lt p) (by assumption)) _ _
    · rename_i h2
      have e : rankP p = rankP q := by omega
      rw [e]
      refine C3.cons ?_ _
      clear h1 h2
      cases p with
      | nul => cases q with
        | nul => exact .same _
        | boo b => cases b <;> simp [rankP] at e
        | _ => simp [rankP] at e
      | boo a => cases q with
        | boo b => exact .same _
        | _ => cases a <;> simp [rankP] at e
      | i64 x => cases q with
        | i64 y => exact C3_i64 hp hq
        | boo b => cases b <;> simp [rankP] at e
        | _ => simp [rankP] at e
      | u64 x => cases q with
        | u64 y => exact C3_u64 hp hq
        | boo b => cases b <;> simp [rankP] at e
        | _ => simp [rankP] at e
      | str s => cases q with
        | str t =>
          have h := C3_esc (bl s) (bl t)
          rw [cmpB_sign] at h
          exact h
        | boo b => cases b <;> simp [rankP] at e
        | _ => simp [rankP] at e
theorem C3_item {x y : ItX} (hx : x.1.ok) (hy : y.1.ok) : C3 (bl (itemS x.1 x.2)) (bl (itemS y.1 y.2)) (cmpI x y) := by
  obtain ⟨p, d⟩ := x
  obtain ⟨q, e⟩ := y
  have hn : ∀ a b : PIt, headS a < notU (headS b) := fun a b => by
    have h1 := headS_lt a
    have h2 := headS_lt b
    rw [UInt8.lt_iff_toNat_lt] at h1 h2 ⊢
    rw [notU_nat]
    have e : (128 : UInt8).toNat = 128 := rfl
    omega
  cases d with
  | false =>
    cases e with
    | false => exact C3_one hx hy
    | true =>
      show C3 (bl (oneS p)) (bl (notB (oneS q))) (-1)
      rw [bl_notB, bl_one, bl_one]
      exact C3.lt (hn p q) _ _
  | true =>
    cases e with
    | false =>
      show C3 (bl (notB (oneS p))) (bl (oneS q)) 1
      rw [bl_notB, bl_one, bl_one]
      exact C3.gt (hn q p) _ _
    | true => exact (C3_one hx hy).neg
def cmpT : List ItX → List ItX → Int
  | [], [] => 0
  | [], _ :: _ => -1
  | _ :: _, [] => 1
  | x :: a, y :: b => if cmpI x y ≠ 0 then cmpI x y else cmpT a b
theorem encF_bl (l : List ItX) : ∀ s : ByteArray, bl (l.foldl encF s) = bl s ++ l.flatMap (fun x => bl (itemS x.1 x.2)) := by
  induction l with
  | nil => intro s; simp
  | cons x l ih =>
    intro s
    rw [List.foldl_cons, ih, List.flatMap_cons, encF, bl_append, List.append_assoc]
theorem bl_encL (l : List ItX) : bl (encL l) = l.flatMap (fun x => bl (itemS x.1 x.2)) := by
  unfold encL
  rw [encF_bl]
  rfl
theorem item_cons (x : ItX) : ∃ a r, bl (itemS x.1 x.2) = a :: r := by
  obtain ⟨p, d⟩ := x
  cases d
  · exact ⟨_, _, bl_one p⟩
  · exact ⟨notU (headS p), (tailS p).map notU, by show bl (notB (oneS p)) = _; rw [bl_notB, bl_one]; rfl⟩
theorem cmp_enc : ∀ {a b : List ItX}, (∀ x ∈ a, x.1.ok) → (∀ x ∈ b, x.1.ok) → Lib.compareBytes (bl (encL a)) (bl (encL b)) = cmpT a b
  | [], [], _, _ => rfl
  | [], y :: b, _, _ => by
    obtain ⟨c, r, h⟩ := item_cons y
    rw [bl_encL, bl_encL, List.flatMap_nil, List.flatMap_cons, h]
    rfl
  | x :: a, [], _, _ => by
    obtain ⟨c, r, h⟩ := item_cons x
    rw [bl_encL, bl_encL, List.flatMap_nil, List.flatMap_cons, h]
    rfl
  | x :: a, y :: b, ha, hb => by
    have h := C3_item (ha x (by simp)) (hb y (by simp))
    have ih := cmp_enc (a := a) (b := b) (fun z hz => ha z (by simp [hz])) (fun z hz => hb z (by simp [hz]))
    rw [bl_encL, bl_encL] at ih
    rw [bl_encL, bl_encL, List.flatMap_cons, List.flatMap_cons, cmpT]
    by_cases hc : cmpI x y = 0
    · rw [if_neg (by simp [hc])]
      rw [hc] at h
      rw [h.eq, cmpB_pre]
      exact ih
    · rw [if_pos hc]
      exact h.ne hc _ _
end Go.Proofs.YtbbjnnbabikefaaDoor.My
