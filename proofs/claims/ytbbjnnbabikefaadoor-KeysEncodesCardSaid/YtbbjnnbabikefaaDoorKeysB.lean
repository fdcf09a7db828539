/- keys.text, keys.plain: an item taken. -/
import Derived.Test.YtbbjnnbabikefaaDoorKeysA
import Derived.Test.YtbbjnnbabikefaaDoorByt
namespace Go.Proofs.YtbbjnnbabikefaaDoor.My
set_option linter.unusedSimpArgs false
set_option linter.unusedVariables false
open Go.RowKit Go.Proofs.YtbbjnnbabikefaaDoorW.PrintWords Go.Proofs.YtbbjnnbabikefaaDoorW.PrintLast Go.Proofs.YtbbjnnbabikefaaDoor.Pm

theorem app_byteK {ops : Array Oper} {rest : List Oper} {o : Oper} {a : Act} {Q : Exit → Act → World → Prop} {w0 W : World} (base : Nat) (hgd : o.guard = none) (s x : Operand) (v : Value) (xs : List UInt8) (p : UInt8)
    (ho : o.op = .call { callee := .builtin .append, args := #[s, x], argTypes := #[39, 39] }) (hs : a.eval s = v) (hx : a.eval x = .slice (some ⟨W.heap.size, 0, none⟩) 1 1)
    (HO : Byt W base v xs) (HB : Below base w0 W) (hbase : base ≤ W.heap.size) (hl : xs.length + 1 ≤ 140737488355328)
    (h : ∀ v1 w1, Hid (Byt w1 base v1 (xs ++ [p])) → Hid (Below base w0 w1) → wpList Tryd.prog ops Q rest (a.put o.dst v1) w1) :
    wpList Tryd.prog ops Q (o :: rest) a (W.alloc (.cells #[.int .u8 (p.toNat : Int)] 5)) := by
  refine app_u8 (w0 := w0) base hgd s x v (nb xs) (p.toNat : Int) ho hs hx (Kd.R_of_own (by rw [nb_length]; exact HO) (fun _ _ => trivial)) HB hbase (by rw [nb_length]; exact hl) ?_
  intro v1 w1 h1 h2
  refine h v1 w1 ?_ h2
  have := Kd.own_of_R h1.out
  rw [show nb xs ++ [(p.toNat : Int)] = nb (xs ++ [p]) by simp [nb], nb_length] at this
  exact this
/-- A text's bytes, up to its end, and how many there are. -/
def textL : List UInt8 → Option (List UInt8 × Nat)
  | [] => none
  | [_] => none
  | b :: c :: q => if b ≠ 0 then (textL (c :: q)).map (fun p => (b :: p.1, p.2 + 1)) else if c = 0 then some ([], 2) else if c = 255 then (textL q).map (fun p => (0 :: p.1, p.2 + 2)) else none
theorem textL_ne {b : UInt8} (h : b ≠ 0) (r : List UInt8) : textL (b :: r) = (textL r).map (fun p => (b :: p.1, p.2 + 1)) := by
  cases r with
  | nil => rfl
  | cons c q => rw [textL, if_pos h]
theorem textL_end (q : List UInt8) : textL (0 :: 0 :: q) = some ([], 2) := by rw [textL, if_neg (by simp), if_pos rfl]
theorem textL_nul (q : List UInt8) : textL (0 :: 255 :: q) = (textL q).map (fun p => (0 :: p.1, p.2 + 2)) := by rw [textL, if_neg (by simp), if_neg (by decide), if_pos rfl]
theorem textL_bad {c : UInt8} (h0 : c ≠ 0) (h1 : c ≠ 255) (q : List UInt8) : textL (0 :: c :: q) = none := by rw [textL, if_neg (by simp), if_neg h0, if_neg h1]
def textV : Option (List UInt8 × Nat) → Value
  | none => .tuple #[.string ⟨#[]⟩, .int .i64 (-1)]
  | some (o, n) => .tuple #[.string ⟨o.toArray⟩, .int .i64 (n : Int)]
theorem up2_w {j n : Nat} (h : j + 1 < n) (hw : wrap64 (((j + 1 : Nat) : Int) + 1) = ((j + 2 : Nat) : Int)) : n - (intOf (.int .i64 (wrap64 (((j + 1 : Nat) : Int) + 1)))).toNat < n - (intOf (.int .i64 (j : Int))).toNat := by
  rw [hw]
  simp only [intOf]
  clear hw
  omega
theorem up2_n {j n : Nat} (h : j + 1 < n) : n - (intOf (.int .i64 ((j : Int) + 1 + 1))).toNat < n - (intOf (.int .i64 (j : Int))).toNat := by
  simp only [intOf]
  omega
theorem up2_m {j n : Nat} (h : j + 1 < n) : n - (intOf (.int .i64 ((j + 2 : Nat) : Int))).toNat < n - (intOf (.int .i64 (j : Int))).toNat := by
  simp only [intOf]
  omega
set_option maxRecDepth 100000 in
set_option maxHeartbeats 8000000 in
theorem text_any (s : ByteArray) (w : World) (hs : s.size ≤ 1000000) :
    Calls Tryd.prog 29 #[.string s] w fun e w' => e = .returned (textV (textL (bl s))) ∧ Below w.heap.size w w' := by
  have hlen : (bl s).length = s.size := bl_length s
  have HLEN := Lib.hid hlen; clear hlen
  go_enter Tryd.func29, Tryd.ntmps29
  go_wp2
  go_loopw [4, 5] (fun v u wr => ∃ (i : Nat) (o : List UInt8), u = .int .i64 i ∧ i ≤ s.size ∧ Hid (Byt wr w.heap.size v o) ∧ Hid (o.length ≤ i) ∧ Hid (textL (bl s) = (textL ((bl s).drop i)).map (fun p => (o ++ p.1, i + p.2))) ∧ Hid (Below w.heap.size w wr)) (fun _ u _ => s.size - (intOf u).toNat)
  case atStart => exact ⟨0, [], rfl, Nat.zero_le _, Lib.hid (Byt.none_ _ _), Lib.hid (Nat.le_refl _), Lib.hid (by simp), Lib.hid (Below.refl _ _)⟩
  case round =>
    obtain ⟨i, o, rfl, hi, HO, HOL, HT, HB⟩ := hrel
    by_cases hlt : i < s.size
    · have y1 : decide ((i : Int) < (s.size : Int)) = true := decide_eq_true (by omega)
      have hd : (bl s).drop i = (bl s)[i]'(by rw [HLEN.out]; exact hlt) :: (bl s).drop (i + 1) := List.drop_eq_getElem_cons _
      obtain ⟨b, hbx⟩ : ∃ b, s[i]'hlt = b := ⟨_, rfl⟩
      rw [show (bl s)[i]'(by rw [HLEN.out]; exact hlt) = b from hbx] at hd
      have hxx : ∀ h : i < s.size, s[i]'h = b := fun _ => hbx
      clear hbx
      have HD := Lib.hid hd; clear hd
      have hw := succ_w' hlt (show s.size ≤ 140737488351232 by omega)
      have hol : o.length + 1 ≤ 140737488355328 := by have := HOL.out; clear hw; omega
      have HLT := Lib.hid hlt
      by_cases hb : b = 0
      · have z1 : ((b.toNat : Int) == 0) = true := by rw [hb]; rfl
        have z2 : ((b.toNat : Int) != 0) = false := by rw [hb]; rfl
        have HT0 := Lib.hid (show textL (bl s) = (textL (0 :: (bl s).drop (i + 1))).map (fun p => (o ++ p.1, i + p.2)) by rw [HT.out, HD.out, hb])
        clear hb HT HD
        by_cases hl2 : i + 1 < s.size
        · have y2 : decide (((i + 1 : Nat) : Int) < (s.size : Int)) = true := decide_eq_true (by omega)
          have y2b : decide ((i : Int) + 1 < (s.size : Int)) = true := decide_eq_true (by omega)
          have y3 : decide ((s.size : Int) ≤ ((i + 1 : Nat) : Int)) = false := decide_eq_false (by omega)
          have y3b : decide ((s.size : Int) ≤ (i : Int) + 1) = false := decide_eq_false (by omega)
          have hd : (bl s).drop (i + 1) = (bl s)[i + 1]'(by rw [HLEN.out]; exact hl2) :: (bl s).drop (i + 2) := List.drop_eq_getElem_cons _
          obtain ⟨c, hcx⟩ : ∃ c, s[i + 1]'hl2 = c := ⟨_, rfl⟩
          rw [show (bl s)[i + 1]'(by rw [HLEN.out]; exact hl2) = c from hcx] at hd
          have hyy : ∀ h : i + 1 < s.size, s[i + 1]'h = c := fun _ => hcx
          clear hcx
          have HT1 := Lib.hid (show textL (bl s) = (textL (0 :: c :: (bl s).drop (i + 2))).map (fun p => (o ++ p.1, i + p.2)) by rw [HT0.out, hd])
          clear hd HT0
          have hw2 : wrap64 (((i + 1 : Nat) : Int) + 1) = ((i + 2 : Nat) : Int) := succ_w' hl2 (show s.size ≤ 140737488351232 by clear hw; omega)
          have HL2 := Lib.hid hl2
          by_cases hc : c = 0
          · have z3 : ((c.toNat : Int) == 0) = true := by rw [hc]; rfl
            have HF := Lib.hid (show textL (bl s) = some (o, i + 2) by rw [HT1.out, hc, textL_end]; simp)
            have hcv := HO.out.conv
            clear hc
            go_wp2
            go_ret2
            rw [HF.out]
            exact ⟨rfl, HB.out⟩
          · have z3 : ((c.toNat : Int) == 0) = false := by simp; intro h; exact hc (UInt8.toNat_inj.1 h)
            by_cases hc2 : c = 255
            · have z4 : ((c.toNat : Int) == 255) = true := by rw [hc2]; rfl
              have z5 : ((c.toNat : Int) != 255) = false := by rw [hc2]; rfl
              have HF := Lib.hid (show textL (bl s) = (textL ((bl s).drop (i + 2))).map (fun p => ((o ++ [0]) ++ p.1, (i + 2) + p.2)) by
                rw [HT1.out, hc2, textL_nul, Option.map_map]
                congr 1
                funext p
                simp only [Function.comp, List.append_assoc, List.singleton_append]
                congr 1
                omega)
              clear hc hc2
              go_wp2_with (at_builtin; refine app_byteK (w0 := w) w.heap.size rfl (.tmp 50) (.tmp 51) _ o 0 rfl rfl rfl HO.out HB.out HB.out.size hol ?_; intro v1 w1 HO1 HB1)
              go_roundw
              case rel => exact ⟨i + 2, o ++ [0], by go_num, HL2.out, HO1, Lib.hid (by have := HOL.out; rw [List.length_append, List.length_singleton]; clear hw hw2; omega), HF, HB1⟩
              case measure => first | exact up2_w HL2.out hw2 | exact up2_n HL2.out | exact up2_m HL2.out
            · have z4 : ((c.toNat : Int) == 255) = false := by simp; intro h; exact hc2 (UInt8.toNat_inj.1 (by show c.toNat = 255; omega))
              have z5 : ((c.toNat : Int) != 255) = true := by simp; intro h; exact hc2 (UInt8.toNat_inj.1 (by show c.toNat = 255; omega))
              have HF := Lib.hid (show textL (bl s) = none by rw [HT1.out, textL_bad hc hc2]; rfl)
              clear hc hc2
              go_wp2
              go_ret2
              rw [HF.out]
              exact ⟨rfl, HB.out⟩
        · have y2 : decide (((i + 1 : Nat) : Int) < (s.size : Int)) = false := decide_eq_false (by omega)
          have y2b : decide ((i : Int) + 1 < (s.size : Int)) = false := decide_eq_false (by omega)
          have y3 : decide ((s.size : Int) ≤ ((i + 1 : Nat) : Int)) = true := decide_eq_true (by omega)
          have y3b : decide ((s.size : Int) ≤ (i : Int) + 1) = true := decide_eq_true (by omega)
          have HF := Lib.hid (show textL (bl s) = none by rw [HT0.out, List.drop_eq_nil_of_le (by rw [HLEN.out]; clear hw; omega)]; rfl)
          clear hl2
          go_wp2
          go_ret2
          rw [HF.out]
          exact ⟨rfl, HB.out⟩
      · have z1 : ((b.toNat : Int) == 0) = false := by simp; intro h; exact hb (UInt8.toNat_inj.1 h)
        have z2 : ((b.toNat : Int) != 0) = true := by simp; intro h; exact hb (UInt8.toNat_inj.1 h)
        have HF := Lib.hid (show textL (bl s) = (textL ((bl s).drop (i + 1))).map (fun p => ((o ++ [b]) ++ p.1, (i + 1) + p.2)) by
          rw [HT.out, HD.out, textL_ne hb, Option.map_map]
          congr 1
          funext p
          simp only [Function.comp, List.append_assoc, List.singleton_append]
          congr 1
          omega)
        clear hb
        go_wp2_with (at_builtin; refine app_byteK (w0 := w) w.heap.size rfl (.tmp 16) (.tmp 20) _ o b rfl rfl rfl HO.out HB.out HB.out.size hol ?_; intro v1 w1 HO1 HB1)
        go_roundw
        case rel => exact ⟨i + 1, o ++ [b], by go_num, HLT.out, HO1, Lib.hid (by have := HOL.out; rw [List.length_append, List.length_singleton]; clear hw; omega), HF, HB1⟩
        case measure => first | exact kup_w HLT.out hw | exact kup_n HLT.out
    · obtain rfl : i = s.size := by omega
      have HF := Lib.hid (show textL (bl s) = none by rw [HT.out, List.drop_eq_nil_of_le (by rw [HLEN.out]; exact Nat.le_refl _)]; rfl)
      go_wp2
      go_ret2
      rw [HF.out]
      exact ⟨rfl, HB.out⟩
end Go.Proofs.YtbbjnnbabikefaaDoor.My
