/- lz: what is packed means the bytes. -/
import Derived.Test.YthooihkkghfhkaaLzSpec2
import Derived.Test.YthooihkkghfhkaaCode
import Derived.Test.YthooihkkghfhkaaByt
namespace Go.Proofs.Ythooihkkghfhkaa.My
set_option linter.unusedSimpArgs false
set_option linter.unusedVariables false
open Go.RowKit Go.Proofs.YthooihkkghfhkaaW.PrintWords Go.Proofs.YthooihkkghfhkaaW.PrintLast Go.Proofs.Ythooihkkghfhkaa.Pm

def PQ (n : Nat) (r : ByteArray) (o : List UInt8) : Option (ByteArray × List UInt8) := (lzPlain n r o).bind fun p => lzTail n p.1 p.2
theorem lq_assoc (a b c : ByteArray) : a ++ b ++ c = a ++ (b ++ c) := by apply bl_ext; simp only [bl_append, List.append_assoc]
theorem lq_nil (a : ByteArray) : a ++ ⟨#[]⟩ = a := by apply bl_ext; rw [bl_append, bl_empty, List.append_nil]
theorem lq_none (a : ByteArray) : (⟨#[]⟩ : ByteArray) ++ a = a := by apply bl_ext; rw [bl_append, bl_empty, List.nil_append]
theorem lzPlain_text (n : Nat) (t r : ByteArray) (o : List UInt8) (ht : t.size < 18446744073709551616) (hn : o.length + t.size ≤ n) : lzPlain n (textS t ++ r) o = some (r, o ++ bl t) := by
  unfold lzPlain
  rw [curText_app t r ht]
  simp only
  rw [if_neg (by rintro (h | h); exact absurd h (by decide); omega)]
theorem lzCopy_uints (n d l : Nat) (r : ByteArray) (o : List UInt8) (hd : d < 18446744073709551616) (hl : l < 18446744073709551616) (h1 : 1 ≤ d) (h2 : d ≤ o.length) (h3 : 4 ≤ l) (h4 : o.length + l ≤ n) :
    lzCopy n (uvS d ++ (uvS l ++ r)) o = some (r, lzCopies o d l) := by
  unfold lzCopy cur2
  rw [curUint_ub d _ hd]
  simp only
  rw [curUint_ub l _ hl]
  simp only
  rw [if_neg (by rintro (h | h | h | h | h); exact absurd h (by decide); omega; omega; omega; omega)]
theorem lzCopies_take (S : List UInt8) (i d : Nat) (hd1 : 1 ≤ d) (hdi : d ≤ i) : ∀ l, i + l ≤ S.length → (∀ j, j < l → S[i + j]? = S[i + j - d]?) → lzCopies (S.take i) d l = S.take (i + l)
  | 0, _, _ => rfl
  | l + 1, h, hm => by
    rw [lzCopies, lzCopies_take S i d hd1 hdi l (by omega) (fun j hj => hm j (by omega))]
    rw [show i + (l + 1) = (i + l) + 1 by omega, List.take_succ_eq_append_getElem (by omega)]
    congr 2
    have e := hm l (by omega)
    rw [List.getElem?_eq_getElem (by omega), List.getElem?_eq_getElem (by omega)] at e
    simp only [Option.some.injEq] at e
    rw [e, List.length_take, Nat.min_eq_left (by omega), List.getD_eq_getElem?_getD, List.getElem?_take, if_pos (by omega), List.getElem?_eq_getElem (by omega), Option.getD_some]
theorem take_mid (S : List UInt8) (pl i : Nat) (h : pl ≤ i) : S.take pl ++ (S.take i).drop pl = S.take i := by
  conv => rhs; rw [← List.take_append_drop pl (S.take i)]
  rw [List.take_take, Nat.min_eq_left h]
theorem pack_step (s T : ByteArray) (pl i d l : Nat) (hn : s.size ≤ 60000) (hpl : pl ≤ i) (hi : i < s.size) (hd1 : 1 ≤ d) (hdi : d ≤ i) (hl : 4 ≤ l) (hil : i + l ≤ s.size) (hm : ∀ j, j < l → (bl s)[i + j]? = (bl s)[i + j - d]?) :
    PQ s.size (textS (s.extract pl i) ++ ((uvS d ++ uvS l) ++ T)) ((bl s).take pl) = if i + l < s.size then PQ s.size T ((bl s).take (i + l)) else some (T, (bl s).take (i + l)) := by
  have hbl := bl_length s
  unfold PQ
  have hts : (s.extract pl i).size = i - pl := by rw [ByteArray.size_extract]; omega
  have htk : ((bl s).take pl).length = pl := by rw [List.length_take]; omega
  rw [lzPlain_text s.size (s.extract pl i) _ _ (by omega) (by omega)]
  simp only [Option.bind_some]
  rw [bl_extract, take_mid (bl s) pl i hpl, lq_assoc]
  have hti : ((bl s).take i).length = i := by rw [List.length_take]; omega
  have hc := lzCopy_uints s.size d l T ((bl s).take i) (by omega) (by omega) hd1 (by omega) hl (by omega)
  rw [lzCopies_take (bl s) i d hd1 hdi l (by omega) hm] at hc
  have htl : ((bl s).take (i + l)).length = i + l := by rw [List.length_take]; omega
  by_cases hlt : i + l < s.size
  · rw [if_pos hlt, lzTail_more (by omega) hc (by omega)]
  · rw [if_neg hlt, lzTail_full (by omega) hc (by omega)]
/-- The out's bytes so far, up to a place. -/
def PInv (s : ByteArray) (o : List UInt8) (pl : Nat) : Prop :=
  pl ≤ s.size ∧ o.length ≤ 31 * pl ∧ ∀ T, PQ s.size (⟨o.toArray⟩ ++ T) [] = if pl < s.size then PQ s.size T ((bl s).take pl) else some (T, (bl s).take pl)
theorem PInv.start (s : ByteArray) (h : 0 < s.size) : PInv s [] 0 := ⟨Nat.zero_le _, Nat.zero_le _, fun T => by rw [if_pos h, show (⟨([] : List UInt8).toArray⟩ : ByteArray) = ⟨#[]⟩ from rfl, lq_none]; rfl⟩
theorem of_app (a b : List UInt8) : (⟨(a ++ b).toArray⟩ : ByteArray) = ⟨a.toArray⟩ ++ ⟨b.toArray⟩ := by apply bl_ext; rw [bl_append]
theorem of_bl (a : ByteArray) : (⟨(bl a).toArray⟩ : ByteArray) = a := by apply bl_ext; simp [bl]
theorem PInv.step {s : ByteArray} {o : List UInt8} {pl : Nat} (h : PInv s o pl) (i d l : Nat) (hn : s.size ≤ 60000) (hpl : pl ≤ i) (hi : i < s.size) (hd1 : 1 ≤ d) (hdi : d ≤ i) (hl : 4 ≤ l) (hil : i + l ≤ s.size) (hm : ∀ j, j < l → (bl s)[i + j]? = (bl s)[i + j - d]?) :
    PInv s (o ++ bl (textS (s.extract pl i)) ++ bl (uvS d ++ uvS l)) (i + l) := by
  obtain ⟨h1, h2, h3⟩ := h
  refine ⟨hil, ?_, fun T => ?_⟩
  · have a1 : (uvS d).size ≤ 10 := by rw [uvS_size]; exact uv_len10 (by omega)
    have a2 : (uvS l).size ≤ 10 := by rw [uvS_size]; exact uv_len10 (by omega)
    have a3 : (textS (s.extract pl i)).size ≤ i - pl + 10 := by
      unfold textS
      have hts : (s.extract pl i).size = i - pl := by rw [ByteArray.size_extract]; omega
      rw [ByteArray.size_append, hts, uvS_size]
      have := uv_len10 (n := i - pl) (by omega)
      omega
    rw [List.length_append, List.length_append, bl_length, bl_length, ByteArray.size_append]
    omega
  · rw [of_app, of_app, of_bl, of_bl, lq_assoc, lq_assoc, h3, if_pos (by omega), pack_step s T pl i d l hn hpl hi hd1 hdi hl hil hm]
theorem PInv.last {s : ByteArray} {o : List UInt8} {pl : Nat} (h : PInv s o pl) (hn : s.size ≤ 60000) (hlt : pl < s.size) : lzAll s.size ⟨(o ++ bl (textS (s.extract pl s.size))).toArray⟩ = some (⟨#[]⟩, bl s) := by
  have hbl := bl_length s
  show PQ s.size _ [] = _
  rw [of_app, of_bl, h.2.2, if_pos hlt]
  unfold PQ
  have hts : (s.extract pl s.size).size = s.size - pl := by rw [ByteArray.size_extract]; omega
  have htk : ((bl s).take pl).length = pl := by rw [List.length_take]; omega
  have hl := lzPlain_text s.size (s.extract pl s.size) ⟨#[]⟩ ((bl s).take pl) (by omega) (by omega)
  rw [lq_nil] at hl
  rw [hl]
  simp only [Option.bind_some]
  rw [bl_extract, take_mid (bl s) pl s.size (by omega), List.take_of_length_le (by omega), lzTail_end (by omega)]
theorem PInv.full {s : ByteArray} {o : List UInt8} {pl : Nat} (h : PInv s o pl) (hlt : ¬ pl < s.size) : lzAll s.size ⟨o.toArray⟩ = some (⟨#[]⟩, bl s) := by
  have hbl := bl_length s
  show PQ s.size _ [] = _
  have e := h.2.2 ⟨#[]⟩
  rw [lq_nil, if_neg hlt, List.take_of_length_le (by omega)] at e
  exact e
theorem pack_parts {s r : ByteArray} (hn : s.size ≤ 60000) (h : lzAll s.size r = some (⟨#[]⟩, bl s)) : lzUn (uvS s.size ++ ⟨#[1]⟩ ++ r) = (s, 0) := by
  unfold lzUn curHow
  rw [lq_assoc, curUint_ub s.size _ (by omega)]
  simp only
  rw [if_neg (by omega), curBytes_app (⟨#[1]⟩ : ByteArray) r 1 rfl]
  simp only [Bool.false_eq_true, if_false]
  rw [if_neg (by decide), if_neg (by decide), h]
  simp only
  rw [if_pos (show (⟨#[]⟩ : ByteArray).size = 0 from rfl), of_bl]
theorem pack_stored {s : ByteArray} (hn : s.size ≤ 60000) : lzUn (uvS s.size ++ ⟨#[0]⟩ ++ s) = (s, 0) := by
  unfold lzUn curHow
  rw [lq_assoc, curUint_ub s.size _ (by omega)]
  simp only
  rw [if_neg (by omega), curBytes_app (⟨#[0]⟩ : ByteArray) s 1 rfl]
  simp only [Bool.false_eq_true, if_false]
  rw [if_pos (by decide), if_pos trivial]
theorem uv_len3 {n : Nat} (h : n ≤ 60000) : (uvS n).size ≤ 3 := by rw [uvS_size]; exact uv_len n 2 (Nat.lt_of_le_of_lt h (by decide))
end Go.Proofs.Ythooihkkghfhkaa.My
