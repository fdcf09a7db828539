/- msg.reader: one, int, gone. -/
import Derived.Test.YtemhmgpihkemjaaCurU
import Derived.Test.YtemhmgpihkemjaaCode
import Derived.Test.YtemhmgpihkemjaaPrim
namespace Go.Proofs.Ytemhmgpihkemjaa.My
set_option linter.unusedSimpArgs false
set_option linter.unusedVariables false
open Go.RowKit Go.Proofs.YtemhmgpihkemjaaW.PrintWords Go.Proofs.YtemhmgpihkemjaaW.PrintLast Go.Proofs.Ytemhmgpihkemjaa.Pm

theorem tl_loop (s : ByteArray) : ∀ (k i : Nat) (r : List UInt8), s.size - i = k → ByteArray.toList.loop s i r = r.reverse ++ (bl s).drop i := by
  intro k
  induction k with
  | zero => intro i r h; unfold ByteArray.toList.loop; rw [if_neg (by omega), List.drop_eq_nil_of_le (by rw [bl_length]; omega), List.append_nil]
  | succ k ih =>
    intro i r h
    unfold ByteArray.toList.loop
    rw [if_pos (by omega), ih (i + 1) _ (by omega), List.reverse_cons, List.append_assoc]
    congr 1
    have hi : i < (bl s).length := by rw [bl_length]; omega
    rw [List.drop_eq_getElem_cons hi]
    rw [List.singleton_append]
    congr 1
    obtain ⟨d⟩ := s
    show d[i]! = d.toList[i]'hi
    rw [getElem!_pos d i (by simpa [bl] using hi)]
    simp
/-- A string's bytes, in both spellings. -/
theorem tl (s : ByteArray) : s.toList = bl s := by
  unfold ByteArray.toList
  rw [tl_loop s s.size 0 [] rfl]
  rfl
/-- A reader of messages, in block g: its twenty cells. -/
def IsMR (w : World) (g : Nat) (cs : Array Value) : Prop := w.heap[g]? = some (.cells cs 66 (0, 0)) ∧ cs.size = 20
theorem IsMR.cell {w : World} {g i : Nat} {cs : Array Value} {v : Value} (h : IsMR w g cs) (hv : cs[i]? = some v) : w.cell? ⟨g, i, none⟩ = some v := (blk_cell h.1 i).trans hv
theorem IsMR.set {w : World} {g : Nat} {cs : Array Value} (h : IsMR w g cs) (i : Nat) (v : Value) : IsMR (w.setCell ⟨g, i, none⟩ v) g (cs.setIfInBounds i v) := ⟨blk_set h.1 i v, by rw [Array.size_setIfInBounds]; exact h.2⟩
theorem IsMR.kept {S : Nat → Prop} {w w' : World} {g : Nat} {cs : Array Value} (h : IsMR w g cs) (hk : Keeps S w w') (hn : ¬ S g) : IsMR w' g cs := ⟨hk.blk h.1 hn, h.2⟩
theorem IsMR.below {w w' : World} {g : Nat} {cs : Array Value} (h : IsMR w g cs) (hb : Below w.heap.size w w') : IsMR w' g cs := ⟨blk_below h.1 hb, h.2⟩
theorem IsMR.lt {w : World} {g : Nat} {cs : Array Value} (h : IsMR w g cs) : g < w.heap.size := blk_lt h.1
theorem IsMR.f {w : World} {g : Nat} {cs : Array Value} (h : IsMR w g cs) (i : Nat) : w.frozen? ⟨g, i, none⟩ = false := blk_frozen h.1 i
/-- One number, that is all of it. -/
def oneD (s : ByteArray) : Bool := !(curUint s false).2.2 && (curUint s false).2.1.toList.isEmpty
set_option maxRecDepth 100000 in
set_option maxHeartbeats 4000000 in
theorem rd_one (g : Nat) (cs : Array Value) (s : ByteArray) (bad : Bool) (w : World) (hR : IsMR w g cs) (h19 : cs[19]? = some (.bool bad)) (hs : s.size ≤ 140737488355328) :
    Calls Try.prog 45 #[.pointer (some ⟨g, 0, none⟩), .string s] w fun e w' => e = .returned (.int .u64 ((curUint s false).1 : Nat)) ∧ IsMR w' g (cs.setIfInBounds 19 (.bool (bad || !oneD s))) ∧ Keeps (Only g) w w' := by
  have HR := Lib.hid hR; clear hR
  have H19 := Lib.hid h19; clear h19
  obtain ⟨⟨n, s1, b1⟩, hu⟩ : ∃ u, curUint s false = u := ⟨_, rfl⟩
  obtain ⟨d, hd⟩ : ∃ d, (!b1 && s1.toList.isEmpty) = d := ⟨_, rfl⟩
  have HO := Lib.hid (show oneD s = d by unfold oneD; rw [hu]; exact hd)
  have HU := Lib.hid (fun W g' (hc : IsCur W g' s false) => cur_uint_ok s g' W hc hs)
  have HD := Lib.hid (fun W g' (hc : IsCur W g' s1 b1) => cur_done s1 b1 g' W hc)
  simp only [hu] at HU
  simp only [hd] at HD
  rw [hu]
  clear hu hd hs
  have HN := Lib.hid (cur_made s w)
  have HG := Lib.hid HR.out.lt
  go_enter Try.func45, Try.ntmps45
  go_wp2_with fail
  refine HN.out.mono ?_
  rintro e w1 ⟨gc, rfl, hgc, hc, hb⟩
  have HNE := Lib.hid (show g ≠ gc by have := HG.out; omega)
  have HGC := Lib.hid hgc; clear hgc
  have HK := Lib.hid (Keeps.of_below (Only g) hb)
  replace HR := Lib.hid (HR.out.below hb); clear hb
  go_wp2_with fail
  refine (HU.out _ _ hc).mono ?_
  rintro e w2 ⟨rfl, hc2, hk⟩
  clear hc
  replace HR := Lib.hid (HR.out.kept hk HNE.out)
  replace HK := Lib.hid (HK.out.then_ hk (fun i hi => .inr (by have hi : i = gc := hi; rw [hi]; exact HGC.out))); clear hk
  have HC := Lib.hid hc2; clear hc2
  have c19 : w2.cell? ⟨g, 19, none⟩ = some (.bool bad) := HR.out.cell H19.out
  have f19 := HR.out.f 19
  have hg2 := HR.out.lt
  cases bad with
  | true =>
    go_wp2
    go_ret
    exact ⟨rfl, HR.out.set 19 _, HK.out.own 19 _⟩
  | false =>
    go_wp2_with fail
    refine (HD.out _ _ HC.out).mono ?_
    rintro e w3 ⟨rfl, rfl⟩
    go_wp2
    go_ret
    rw [HO.out]
    exact ⟨rfl, HR.out.set 19 _, HK.out.own 19 _⟩
theorem and31 (n : Nat) (h : n < 18446744073709551616) : Go.bits .and .u64 (n : Int) 2147483647 = ((n % 2147483648 : Nat) : Int) := by
  have := u64_and_nat n 2147483647 h (by omega)
  rw [show (2147483647 : Nat) = 2 ^ 31 - 1 from rfl, Nat.and_two_pow_sub_one_eq_mod] at this
  exact this
set_option maxRecDepth 100000 in
set_option maxHeartbeats 4000000 in
theorem rd_int (g : Nat) (cs : Array Value) (n : Nat) (bad : Bool) (w : World) (hR : IsMR w g cs) (h19 : cs[19]? = some (.bool bad)) (hn : n < 18446744073709551616) :
    Calls Try.prog 27 #[.pointer (some ⟨g, 0, none⟩), .int .u64 (n : Int)] w fun e w' => e = .returned (.int .i64 ((n % 2147483648 : Nat) : Int)) ∧ IsMR w' g (cs.setIfInBounds 19 (.bool (bad || decide (2147483647 < n)))) ∧ Keeps (Only g) w w' := by
  have HR := Lib.hid hR; clear hR
  have c19 : w.cell? ⟨g, 19, none⟩ = some (.bool bad) := HR.out.cell h19
  have f19 := HR.out.f 19
  have hg2 := HR.out.lt
  have ha := and31 n hn
  have hb2 : wrap64 ((n % 2147483648 : Nat) : Int) = ((n % 2147483648 : Nat) : Int) := wrap64_id (by omega) (by omega)
  have hb : IntKind.i64.wrap ((n % 2147483648 : Nat) : Int) = ((n % 2147483648 : Nat) : Int) := by simp only [IntKind.wrap_i64]; omega
  obtain ⟨m, hm⟩ : ∃ m, n % 2147483648 = m := ⟨_, rfl⟩
  rw [hm] at ha hb hb2 ⊢
  have x1 : decide ((2147483647 : Int) < (n : Int)) = decide (2147483647 < n) := by simp; omega
  obtain ⟨d, hd⟩ : ∃ d, decide (2147483647 < n) = d := ⟨_, rfl⟩
  rw [hd] at x1 ⊢
  clear hn hm h19
  go_enter Try.func27, Try.ntmps27
  cases bad with
  | true =>
    go_wp2
    go_ret
    exact ⟨rfl, HR.out.set 19 _, (Keeps.refl _ _).own 19 _⟩
  | false =>
    go_wp2
    go_ret
    exact ⟨rfl, HR.out.set 19 _, (Keeps.refl _ _).own 19 _⟩
def Two2 (g h : Nat) : Nat → Prop := fun k => k = g ∨ k = h
set_option maxRecDepth 100000 in
set_option maxHeartbeats 4000000 in
theorem rd_gone (g gc : Nat) (cs : Array Value) (s : ByteArray) (b bad : Bool) (w : World) (hR : IsMR w g cs) (h19 : cs[19]? = some (.bool bad)) (hc : IsCur w gc s b) :
    Calls Try.prog 58 #[.pointer (some ⟨g, 0, none⟩), .pointer (some ⟨gc, 0, none⟩)] w fun e w' => e = .returned (.bool (decide (bl (curBytes s b 1).1 = [1]))) ∧ IsMR w' g (cs.setIfInBounds 19 (.bool (bad || !(decide (bl (curBytes s b 1).1 = [0]) || decide (bl (curBytes s b 1).1 = [1]))))) ∧ IsCur w' gc (curBytes s b 1).2.1 (curBytes s b 1).2.2 ∧ Keeps (Two2 g gc) w w' := by
  have HNE := Lib.hid (show g ≠ gc by
    intro e
    have h1 := hR.1
    rw [e, hc] at h1
    injection h1 with h1
    injection h1 with _ h1 _
    exact absurd h1 (by decide))
  have HR := Lib.hid hR; clear hR
  have H19 := Lib.hid h19; clear h19
  have HC := Lib.hid (cur_bytes s b 1 gc w hc); clear hc
  obtain ⟨⟨y, s1, b1⟩, hu⟩ : ∃ u, curBytes s b 1 = u := ⟨_, rfl⟩
  rw [hu] at HC ⊢
  clear hu
  go_enter Try.func58, Try.ntmps58
  go_wp2_with fail
  refine HC.out.mono ?_
  rintro e w1 ⟨rfl, hc, hk⟩
  replace HC := Lib.hid hc; clear hc
  replace HR := Lib.hid (HR.out.kept hk HNE.out)
  have HK := Lib.hid (hk.mono (S' := Two2 g gc) (fun i hi => .inr hi)); clear hk
  have c19 : w1.cell? ⟨g, 19, none⟩ = some (.bool bad) := HR.out.cell H19.out
  have f19 := HR.out.f 19
  have hg2 := HR.out.lt
  have hty := tl y
  by_cases e1 : bl y = [1]
  · have x1 : (y.toList == [1]) = true := by rw [hty, e1]; rfl
    have x0 : (y.toList == [0]) = false := by rw [hty, e1]; rfl
    have HE := Lib.hid e1; clear e1 hty
    cases bad with
    | true =>
      go_wp2
      go_ret
      rw [HE.out]
      exact ⟨rfl, HR.out.set 19 _, HC.out.kept ((Keeps.refl (Only g) _).own 19 _) (fun e => HNE.out e.symm), HK.out.set (p := ⟨g, 19, none⟩) (.inl (.inl rfl)) _⟩
    | false =>
      go_wp2
      go_ret
      rw [HE.out]
      exact ⟨rfl, HR.out.set 19 _, HC.out.kept ((Keeps.refl (Only g) _).own 19 _) (fun e => HNE.out e.symm), HK.out.set (p := ⟨g, 19, none⟩) (.inl (.inl rfl)) _⟩
  · have x1 : (y.toList == [1]) = false := by rw [hty]; simpa using e1
    by_cases e0 : bl y = [0]
    · have x0 : (y.toList == [0]) = true := by rw [hty, e0]; rfl
      have HE := Lib.hid e0; clear e0 e1 hty
      cases bad with
      | true =>
        go_wp2
        go_ret
        rw [HE.out]
        exact ⟨rfl, HR.out.set 19 _, HC.out.kept ((Keeps.refl (Only g) _).own 19 _) (fun e => HNE.out e.symm), HK.out.set (p := ⟨g, 19, none⟩) (.inl (.inl rfl)) _⟩
      | false =>
        go_wp2
        go_ret
        rw [HE.out]
        exact ⟨rfl, HR.out.set 19 _, HC.out.kept ((Keeps.refl (Only g) _).own 19 _) (fun e => HNE.out e.symm), HK.out.set (p := ⟨g, 19, none⟩) (.inl (.inl rfl)) _⟩
    · have x0 : (y.toList == [0]) = false := by rw [hty]; simpa using e0
      have HE0 := Lib.hid e0; have HE1 := Lib.hid e1; clear e0 e1 hty
      cases bad with
      | true =>
        go_wp2
        go_ret
        rw [decide_eq_false HE0.out, decide_eq_false HE1.out]
        exact ⟨rfl, HR.out.set 19 _, HC.out.kept ((Keeps.refl (Only g) _).own 19 _) (fun e => HNE.out e.symm), HK.out.set (p := ⟨g, 19, none⟩) (.inl (.inl rfl)) _⟩
      | false =>
        go_wp2
        go_ret
        rw [decide_eq_false HE0.out, decide_eq_false HE1.out]
        exact ⟨rfl, HR.out.set 19 _, HC.out.kept ((Keeps.refl (Only g) _).own 19 _) (fun e => HNE.out e.symm), HK.out.set (p := ⟨g, 19, none⟩) (.inl (.inl rfl)) _⟩
end Go.Proofs.Ytemhmgpihkemjaa.My
