/- msg.reader: writes. -/
import Derived.Test.YtemhmgpihkemjaaMrd4
import Derived.Test.YtemhmgpihkemjaaMsg
import Derived.Test.YtemhmgpihkemjaaAppR
namespace Go.Proofs.Ytemhmgpihkemjaa.My
set_option linter.unusedSimpArgs false
set_option linter.unusedVariables false
open Go.RowKit Go.Proofs.YtemhmgpihkemjaaW.PrintWords Go.Proofs.YtemhmgpihkemjaaW.PrintLast Go.Proofs.Ytemhmgpihkemjaa.Pm

theorem wrC_len (p : WrT) : (wrC p).length = 3 := rfl
theorem wrC_one (p : WrT) : ∀ u ∈ wrC p, u.oneCell' = true := by
  intro u hu
  simp only [wrC, List.mem_cons, List.not_mem_nil, or_false] at hu
  rcases hu with rfl | rfl | rfl <;> rfl
theorem info_wr : (Try.prog.info? 56).map (fun i => (i.zero, i.size, i.bytes)) = some (some (.agg #[.string ⟨#[]⟩, .bool false, .string ⟨#[]⟩]), 3, 40) := by kernel_rfl
/-- So many writes taken: what they are, what is left, is the cursor bad, is the reader? -/
def wrsL : Nat → ByteArray → Bool → Bool → List WrT → List WrT × ByteArray × Bool × Bool
  | 0, s, cb, bad, ws => (ws, s, cb, bad)
  | k + 1, s, cb, bad, ws =>
    wrsL k (curText (curText (curBytes s cb 1).2.1 (curBytes s cb 1).2.2).2.1 (curText (curBytes s cb 1).2.1 (curBytes s cb 1).2.2).2.2).2.1
      (curText (curText (curBytes s cb 1).2.1 (curBytes s cb 1).2.2).2.1 (curText (curBytes s cb 1).2.1 (curBytes s cb 1).2.2).2.2).2.2
      (bad || flB (curBytes s cb 1).1)
      (ws ++ [((curText (curBytes s cb 1).2.1 (curBytes s cb 1).2.2).1, decide (bl (curBytes s cb 1).1 = [1]), (curText (curText (curBytes s cb 1).2.1 (curBytes s cb 1).2.2).2.1 (curText (curBytes s cb 1).2.1 (curBytes s cb 1).2.2).2.2).1)])
def wrsS (s : ByteArray) (bad : Bool) : List WrT × Bool :=
  ((wrsL (min (curUint s false).1 8) (curUint s false).2.1 (curUint s false).2.2 bad []).1,
   ((wrsL (min (curUint s false).1 8) (curUint s false).2.1 (curUint s false).2.2 bad []).2.2.2 || decide (8 < (curUint s false).1)) ||
    !(!(wrsL (min (curUint s false).1 8) (curUint s false).2.1 (curUint s false).2.2 bad []).2.2.1 && (wrsL (min (curUint s false).1 8) (curUint s false).2.1 (curUint s false).2.2 bad []).2.1.toList.isEmpty))
theorem curText_left (s : ByteArray) (b : Bool) : (curText s b).2.1.size ≤ s.size := by
  have h := curUint_size s b
  unfold curText
  split
  · exact Nat.le_refl _
  · split
    · exact h
    · unfold curBytes
      split
      · exact h
      · simp only [ByteArray.size_extract]; omega
theorem curBytes_left' (s : ByteArray) (b : Bool) (n : Int) : (curBytes s b n).2.1.size ≤ s.size := by
  unfold curBytes
  split
  · exact Nat.le_refl _
  · simp only [ByteArray.size_extract]; omega
/-- The reader with its writes' slice and its flag laid open. -/
def wsC (cs : Array Value) (A : Option Addr) (n c : Nat) (bad : Bool) : Array Value := (cs.setIfInBounds 13 (.slice A n c)).setIfInBounds 19 (.bool bad)
theorem wsC_bad (cs : Array Value) (A : Option Addr) (n c : Nat) (b b' : Bool) : (wsC cs A n c b).setIfInBounds 19 (.bool b') = wsC cs A n c b' := by
  unfold wsC
  rw [Array.setIfInBounds_setIfInBounds]
theorem wsC_ws (cs : Array Value) (A A' : Option Addr) (n c n' c' : Nat) (b : Bool) : (wsC cs A n c b).setIfInBounds 13 (.slice A' n' c') = wsC cs A' n' c' b := by
  unfold wsC
  rw [Array.setIfInBounds_comm _ _ (show (19 : Nat) ≠ 13 by decide), Array.setIfInBounds_setIfInBounds]
theorem wsC_same {cs : Array Value} {b : Bool} (h13 : cs[13]? = some (.slice none 0 0)) (h19 : cs[19]? = some (.bool b)) : wsC cs none 0 0 b = cs := by
  unfold wsC
  obtain ⟨l13, e13⟩ := Array.getElem?_eq_some_iff.1 h13
  obtain ⟨l19, e19⟩ := Array.getElem?_eq_some_iff.1 h19
  apply Array.ext
  · simp
  · intro i h1 h2
    rw [Array.getElem_setIfInBounds (by simpa using h2), Array.getElem_setIfInBounds h2]
    split
    · rename_i e; subst e; exact e19.symm
    · split
      · rename_i e; subst e; exact e13.symm
      · rfl
theorem wsC_13 {cs : Array Value} (h : cs.size = 20) (A : Option Addr) (n c : Nat) (b : Bool) : (wsC cs A n c b)[13]? = some (.slice A n c) := by
  unfold wsC
  rw [Array.getElem?_setIfInBounds_ne (by decide), Array.getElem?_setIfInBounds_self_of_lt (by omega)]
theorem wsC_19 {cs : Array Value} (h : cs.size = 20) (A : Option Addr) (n c : Nat) (b : Bool) : (wsC cs A n c b)[19]? = some (.bool b) := mr_get (by rw [Array.size_setIfInBounds]; exact h) _
theorem Keeps.grownX {S : Nat → Prop} {a b c : World} (h : Keeps S a b) {row : Option Nat} (hg : b.grownBy c row) (hs : ∀ k, row = some k → a.heap.size ≤ k) : Keeps S a c :=
  h.then_ (S' := fun k => row = some k) ⟨hg.os, hg.tape, hg.output, hg.size, fun k hk hn => hg.block k hk (fun e => hn e.symm)⟩ (fun k hk => .inr (hs k hk))
theorem OwnF.cur {α : Type} {w w1 : World} {base e n gc : Nat} {f : α → List Value} {v : Value} {l : List α} {s : ByteArray} {b : Bool} (h : OwnF w base e n f v l) (hc : IsCur w gc s b) (hne : e ≠ 80) (hk : Keeps (Only gc) w w1) : OwnF w1 base e n f v l := h.keep fun x hx hlt => hk.block x hlt (fun e' => by
  have e' : x = gc := e'
  subst e'
  exact h.ne_type hc hne hx)
theorem OwnF.mr {α : Type} {w w1 : World} {base e n g : Nat} {f : α → List Value} {v : Value} {l : List α} {cs : Array Value} (h : OwnF w base e n f v l) (hR : IsMR w g cs) (hne : e ≠ 66) (hk : Keeps (Only g) w w1) : OwnF w1 base e n f v l := h.keep fun x hx hlt => hk.block x hlt (fun e' => by
  have e' : x = g := e'
  subst e'
  exact h.ne_type hR.1 hne hx)
theorem IsMR.grown {w w1 : World} {g : Nat} {cs : Array Value} {row : Option Nat} (h : IsMR w g cs) (hg : w.grownBy w1 row) (hn : row ≠ Option.some g) : IsMR w1 g cs := ⟨(hg.block g h.lt (fun e => hn e.symm)).trans h.1, h.2⟩
theorem IsCur.grown {w w1 : World} {g : Nat} {s : ByteArray} {b : Bool} {row : Option Nat} (h : IsCur w g s b) (hg : w.grownBy w1 row) (hn : row ≠ Option.some g) : IsCur w1 g s b := (hg.block g h.lt (fun e => hn e.symm)).trans h
theorem IsCur.below {w w1 : World} {g : Nat} {s : ByteArray} {b : Bool} (h : IsCur w g s b) (hb : Below w.heap.size w w1) : IsCur w1 g s b := blk_below h hb
set_option maxRecDepth 100000 in
set_option maxHeartbeats 8000000 in
theorem rd_writes (g : Nat) (cs : Array Value) (s : ByteArray) (bad : Bool) (w : World) (hR : IsMR w g cs) (h13 : cs[13]? = some (.slice none 0 0)) (h19 : cs[19]? = some (.bool bad)) (hs : s.size ≤ 1000000) :
    Calls Try.prog 53 #[.pointer (some ⟨g, 0, none⟩), .string s] w fun e w' => ∃ A c, e = .returned (.tuple #[]) ∧ IsMR w' g (wsC cs A (wrsS s bad).1.length c (wrsS s bad).2) ∧ OwnF w' w.heap.size 56 3 wrC (.slice A (wrsS s bad).1.length c) (wrsS s bad).1 ∧ Keeps (Only g) w w' := by
  have HR := Lib.hid (show IsMR w g (wsC cs none 0 0 bad) by rw [wsC_same h13 h19]; exact hR)
  have h20 := hR.2
  clear hR h13 h19
  have H20 := Lib.hid h20; clear h20
  have HN := Lib.hid (cur_made s w)
  have HG := Lib.hid HR.out.lt
  have z1 := curUint_size s false
  have l1 := curUint_lt64 s false
  have HU1 := Lib.hid (fun W g' (hc : IsCur W g' s false) => cur_uint s false g' W hc (by omega))
  unfold wrsS
  obtain ⟨⟨n, s1, b1⟩, hu⟩ : ∃ u, curUint s false = u := ⟨_, rfl⟩
  simp only [hu] at HU1 z1 l1 ⊢
  clear hu
  obtain ⟨K, hK⟩ : ∃ K, min n 8 = K := ⟨_, rfl⟩
  have hK8 : K ≤ 8 := by omega
  have x0 : min (n : Int) 8 = (K : Int) := by omega
  have HSB := Lib.hid (show s1.size ≤ 1000000 by omega)
  rw [hK]
  obtain ⟨⟨wsF, sF, cbF, bF⟩, hF⟩ : ∃ r, wrsL K s1 b1 bad [] = r := ⟨_, rfl⟩
  have HF0 := Lib.hid hF
  simp only [hF]
  clear hF z1 hs hK
  go_enter Try.func53, Try.ntmps53
  go_wp2_with fail
  refine HN.out.mono ?_
  rintro e w1 ⟨gc, rfl, hgc, hc, hb⟩
  have HNE := Lib.hid (show g ≠ gc by have := HG.out; omega)
  have HGC := Lib.hid hgc; clear hgc
  have HK := Lib.hid (Keeps.of_below (Only g) hb)
  replace HR := Lib.hid (HR.out.below hb); clear hb
  have HC := Lib.hid hc; clear hc
  go_wp2_with fail
  refine (HU1.out _ _ HC.out).mono ?_
  rintro e w2 ⟨rfl, hc, hk⟩
  replace HR := Lib.hid (HR.out.kept hk HNE.out)
  replace HK := Lib.hid (HK.out.then_ hk (fun i hi => .inr (by have hi : i = gc := hi; rw [hi]; exact HGC.out))); clear hk
  replace HC := Lib.hid hc; clear hc
  clear HU1 HN
  have HO := Lib.hid (OwnF.nil w2 w.heap.size 56 3 wrC)
  rcases Nat.lt_or_ge 8 n with h8 | h8
  · have y8 : (8 : Int) < (n : Int) := by omega
    obtain rfl : K = 8 := by omega
    clear x0
    go_wp2
    go_loopw [13] (fun u wr => ∃ (i : Nat) (ws : List WrT) (A : Option Addr) (c : Nat) (s : ByteArray) (cb b : Bool), u = .int .u64 i ∧ i ≤ 8 ∧ IsMR wr g (wsC cs A ws.length c b) ∧ IsCur wr gc s cb ∧ OwnF wr w.heap.size 56 3 wrC (.slice A ws.length c) ws ∧ Keeps (Only g) w wr ∧ wrsL (8 - i) s cb b ws = (wsF, sF, cbF, bF) ∧ ws.length = i ∧ s.size ≤ 1000000) (fun u _ => 8 - (intOf u).toNat)
    case atStart => exact ⟨0, [], none, 0, s1, b1, bad, rfl, Nat.zero_le _, HR.out, HC.out, HO.out, HK.out, HF0.out, rfl, HSB.out⟩
    case round =>
      clear HR HC HO HK HF0 HSB
      obtain ⟨i, ws, A, c, s, cb, b, rfl, hi, hR, hC, hO, hK', hF, hwl, hsz⟩ := hrel
      have HR := Lib.hid hR; clear hR
      have HC := Lib.hid hC; clear hC
      have HO := Lib.hid hO; clear hO
      have HK := Lib.hid hK'; clear hK'
      have HF := Lib.hid hF; clear hF
      have HSZ := Lib.hid hsz; clear hsz
      by_cases hlt : i < 8
      · have hF := HF.out
        obtain ⟨kk, hkk⟩ : ∃ kk, 8 - i = kk + 1 := ⟨8 - i - 1, by omega⟩
        have hkk2 : 8 - (i + 1) = kk := by omega
        rw [hkk, wrsL, ← hkk2] at hF
        clear hkk hkk2 HF
        have HG1 := Lib.hid (fun W (hR : IsMR W g (wsC cs A ws.length c b)) (hc : IsCur W gc s cb) => rd_gone g gc (wsC cs A ws.length c b) s cb b W hR (wsC_19 H20.out ..) hc)
        have t1 := curBytes_left' s cb 1
        obtain ⟨⟨y, s2, cb2⟩, hu⟩ : ∃ u, curBytes s cb 1 = u := ⟨_, rfl⟩
        simp only [hu] at HG1 t1 hF
        clear hu
        have t2 := curText_left s2 cb2
        have HT1 := Lib.hid (fun W (hc : IsCur W gc s2 cb2) => cur_text s2 cb2 gc W hc (by have := HSZ.out; omega))
        obtain ⟨⟨k, s3, cb3⟩, hu⟩ : ∃ u, curText s2 cb2 = u := ⟨_, rfl⟩
        simp only [hu] at HT1 t2 hF
        clear hu
        have t3 := curText_left s3 cb3
        have HT2 := Lib.hid (fun W (hc : IsCur W gc s3 cb3) => cur_text s3 cb3 gc W hc (by have := HSZ.out; omega))
        obtain ⟨⟨v, s4, cb4⟩, hu⟩ : ∃ u, curText s3 cb3 = u := ⟨_, rfl⟩
        simp only [hu] at HT2 t3 hF
        clear hu
        obtain ⟨q, hq⟩ : ∃ q, (b || flB y) = q := ⟨_, rfl⟩
        have hq' : (b || !(decide (bl y = [0]) || decide (bl y = [1]))) = q := hq
        obtain ⟨gn, hgn⟩ : ∃ q, decide (bl y = [1]) = q := ⟨_, rfl⟩
        simp only [hq, hgn] at hF
        simp only [hq'] at HG1
        simp only [hgn, wsC_bad] at HG1
        clear hq hq' hgn
        have HF := Lib.hid hF; clear hF
        replace HSZ := Lib.hid (show s4.size ≤ 1000000 by have := HSZ.out; omega)
        clear t1 t2 t3
        have HLT := Lib.hid hlt
        have HWL := Lib.hid hwl
        have hwl8 : ws.length ≤ 8 := by omega
        have HW8 := Lib.hid hwl8
        obtain ⟨m, hm⟩ : ∃ m, ws.length = m := ⟨_, rfl⟩
        rw [hm] at HR HO HG1
        have HM := Lib.hid hm
        clear hm hwl hwl8
        have hw : IntKind.u64.wrap ((i : Int) + 1) = ((i + 1 : Nat) : Int) := wrap_u64_nat (x := i + 1) (by omega)
        have hw2 : ((i : Int) + 1) % 18446744073709551616 = (i : Int) + 1 := by omega
        go_wp2_with fail
        refine (HG1.out _ HR.out HC.out).mono ?_
        rintro e w3 ⟨rfl, hR, hc, hk⟩
        replace HO := Lib.hid (show OwnF w3 w.heap.size 56 3 wrC (.slice A m c) ws from HO.out.keep fun x hx hlt => hk.block x hlt (fun e' => by
          rcases e' with e' | e'
          · subst e'; exact HO.out.ne_type HR.out.1 (by decide) hx
          · subst e'; exact HO.out.ne_type HC.out (by decide) hx))
        replace HR := Lib.hid hR; clear hR
        replace HC := Lib.hid hc; clear hc
        replace HK := Lib.hid (HK.out.then_ hk (fun i hi => by
          rcases hi with rfl | rfl
          · exact .inl rfl
          · exact .inr HGC.out)); clear hk
        have c13 := HR.out.cell (wsC_13 H20.out A m c q)
        have hlen := HM.out
        go_wp2
        refine start_ (n := 18) (S := fun w' => w'.cell? ⟨g, 13, none⟩ = some (.slice A m c)) (ds := [17]) #[false, false, false, false, false, false, false, false, false, false, false, false, false, false, false, false, false, false] (by kernel_rfl) rfl rfl (c13) (fun hHeld => ?_)
        replace HO := Lib.hid (HO.out.below (below_drew (Below.refl _ _)))
        replace HR := Lib.hid (HR.out.below (below_drew (Below.refl _ _)))
        replace HC := Lib.hid (IsCur.below HC.out (below_drew (Below.refl _ _)))
        replace HK := Lib.hid HK.out.drew
        refine pure_ (i := 0) (N := some 18) (v := ?_) (a' := ?_) #[true, false, false, false, false, false, false, false, false, false, false, false, false, false, false, false, false, false] rfl rfl (by kernel_rfl) (fun _ _ _ h => h) (Or.inl ⟨by rfl, ?_⟩) ?_ ?_
        rotate_left
        · intro w'
          go_simp
          with_reducible rfl
        rotate_left
        · simp only [Act.put, List.setIfInBounds_toArray, List.set_cons_zero, List.set_cons_succ, i64_w, i32_w]
          rfl
        refine pure_ (i := 1) (N := some 19) (v := ?_) (a' := ?_) #[true, true, false, false, false, false, false, false, false, false, false, false, false, false, false, false, false, false] rfl rfl (by kernel_rfl) (fun _ _ _ h => h) (Or.inl ⟨by rfl, ?_⟩) ?_ ?_
        rotate_left
        · intro w'
          go_simp
          with_reducible rfl
        rotate_left
        · simp only [Act.put, List.setIfInBounds_toArray, List.set_cons_zero, List.set_cons_succ, i64_w, i32_w]
          rfl
        refine pure_ (i := 2) (N := some 20) (v := ?_) (a' := ?_) #[true, true, true, false, false, false, false, false, false, false, false, false, false, false, false, false, false, false] rfl rfl (by kernel_rfl) (fun _ _ _ h => h) (Or.inl ⟨by rfl, ?_⟩) ?_ ?_
        rotate_left
        · intro w'
          go_simp
          with_reducible rfl
        rotate_left
        · simp only [Act.put, List.setIfInBounds_toArray, List.set_cons_zero, List.set_cons_succ, i64_w, i32_w]
          rfl
        refine pure_ (i := 3) (N := some 21) (v := ?_) (a' := ?_) #[true, true, true, true, false, false, false, false, false, false, false, false, false, false, false, false, false, false] rfl rfl (by kernel_rfl) (fun _ _ _ h => h) (Or.inl ⟨by rfl, ?_⟩) ?_ ?_
        rotate_left
        · intro w'
          go_simp
          with_reducible rfl
        rotate_left
        · simp only [Act.put, List.setIfInBounds_toArray, List.set_cons_zero, List.set_cons_succ, i64_w, i32_w]
          rfl
        refine pure_ (i := 4) (N := some 22) (v := ?_) (a' := ?_) #[true, true, true, true, true, false, false, false, false, false, false, false, false, false, false, false, false, false] rfl rfl (by kernel_rfl) (fun _ _ _ h => h) (Or.inl ⟨by rfl, ?_⟩) ?_ ?_
        rotate_left
        · intro w'
          go_simp
          with_reducible rfl
        rotate_left
        · simp only [Act.put, List.setIfInBounds_toArray, List.set_cons_zero, List.set_cons_succ, i64_w, i32_w]
          rfl
        refine pure_ (i := 6) (N := some 24) (v := ?_) (a' := ?_) #[true, true, true, true, true, false, true, false, false, false, false, false, false, false, false, false, false, false] rfl rfl (by kernel_rfl) (fun _ _ _ h => h) (Or.inl ⟨by rfl, ?_⟩) ?_ ?_
        rotate_left
        · intro w'
          go_simp
          with_reducible rfl
        rotate_left
        · simp only [Act.put, List.setIfInBounds_toArray, List.set_cons_zero, List.set_cons_succ, i64_w, i32_w]
          rfl
        refine pure_ (i := 7) (N := some 25) (v := ?_) (a' := ?_) #[true, true, true, true, true, false, true, true, false, false, false, false, false, false, false, false, false, false] rfl rfl (by kernel_rfl) (fun _ _ _ h => h) (Or.inl ⟨by rfl, ?_⟩) ?_ ?_
        rotate_left
        · intro w'
          go_simp
          with_reducible rfl
        rotate_left
        · simp only [Act.put, List.setIfInBounds_toArray, List.set_cons_zero, List.set_cons_succ, i64_w, i32_w]
          rfl
        refine pure_ (i := 9) (N := some 27) (v := ?_) (a' := ?_) #[true, true, true, true, true, false, true, true, false, true, false, false, false, false, false, false, false, false] rfl rfl (by kernel_rfl) (fun _ _ _ h => h) (Or.inl ⟨by rfl, ?_⟩) ?_ ?_
        rotate_left
        · intro w'
          go_simp
          with_reducible rfl
        rotate_left
        · simp only [Act.put, List.setIfInBounds_toArray, List.set_cons_zero, List.set_cons_succ, i64_w, i32_w]
          rfl
        refine take_ (i := 5) (N := some 23) (v := ?_) (a' := ?_) #[true, true, true, true, true, true, true, true, false, true, false, false, false, false, false, false, false, false] rfl rfl (by kernel_rfl) (fun _ _ _ h => h) (Or.inl ⟨by rfl, ?_⟩) hHeld ?_ ?_
        rotate_left
        · intro w' s0
          go_simp
          with_reducible rfl
        rotate_left
        · simp only [Act.put, List.setIfInBounds_toArray, List.set_cons_zero, List.set_cons_succ, i64_w, i32_w]
          rfl
        refine one_ (i := 8) (N := some 26) #[true, true, true, true, true, true, true, true, true, true, false, false, false, false, false, false, false, false] rfl rfl (by kernel_rfl) (by decide) (fun K hK => ?_)
        refine goes_ Try.func31 (by kernel_rfl) rfl #[.pointer (some ⟨gc, 0, none⟩)] (by rfl) rfl rfl (by (try simp only [List.map_toArray, List.map_cons, List.map_nil]); first | done | rfl) ?_
        with_reducible refine ((HT1.out _ HC.out)).mono ?_
        rintro e w5 ⟨rfl, hc, hk⟩
        refine ⟨_, rfl, ?_⟩
        replace HO := Lib.hid (HO.out.cur HC.out (by decide) hk)
        replace HR := Lib.hid (HR.out.kept hk HNE.out)
        replace HC := Lib.hid hc
        replace HK := Lib.hid (HK.out.then_ hk (fun i hi => .inr (by have hi : i = gc := hi; rw [hi]; exact HGC.out)))
        clear hk hc
        refine hK.out _ _ (HR.out.cell (wsC_13 H20.out A m c q)) (fun hHeld => ?_)
        clear hK K
        refine norm_ (a' := ?_) ?_ ?_
        rotate_left
        · show Act.put _ (some 26) _ = _
          simp only [Act.put, List.setIfInBounds_toArray, List.set_cons_zero, List.set_cons_succ, i64_w, i32_w]
          rfl
        refine one_ (i := 10) (N := some 28) #[true, true, true, true, true, true, true, true, true, true, true, false, false, false, false, false, false, false] rfl rfl (by kernel_rfl) (by decide) (fun K hK => ?_)
        refine goes_ Try.func31 (by kernel_rfl) rfl #[.pointer (some ⟨gc, 0, none⟩)] (by rfl) rfl rfl (by (try simp only [List.map_toArray, List.map_cons, List.map_nil]); first | done | rfl) ?_
        with_reducible refine ((HT2.out _ HC.out)).mono ?_
        rintro e w6 ⟨rfl, hc, hk⟩
        refine ⟨_, rfl, ?_⟩
        replace HO := Lib.hid (HO.out.cur HC.out (by decide) hk)
        replace HR := Lib.hid (HR.out.kept hk HNE.out)
        replace HC := Lib.hid hc
        replace HK := Lib.hid (HK.out.then_ hk (fun i hi => .inr (by have hi : i = gc := hi; rw [hi]; exact HGC.out)))
        clear hk hc
        refine hK.out _ _ (HR.out.cell (wsC_13 H20.out A m c q)) (fun hHeld => ?_)
        clear hK K
        refine norm_ (a' := ?_) ?_ ?_
        rotate_left
        · show Act.put _ (some 28) _ = _
          simp only [Act.put, List.setIfInBounds_toArray, List.set_cons_zero, List.set_cons_succ, i64_w, i32_w]
          rfl
        refine pure_ (i := 11) (N := some 29) (v := ?_) (a' := ?_) #[true, true, true, true, true, true, true, true, true, true, true, true, false, false, false, false, false, false] rfl rfl (by kernel_rfl) (fun _ _ _ h => h) (Or.inl ⟨by rfl, ?_⟩) ?_ ?_
        rotate_left
        · intro w'
          go_simp
          with_reducible rfl
        rotate_left
        · simp only [Act.put, List.setIfInBounds_toArray, List.set_cons_zero, List.set_cons_succ, i64_w, i32_w]
          rfl
        refine one_ (i := 12) (N := some 30) #[true, true, true, true, true, true, true, true, true, true, true, true, true, false, false, false, false, false] rfl rfl (by kernel_rfl) (by decide) (fun K hK => ?_)
        refine value_ (w1 := ?_) (v := ?_) (by rfl) rfl ?_ ?_
        rotate_left 2
        · go_simp
          constructor
          · rfl
          · rfl
        have H8 := Lib.hid (blk_new w6 (.cells #[.string k, .bool gn, .string v] 56))
        replace HO := Lib.hid (HO.out.below (below_alloc (Below.refl _ _) (.cells #[.string k, .bool gn, .string v] 56)))
        replace HR := Lib.hid (HR.out.below (below_alloc (Below.refl _ _) (.cells #[.string k, .bool gn, .string v] 56)))
        replace HC := Lib.hid (IsCur.below HC.out (below_alloc (Below.refl _ _) (.cells #[.string k, .bool gn, .string v] 56)))
        replace HK := Lib.hid (HK.out.alloc (.cells #[.string k, .bool gn, .string v] 56))
        refine hK.out _ _ (HR.out.cell (wsC_13 H20.out A m c q)) (fun hHeld => ?_)
        clear hK K
        refine norm_ (a' := ?_) ?_ ?_
        rotate_left
        · show Act.put _ (some 30) _ = _
          simp only [Act.put, List.setIfInBounds_toArray, List.set_cons_zero, List.set_cons_succ, i64_w, i32_w]
          rfl
        refine one_ (i := 13) (N := some 31) #[true, true, true, true, true, true, true, true, true, true, true, true, true, true, false, false, false, false] rfl rfl (by kernel_rfl) (by decide) (fun K hK => ?_)
        obtain ⟨v7, w7, hr7, ho7, hg7, -⟩ := run_app_rows (P := Try.prog) (base := w.heap.size) (W := w6.alloc (.cells #[.string k, .bool gn, .string v] 56)) (xs := ws) 27 27 Try.underlying27 info_wr rfl (by decide) (by decide) wrC_len wrC_one HO.out (c := 1) ((OwnF.one (base := 0) (f := wrC) (x := (k, gn, v)) H8.out (Nat.zero_le _) rfl rfl).row wrC_len) HK.out.size (by have := HW8.out; omega)
        obtain ⟨A7, c7, e7, _⟩ := ho7.slice_
        have hm7 : (ws ++ [(k, gn, v)]).length = m + 1 := by rw [List.length_append, HM.out]; rfl
        rw [hm7] at e7
        obtain rfl := e7
        clear hm7
        replace HR := Lib.hid (HR.out.grown hg7 (HO.out.ne_type HR.out.1 (by decide)))
        replace HC := Lib.hid (IsCur.grown HC.out hg7 (HO.out.ne_type HC.out (by decide)))
        replace HK := Lib.hid (HK.out.grownX hg7 (fun x hx => (HO.out.block_ge x hx).1))
        have HO7 := Lib.hid ho7; clear ho7 hg7
        have f13 := HR.out.f 13
        have hy13 := HR.out.cell (wsC_13 H20.out A m c q)
        have hgl := HR.out.lt
        refine step_app (by rfl) (.tmp 23) (.tmp 30) 27 rfl rfl rfl hr7 ?_
        refine hK.out _ _ (HR.out.cell (wsC_13 H20.out A m c q)) (fun hHeld => ?_)
        clear hK K
        refine norm_ (a' := ?_) ?_ ?_
        rotate_left
        · show Act.put _ (some 31) _ = _
          simp only [Act.put, List.setIfInBounds_toArray, List.set_cons_zero, List.set_cons_succ, i64_w, i32_w]
          rfl
        refine pure_ (i := 14) (N := some 32) (v := ?_) (a' := ?_) #[true, true, true, true, true, true, true, true, true, true, true, true, true, true, true, false, false, false] rfl rfl (by kernel_rfl) (fun _ _ _ h => h) (Or.inl ⟨by rfl, ?_⟩) ?_ ?_
        rotate_left
        · intro w'
          go_simp
          with_reducible rfl
        rotate_left
        · simp only [Act.put, List.setIfInBounds_toArray, List.set_cons_zero, List.set_cons_succ, i64_w, i32_w]
          rfl
        refine pure_ (i := 15) (N := some 33) (v := ?_) (a' := ?_) #[true, true, true, true, true, true, true, true, true, true, true, true, true, true, true, true, false, false] rfl rfl (by kernel_rfl) (fun _ _ _ h => h) (Or.inl ⟨by rfl, ?_⟩) ?_ ?_
        rotate_left
        · intro w'
          go_simp
          with_reducible rfl
        rotate_left
        · simp only [Act.put, List.setIfInBounds_toArray, List.set_cons_zero, List.set_cons_succ, i64_w, i32_w]
          rfl
        refine pure_ (i := 16) (N := some 34) (v := ?_) (a' := ?_) #[true, true, true, true, true, true, true, true, true, true, true, true, true, true, true, true, true, false] rfl rfl (by kernel_rfl) (fun _ _ _ h => h) (Or.inl ⟨by rfl, ?_⟩) ?_ ?_
        rotate_left
        · intro w'
          go_simp
          with_reducible rfl
        rotate_left
        · simp only [Act.put, List.setIfInBounds_toArray, List.set_cons_zero, List.set_cons_succ, i64_w, i32_w]
          rfl
        refine last_ (i := 17) (N := none) #[true, true, true, true, true, true, true, true, true, true, true, true, true, true, true, true, true, true] rfl rfl (by kernel_rfl) (by decide) (fun K hK => ?_)
        refine skip_ (w1 := ?_) (by rfl) rfl ?_ ?_
        rotate_left
        · go_simp
          rfl
        refine hK.out _ _ ?_
        clear hK K
        refine done_ (by kernel_rfl) ?_

        have HR8 := Lib.hid (HR.out.set 13 (.slice A7 (m + 1) c7))
        have HK8 := Lib.hid (HK.out.own 13 (.slice A7 (m + 1) c7))
        have HC8 := Lib.hid (HC.out.kept ((Keeps.refl (Only g) _).own 13 (.slice A7 (m + 1) c7)) (fun e => HNE.out e.symm))
        have HO8 := Lib.hid (HO7.out.mr HR.out (by decide) ((Keeps.refl (Only g) _).own 13 (.slice A7 (m + 1) c7)))
        clear hHeld c13 f13 hy13 hgl hlen
        go_wp2
        go_roundw
        case rel =>
          have h1 := HR8.out
          rw [wsC_ws] at h1
          have e := HM.out
          subst e
          have hl1 : (ws ++ [(k, gn, v)]).length = ws.length + 1 := by rw [List.length_append]; rfl
          exact ⟨i + 1, ws ++ [(k, gn, v)], A7, c7, s4, cb4, q, by first | rfl | (simp; done) | go_num, HLT.out, by rw [hl1]; exact h1, HC8.out, by rw [hl1]; exact HO8.out, HK8.out, HF.out, by rw [hl1, HWL.out], HSZ.out⟩
        case measure => simp only [intOf]; have := HLT.out; omega
      · obtain rfl : i = 8 := by omega
        have hF := HF.out
        rw [Nat.sub_self, wrsL] at hF
        injection hF with e1 e2
        injection e2 with e2 e3
        injection e3 with e3 e4
        subst e1 e2 e3 e4
        clear HF
        have c19 := HR.out.cell (wsC_19 H20.out A ws.length c b)
        have f19 := HR.out.f 19
        have hgl := HR.out.lt
        obtain ⟨m, hm⟩ : ∃ m, ws.length = m := ⟨_, rfl⟩
        rw [hm] at HR HO
        have HMM := Lib.hid hm
        have HDN := Lib.hid (cur_done s cb gc wr HC.out)
        obtain ⟨ok, hok⟩ : ∃ ok, (!cb && s.toList.isEmpty) = ok := ⟨_, rfl⟩
        rw [hok] at HDN
        have HOK := Lib.hid hok
        clear hok hm hwl
        have d8 : decide (8 < n) = true := by simp; omega
        have HD8 := Lib.hid d8
        have d8i : decide ((8 : Int) < (n : Int)) = true := by simp; omega
        cases b with
        | true =>
          go_wp2
          go_end0
          simp only [HMM.out, HOK.out, HD8.out]
          exact ⟨A, c, by trivial, by have h1 := HR.out.set 19 (.bool true); rw [wsC_bad] at h1; exact h1, HO.out.mr HR.out (by decide) ((Keeps.refl (Only g) _).own 19 _), HK.out.own 19 _⟩
        | false =>
          go_wp2
          go_end0
          simp only [HMM.out, HOK.out, HD8.out]
          exact ⟨A, c, by trivial, by have h1 := HR.out.set 19 (.bool true); rw [wsC_bad] at h1; exact h1, HO.out.mr HR.out (by decide) ((Keeps.refl (Only g) _).own 19 _), HK.out.own 19 _⟩
  · have y8 : ¬ (8 : Int) < (n : Int) := by omega
    obtain rfl : K = n := by omega
    clear x0
    go_wp2
    go_loopw [13] (fun u wr => ∃ (i : Nat) (ws : List WrT) (A : Option Addr) (c : Nat) (s : ByteArray) (cb b : Bool), u = .int .u64 i ∧ i ≤ K ∧ IsMR wr g (wsC cs A ws.length c b) ∧ IsCur wr gc s cb ∧ OwnF wr w.heap.size 56 3 wrC (.slice A ws.length c) ws ∧ Keeps (Only g) w wr ∧ wrsL (K - i) s cb b ws = (wsF, sF, cbF, bF) ∧ ws.length = i ∧ s.size ≤ 1000000) (fun u _ => K - (intOf u).toNat)
    case atStart => exact ⟨0, [], none, 0, s1, b1, bad, rfl, Nat.zero_le _, HR.out, HC.out, HO.out, HK.out, HF0.out, rfl, HSB.out⟩
    case round =>
      clear HR HC HO HK HF0 HSB
      obtain ⟨i, ws, A, c, s, cb, b, rfl, hi, hR, hC, hO, hK', hF, hwl, hsz⟩ := hrel
      have HR := Lib.hid hR; clear hR
      have HC := Lib.hid hC; clear hC
      have HO := Lib.hid hO; clear hO
      have HK := Lib.hid hK'; clear hK'
      have HF := Lib.hid hF; clear hF
      have HSZ := Lib.hid hsz; clear hsz
      by_cases hlt : i < K
      · have hF := HF.out
        obtain ⟨kk, hkk⟩ : ∃ kk, K - i = kk + 1 := ⟨K - i - 1, by omega⟩
        have hkk2 : K - (i + 1) = kk := by omega
        rw [hkk, wrsL, ← hkk2] at hF
        clear hkk hkk2 HF
        have HG1 := Lib.hid (fun W (hR : IsMR W g (wsC cs A ws.length c b)) (hc : IsCur W gc s cb) => rd_gone g gc (wsC cs A ws.length c b) s cb b W hR (wsC_19 H20.out ..) hc)
        have t1 := curBytes_left' s cb 1
        obtain ⟨⟨y, s2, cb2⟩, hu⟩ : ∃ u, curBytes s cb 1 = u := ⟨_, rfl⟩
        simp only [hu] at HG1 t1 hF
        clear hu
        have t2 := curText_left s2 cb2
        have HT1 := Lib.hid (fun W (hc : IsCur W gc s2 cb2) => cur_text s2 cb2 gc W hc (by have := HSZ.out; omega))
        obtain ⟨⟨k, s3, cb3⟩, hu⟩ : ∃ u, curText s2 cb2 = u := ⟨_, rfl⟩
        simp only [hu] at HT1 t2 hF
        clear hu
        have t3 := curText_left s3 cb3
        have HT2 := Lib.hid (fun W (hc : IsCur W gc s3 cb3) => cur_text s3 cb3 gc W hc (by have := HSZ.out; omega))
        obtain ⟨⟨v, s4, cb4⟩, hu⟩ : ∃ u, curText s3 cb3 = u := ⟨_, rfl⟩
        simp only [hu] at HT2 t3 hF
        clear hu
        obtain ⟨q, hq⟩ : ∃ q, (b || flB y) = q := ⟨_, rfl⟩
        have hq' : (b || !(decide (bl y = [0]) || decide (bl y = [1]))) = q := hq
        obtain ⟨gn, hgn⟩ : ∃ q, decide (bl y = [1]) = q := ⟨_, rfl⟩
        simp only [hq, hgn] at hF
        simp only [hq'] at HG1
        simp only [hgn, wsC_bad] at HG1
        clear hq hq' hgn
        have HF := Lib.hid hF; clear hF
        replace HSZ := Lib.hid (show s4.size ≤ 1000000 by have := HSZ.out; omega)
        clear t1 t2 t3
        have HLT := Lib.hid hlt
        have HWL := Lib.hid hwl
        have hwl8 : ws.length ≤ 8 := by omega
        have HW8 := Lib.hid hwl8
        obtain ⟨m, hm⟩ : ∃ m, ws.length = m := ⟨_, rfl⟩
        rw [hm] at HR HO HG1
        have HM := Lib.hid hm
        clear hm hwl hwl8
        have hw : IntKind.u64.wrap ((i : Int) + 1) = ((i + 1 : Nat) : Int) := wrap_u64_nat (x := i + 1) (by omega)
        have hw2 : ((i : Int) + 1) % 18446744073709551616 = (i : Int) + 1 := by omega
        go_wp2_with fail
        refine (HG1.out _ HR.out HC.out).mono ?_
        rintro e w3 ⟨rfl, hR, hc, hk⟩
        replace HO := Lib.hid (show OwnF w3 w.heap.size 56 3 wrC (.slice A m c) ws from HO.out.keep fun x hx hlt => hk.block x hlt (fun e' => by
          rcases e' with e' | e'
          · subst e'; exact HO.out.ne_type HR.out.1 (by decide) hx
          · subst e'; exact HO.out.ne_type HC.out (by decide) hx))
        replace HR := Lib.hid hR; clear hR
        replace HC := Lib.hid hc; clear hc
        replace HK := Lib.hid (HK.out.then_ hk (fun i hi => by
          rcases hi with rfl | rfl
          · exact .inl rfl
          · exact .inr HGC.out)); clear hk
        have c13 := HR.out.cell (wsC_13 H20.out A m c q)
        have hlen := HM.out
        go_wp2
        refine start_ (n := 18) (S := fun w' => w'.cell? ⟨g, 13, none⟩ = some (.slice A m c)) (ds := [17]) #[false, false, false, false, false, false, false, false, false, false, false, false, false, false, false, false, false, false] (by kernel_rfl) rfl rfl (c13) (fun hHeld => ?_)
        replace HO := Lib.hid (HO.out.below (below_drew (Below.refl _ _)))
        replace HR := Lib.hid (HR.out.below (below_drew (Below.refl _ _)))
        replace HC := Lib.hid (IsCur.below HC.out (below_drew (Below.refl _ _)))
        replace HK := Lib.hid HK.out.drew
        refine pure_ (i := 0) (N := some 18) (v := ?_) (a' := ?_) #[true, false, false, false, false, false, false, false, false, false, false, false, false, false, false, false, false, false] rfl rfl (by kernel_rfl) (fun _ _ _ h => h) (Or.inl ⟨by rfl, ?_⟩) ?_ ?_
        rotate_left
        · intro w'
          go_simp
          with_reducible rfl
        rotate_left
        · simp only [Act.put, List.setIfInBounds_toArray, List.set_cons_zero, List.set_cons_succ, i64_w, i32_w]
          rfl
        refine pure_ (i := 1) (N := some 19) (v := ?_) (a' := ?_) #[true, true, false, false, false, false, false, false, false, false, false, false, false, false, false, false, false, false] rfl rfl (by kernel_rfl) (fun _ _ _ h => h) (Or.inl ⟨by rfl, ?_⟩) ?_ ?_
        rotate_left
        · intro w'
          go_simp
          with_reducible rfl
        rotate_left
        · simp only [Act.put, List.setIfInBounds_toArray, List.set_cons_zero, List.set_cons_succ, i64_w, i32_w]
          rfl
        refine pure_ (i := 2) (N := some 20) (v := ?_) (a' := ?_) #[true, true, true, false, false, false, false, false, false, false, false, false, false, false, false, false, false, false] rfl rfl (by kernel_rfl) (fun _ _ _ h => h) (Or.inl ⟨by rfl, ?_⟩) ?_ ?_
        rotate_left
        · intro w'
          go_simp
          with_reducible rfl
        rotate_left
        · simp only [Act.put, List.setIfInBounds_toArray, List.set_cons_zero, List.set_cons_succ, i64_w, i32_w]
          rfl
        refine pure_ (i := 3) (N := some 21) (v := ?_) (a' := ?_) #[true, true, true, true, false, false, false, false, false, false, false, false, false, false, false, false, false, false] rfl rfl (by kernel_rfl) (fun _ _ _ h => h) (Or.inl ⟨by rfl, ?_⟩) ?_ ?_
        rotate_left
        · intro w'
          go_simp
          with_reducible rfl
        rotate_left
        · simp only [Act.put, List.setIfInBounds_toArray, List.set_cons_zero, List.set_cons_succ, i64_w, i32_w]
          rfl
        refine pure_ (i := 4) (N := some 22) (v := ?_) (a' := ?_) #[true, true, true, true, true, false, false, false, false, false, false, false, false, false, false, false, false, false] rfl rfl (by kernel_rfl) (fun _ _ _ h => h) (Or.inl ⟨by rfl, ?_⟩) ?_ ?_
        rotate_left
        · intro w'
          go_simp
          with_reducible rfl
        rotate_left
        · simp only [Act.put, List.setIfInBounds_toArray, List.set_cons_zero, List.set_cons_succ, i64_w, i32_w]
          rfl
        refine pure_ (i := 6) (N := some 24) (v := ?_) (a' := ?_) #[true, true, true, true, true, false, true, false, false, false, false, false, false, false, false, false, false, false] rfl rfl (by kernel_rfl) (fun _ _ _ h => h) (Or.inl ⟨by rfl, ?_⟩) ?_ ?_
        rotate_left
        · intro w'
          go_simp
          with_reducible rfl
        rotate_left
        · simp only [Act.put, List.setIfInBounds_toArray, List.set_cons_zero, List.set_cons_succ, i64_w, i32_w]
          rfl
        refine pure_ (i := 7) (N := some 25) (v := ?_) (a' := ?_) #[true, true, true, true, true, false, true, true, false, false, false, false, false, false, false, false, false, false] rfl rfl (by kernel_rfl) (fun _ _ _ h => h) (Or.inl ⟨by rfl, ?_⟩) ?_ ?_
        rotate_left
        · intro w'
          go_simp
          with_reducible rfl
        rotate_left
        · simp only [Act.put, List.setIfInBounds_toArray, List.set_cons_zero, List.set_cons_succ, i64_w, i32_w]
          rfl
        refine pure_ (i := 9) (N := some 27) (v := ?_) (a' := ?_) #[true, true, true, true, true, false, true, true, false, true, false, false, false, false, false, false, false, false] rfl rfl (by kernel_rfl) (fun _ _ _ h => h) (Or.inl ⟨by rfl, ?_⟩) ?_ ?_
        rotate_left
        · intro w'
          go_simp
          with_reducible rfl
        rotate_left
        · simp only [Act.put, List.setIfInBounds_toArray, List.set_cons_zero, List.set_cons_succ, i64_w, i32_w]
          rfl
        refine take_ (i := 5) (N := some 23) (v := ?_) (a' := ?_) #[true, true, true, true, true, true, true, true, false, true, false, false, false, false, false, false, false, false] rfl rfl (by kernel_rfl) (fun _ _ _ h => h) (Or.inl ⟨by rfl, ?_⟩) hHeld ?_ ?_
        rotate_left
        · intro w' s0
          go_simp
          with_reducible rfl
        rotate_left
        · simp only [Act.put, List.setIfInBounds_toArray, List.set_cons_zero, List.set_cons_succ, i64_w, i32_w]
          rfl
        refine one_ (i := 8) (N := some 26) #[true, true, true, true, true, true, true, true, true, true, false, false, false, false, false, false, false, false] rfl rfl (by kernel_rfl) (by decide) (fun K hK => ?_)
        refine goes_ Try.func31 (by kernel_rfl) rfl #[.pointer (some ⟨gc, 0, none⟩)] (by rfl) rfl rfl (by (try simp only [List.map_toArray, List.map_cons, List.map_nil]); first | done | rfl) ?_
        with_reducible refine ((HT1.out _ HC.out)).mono ?_
        rintro e w5 ⟨rfl, hc, hk⟩
        refine ⟨_, rfl, ?_⟩
        replace HO := Lib.hid (HO.out.cur HC.out (by decide) hk)
        replace HR := Lib.hid (HR.out.kept hk HNE.out)
        replace HC := Lib.hid hc
        replace HK := Lib.hid (HK.out.then_ hk (fun i hi => .inr (by have hi : i = gc := hi; rw [hi]; exact HGC.out)))
        clear hk hc
        refine hK.out _ _ (HR.out.cell (wsC_13 H20.out A m c q)) (fun hHeld => ?_)
        clear hK K
        refine norm_ (a' := ?_) ?_ ?_
        rotate_left
        · show Act.put _ (some 26) _ = _
          simp only [Act.put, List.setIfInBounds_toArray, List.set_cons_zero, List.set_cons_succ, i64_w, i32_w]
          rfl
        refine one_ (i := 10) (N := some 28) #[true, true, true, true, true, true, true, true, true, true, true, false, false, false, false, false, false, false] rfl rfl (by kernel_rfl) (by decide) (fun K hK => ?_)
        refine goes_ Try.func31 (by kernel_rfl) rfl #[.pointer (some ⟨gc, 0, none⟩)] (by rfl) rfl rfl (by (try simp only [List.map_toArray, List.map_cons, List.map_nil]); first | done | rfl) ?_
        with_reducible refine ((HT2.out _ HC.out)).mono ?_
        rintro e w6 ⟨rfl, hc, hk⟩
        refine ⟨_, rfl, ?_⟩
        replace HO := Lib.hid (HO.out.cur HC.out (by decide) hk)
        replace HR := Lib.hid (HR.out.kept hk HNE.out)
        replace HC := Lib.hid hc
        replace HK := Lib.hid (HK.out.then_ hk (fun i hi => .inr (by have hi : i = gc := hi; rw [hi]; exact HGC.out)))
        clear hk hc
        refine hK.out _ _ (HR.out.cell (wsC_13 H20.out A m c q)) (fun hHeld => ?_)
        clear hK K
        refine norm_ (a' := ?_) ?_ ?_
        rotate_left
        · show Act.put _ (some 28) _ = _
          simp only [Act.put, List.setIfInBounds_toArray, List.set_cons_zero, List.set_cons_succ, i64_w, i32_w]
          rfl
        refine pure_ (i := 11) (N := some 29) (v := ?_) (a' := ?_) #[true, true, true, true, true, true, true, true, true, true, true, true, false, false, false, false, false, false] rfl rfl (by kernel_rfl) (fun _ _ _ h => h) (Or.inl ⟨by rfl, ?_⟩) ?_ ?_
        rotate_left
        · intro w'
          go_simp
          with_reducible rfl
        rotate_left
        · simp only [Act.put, List.setIfInBounds_toArray, List.set_cons_zero, List.set_cons_succ, i64_w, i32_w]
          rfl
        refine one_ (i := 12) (N := some 30) #[true, true, true, true, true, true, true, true, true, true, true, true, true, false, false, false, false, false] rfl rfl (by kernel_rfl) (by decide) (fun K hK => ?_)
        refine value_ (w1 := ?_) (v := ?_) (by rfl) rfl ?_ ?_
        rotate_left 2
        · go_simp
          constructor
          · rfl
          · rfl
        have H8 := Lib.hid (blk_new w6 (.cells #[.string k, .bool gn, .string v] 56))
        replace HO := Lib.hid (HO.out.below (below_alloc (Below.refl _ _) (.cells #[.string k, .bool gn, .string v] 56)))
        replace HR := Lib.hid (HR.out.below (below_alloc (Below.refl _ _) (.cells #[.string k, .bool gn, .string v] 56)))
        replace HC := Lib.hid (IsCur.below HC.out (below_alloc (Below.refl _ _) (.cells #[.string k, .bool gn, .string v] 56)))
        replace HK := Lib.hid (HK.out.alloc (.cells #[.string k, .bool gn, .string v] 56))
        refine hK.out _ _ (HR.out.cell (wsC_13 H20.out A m c q)) (fun hHeld => ?_)
        clear hK K
        refine norm_ (a' := ?_) ?_ ?_
        rotate_left
        · show Act.put _ (some 30) _ = _
          simp only [Act.put, List.setIfInBounds_toArray, List.set_cons_zero, List.set_cons_succ, i64_w, i32_w]
          rfl
        refine one_ (i := 13) (N := some 31) #[true, true, true, true, true, true, true, true, true, true, true, true, true, true, false, false, false, false] rfl rfl (by kernel_rfl) (by decide) (fun K hK => ?_)
        obtain ⟨v7, w7, hr7, ho7, hg7, -⟩ := run_app_rows (P := Try.prog) (base := w.heap.size) (W := w6.alloc (.cells #[.string k, .bool gn, .string v] 56)) (xs := ws) 27 27 Try.underlying27 info_wr rfl (by decide) (by decide) wrC_len wrC_one HO.out (c := 1) ((OwnF.one (base := 0) (f := wrC) (x := (k, gn, v)) H8.out (Nat.zero_le _) rfl rfl).row wrC_len) HK.out.size (by have := HW8.out; omega)
        obtain ⟨A7, c7, e7, _⟩ := ho7.slice_
        have hm7 : (ws ++ [(k, gn, v)]).length = m + 1 := by rw [List.length_append, HM.out]; rfl
        rw [hm7] at e7
        obtain rfl := e7
        clear hm7
        replace HR := Lib.hid (HR.out.grown hg7 (HO.out.ne_type HR.out.1 (by decide)))
        replace HC := Lib.hid (IsCur.grown HC.out hg7 (HO.out.ne_type HC.out (by decide)))
        replace HK := Lib.hid (HK.out.grownX hg7 (fun x hx => (HO.out.block_ge x hx).1))
        have HO7 := Lib.hid ho7; clear ho7 hg7
        have f13 := HR.out.f 13
        have hy13 := HR.out.cell (wsC_13 H20.out A m c q)
        have hgl := HR.out.lt
        refine step_app (by rfl) (.tmp 23) (.tmp 30) 27 rfl rfl rfl hr7 ?_
        refine hK.out _ _ (HR.out.cell (wsC_13 H20.out A m c q)) (fun hHeld => ?_)
        clear hK K
        refine norm_ (a' := ?_) ?_ ?_
        rotate_left
        · show Act.put _ (some 31) _ = _
          simp only [Act.put, List.setIfInBounds_toArray, List.set_cons_zero, List.set_cons_succ, i64_w, i32_w]
          rfl
        refine pure_ (i := 14) (N := some 32) (v := ?_) (a' := ?_) #[true, true, true, true, true, true, true, true, true, true, true, true, true, true, true, false, false, false] rfl rfl (by kernel_rfl) (fun _ _ _ h => h) (Or.inl ⟨by rfl, ?_⟩) ?_ ?_
        rotate_left
        · intro w'
          go_simp
          with_reducible rfl
        rotate_left
        · simp only [Act.put, List.setIfInBounds_toArray, List.set_cons_zero, List.set_cons_succ, i64_w, i32_w]
          rfl
        refine pure_ (i := 15) (N := some 33) (v := ?_) (a' := ?_) #[true, true, true, true, true, true, true, true, true, true, true, true, true, true, true, true, false, false] rfl rfl (by kernel_rfl) (fun _ _ _ h => h) (Or.inl ⟨by rfl, ?_⟩) ?_ ?_
        rotate_left
        · intro w'
          go_simp
          with_reducible rfl
        rotate_left
        · simp only [Act.put, List.setIfInBounds_toArray, List.set_cons_zero, List.set_cons_succ, i64_w, i32_w]
          rfl
        refine pure_ (i := 16) (N := some 34) (v := ?_) (a' := ?_) #[true, true, true, true, true, true, true, true, true, true, true, true, true, true, true, true, true, false] rfl rfl (by kernel_rfl) (fun _ _ _ h => h) (Or.inl ⟨by rfl, ?_⟩) ?_ ?_
        rotate_left
        · intro w'
          go_simp
          with_reducible rfl
        rotate_left
        · simp only [Act.put, List.setIfInBounds_toArray, List.set_cons_zero, List.set_cons_succ, i64_w, i32_w]
          rfl
        refine last_ (i := 17) (N := none) #[true, true, true, true, true, true, true, true, true, true, true, true, true, true, true, true, true, true] rfl rfl (by kernel_rfl) (by decide) (fun K hK => ?_)
        refine skip_ (w1 := ?_) (by rfl) rfl ?_ ?_
        rotate_left
        · go_simp
          rfl
        refine hK.out _ _ ?_
        clear hK K
        refine done_ (by kernel_rfl) ?_

        have HR8 := Lib.hid (HR.out.set 13 (.slice A7 (m + 1) c7))
        have HK8 := Lib.hid (HK.out.own 13 (.slice A7 (m + 1) c7))
        have HC8 := Lib.hid (HC.out.kept ((Keeps.refl (Only g) _).own 13 (.slice A7 (m + 1) c7)) (fun e => HNE.out e.symm))
        have HO8 := Lib.hid (HO7.out.mr HR.out (by decide) ((Keeps.refl (Only g) _).own 13 (.slice A7 (m + 1) c7)))
        clear hHeld c13 f13 hy13 hgl hlen
        go_wp2
        go_roundw
        case rel =>
          have h1 := HR8.out
          rw [wsC_ws] at h1
          have e := HM.out
          subst e
          have hl1 : (ws ++ [(k, gn, v)]).length = ws.length + 1 := by rw [List.length_append]; rfl
          exact ⟨i + 1, ws ++ [(k, gn, v)], A7, c7, s4, cb4, q, by first | rfl | (simp; done) | go_num, HLT.out, by rw [hl1]; exact h1, HC8.out, by rw [hl1]; exact HO8.out, HK8.out, HF.out, by rw [hl1, HWL.out], HSZ.out⟩
        case measure => simp only [intOf]; have := HLT.out; omega
      · obtain rfl : i = K := by omega
        have hF := HF.out
        rw [Nat.sub_self, wrsL] at hF
        injection hF with e1 e2
        injection e2 with e2 e3
        injection e3 with e3 e4
        subst e1 e2 e3 e4
        clear HF
        have c19 := HR.out.cell (wsC_19 H20.out A ws.length c b)
        have f19 := HR.out.f 19
        have hgl := HR.out.lt
        obtain ⟨m, hm⟩ : ∃ m, ws.length = m := ⟨_, rfl⟩
        rw [hm] at HR HO
        have HMM := Lib.hid hm
        have HDN := Lib.hid (cur_done s cb gc wr HC.out)
        obtain ⟨ok, hok⟩ : ∃ ok, (!cb && s.toList.isEmpty) = ok := ⟨_, rfl⟩
        rw [hok] at HDN
        have HOK := Lib.hid hok
        clear hok hm hwl
        have d8 : decide (8 < i) = false := by simp; omega
        have HD8 := Lib.hid d8
        have d8i : decide ((8 : Int) < (i : Int)) = false := by simp; omega
        cases b with
        | true =>
          go_wp2
          go_end0
          simp only [HMM.out, HOK.out, HD8.out]
          exact ⟨A, c, by trivial, by have h1 := HR.out.set 19 (.bool true); rw [wsC_bad] at h1; exact h1, HO.out.mr HR.out (by decide) ((Keeps.refl (Only g) _).own 19 _), HK.out.own 19 _⟩
        | false =>
          go_wp2_with fail
          refine HDN.out.mono ?_
          rintro e w9 ⟨rfl, rfl⟩
          go_wp2
          go_end0
          simp only [HMM.out, HOK.out, HD8.out]
          exact ⟨A, c, by trivial, by have h1 := HR.out.set 19 (.bool (!ok)); rw [wsC_bad] at h1; exact h1, HO.out.mr HR.out (by decide) ((Keeps.refl (Only g) _).own 19 _), HK.out.own 19 _⟩
end Go.Proofs.Ytemhmgpihkemjaa.My
