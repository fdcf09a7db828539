/- lz.Pack: the bytes packed mean the bytes. -/
import Derived.Test.YthooihkkghfhkaaLzPk2
namespace Go.Proofs.Ythooihkkghfhkaa.My
set_option linter.unusedSimpArgs false
set_option linter.unusedVariables false
open Go.RowKit Go.Proofs.YthooihkkghfhkaaW.PrintWords Go.Proofs.YthooihkkghfhkaaW.PrintLast Go.Proofs.Ythooihkkghfhkaa.Pm
open Go.Maps (Keyed)

theorem str_loop' (s : ByteArray) : ∀ (k i : Nat) (r : List UInt8), s.size - i = k → (ByteArray.toList.loop s i r).length = k + r.length := by
  intro k
  induction k with
  | zero => intro i r h; unfold ByteArray.toList.loop; rw [if_neg (by omega)]; simp
  | succ k ih => intro i r h; unfold ByteArray.toList.loop; rw [if_pos (by omega), ih (i + 1) _ (by omega)]; simp; omega
theorem str_none' (s : ByteArray) : s.toList.isEmpty = decide (s.size = 0) := by
  have h := str_loop' s s.size 0 [] rfl
  change s.toList.length = _ at h
  cases hl : s.toList with
  | nil => rw [hl] at h; simp at h; simp [← h]
  | cons a l => rw [hl] at h; simp at h; exact (decide_eq_false (by omega)).symm
theorem zero_int (w : World) : (zeroValue 3).run Try.prog w = .ok (.int .i64 0) w := by kernel_rfl
theorem match_four {s : ByteArray} {a b n : Nat} (h : Match s a b n) (h4 : b + 4 ≤ s.size) (hab : a ≤ b) (hq : ∀ q, q < 4 → (bl s).getD (a + q) 0 = (bl s).getD (b + q) 0) : 4 ≤ n := by
  obtain ⟨h1, h2, h3⟩ := h
  rcases Nat.lt_or_ge n 4 with hn | hn
  · rcases h3 with h3 | h3
    · omega
    · exfalso
      have hl := bl_length s
      have := hq n hn
      rw [List.getD_eq_getElem?_getD, List.getD_eq_getElem?_getD, List.getElem?_eq_getElem (by omega), List.getElem?_eq_getElem (by omega)] at this
      simp only [Option.getD_some] at this
      exact h3 (by rw [List.getElem?_eq_getElem (by omega), List.getElem?_eq_getElem (by omega), this])
  · exact hn
/-- What a place's four bytes are looked up to. -/
def Looked (s : ByteArray) (i : Nat) (r : Value) (ok : Bool) : Prop := (ok = false ∧ r = .int .i64 0) ∨ (ok = true ∧ ∃ j, j < i ∧ j + 4 ≤ s.size ∧ r = .int .i64 (j : Int) ∧ k4 s j = k4 s i)
theorem noted_look {s : ByteArray} {i : Nat} {w : World} {mb : Nat} {f : Value → Option Value} (hm : MapIs Try.prog 75 w mb f) (hn : Noted s i f) : ∃ r ok, (Instr.lookup 70 (.map (some mb)) (k4 s i) true).run Try.prog w = .ok (.tuple #[r, .bool ok]) w ∧ Looked s i r ok := by
  obtain ⟨kl, hkl⟩ := k4_key s i
  rcases hm.look four_keyed Try.underlying70 (zero_int w) hkl true with ⟨_, hr⟩ | ⟨v, hv, hr⟩
  · exact ⟨_, _, hr, .inl ⟨rfl, rfl⟩⟩
  · obtain ⟨j, h1, h2, h3, h4⟩ := hn _ _ hv
    exact ⟨_, _, hr, .inr ⟨rfl, j, h1, h2, h4, h3.symm⟩⟩
def PSt (s : ByteArray) (o : List UInt8) (pl : Nat) : Prop := (s.size = 0 ∧ o = [] ∧ pl = 0) ∨ (0 < s.size ∧ PInv s o pl)
theorem PSt.pl_le {s : ByteArray} {o : List UInt8} {pl : Nat} (h : PSt s o pl) : pl ≤ s.size := by
  rcases h with ⟨_, _, rfl⟩ | ⟨_, h⟩
  · exact Nat.zero_le _
  · exact h.1
theorem PSt.len {s : ByteArray} {o : List UInt8} {pl : Nat} (h : PSt s o pl) : o.length ≤ 31 * pl := by
  rcases h with ⟨_, rfl, _⟩ | ⟨_, h⟩
  · exact Nat.zero_le _
  · exact h.2.1
theorem bytes1 (w : World) (c : UInt8) (n : Int) (hn : n = (c.toNat : Int)) : (convert 47 9 (.slice (some ⟨w.heap.size, 0, none⟩) 1 1)).run Try.prog (w.alloc (.cells #[.int .u8 n] 5)) = .ok (.string ⟨#[c]⟩) (w.alloc (.cells #[.int .u8 n] 5)) := by
  subst hn
  have h : ByteRow (w.alloc (.cells #[.int .u8 (c.toNat : Int)] 5)) w.heap.size [c] := fun j hj => by
    obtain rfl : j = 0 := by simp at hj; exact hj
    have k := blk_new w (.cells #[.int .u8 (c.toNat : Int)] 5)
    exact ⟨(blk_cell k 0).trans rfl, blk_frozen k 0⟩
  exact h.str 1
theorem bytes1g {w : World} {g : Nat} (c : UInt8) (n : Int) (hn : n = (c.toNat : Int)) (k : w.heap[g]? = some (.cells #[.int .u8 n] 5 (0, 0))) : (convert 47 9 (.slice (some ⟨g, 0, none⟩) 1 1)).run Try.prog w = .ok (.string ⟨#[c]⟩) w := by
  subst hn
  have h : ByteRow w g [c] := fun j hj => by
    obtain rfl : j = 0 := by simp at hj; exact hj
    exact ⟨(blk_cell k 0).trans rfl, blk_frozen k 0⟩
  exact h.str 1
theorem Byt.len' {w : World} {B m c : Nat} {A : Option Addr} {o : List UInt8} (h : Byt w B (.slice A m c) o) : m = o.length := by
  obtain ⟨A', c', e⟩ := h.slice
  cases e
  rfl
set_option maxRecDepth 100000 in
theorem lz_pack_long (s : ByteArray) (w : World) (hs : 60000 < s.size) (hs2 : s.size ≤ 140737488351232) :
    Calls Try.prog 22 #[.string s] w fun e w' => e = .returned (.tuple #[.string ⟨#[]⟩, .int .i64 3]) ∧ Below w.heap.size w w' := by
  have HB := Lib.hid (Below.refl w.heap.size w)
  have x1 : decide ((60000 : Int) < (s.size : Int)) = true := by simp; omega
  have x1n : decide (60000 < s.size) = true := by simp; omega
  go_enter Try.func22, Try.ntmps22
  go_wp2
  go_ret2
  exact ⟨rfl, HB.out⟩
set_option maxRecDepth 100000 in
set_option maxHeartbeats 16000000 in
theorem lz_pack (s : ByteArray) (w : World) (hs : s.size ≤ 60000) :
    Calls Try.prog 22 #[.string s] w fun e w' => ∃ p, e = .returned (.tuple #[.string p, .int .i64 0]) ∧ lzUn p = (s, 0) ∧ p.size ≤ s.size + 4 ∧ Below w.heap.size w w' := by
  have x1 : decide ((60000 : Int) < (s.size : Int)) = false := by simp; omega
  have x1n : decide (60000 < s.size) = false := by simp; omega
  have hmm := @run_makeMap Try.prog
  have hs2 : s.size ≤ 140737488351232 := by omega
  go_enter Try.func22, Try.ntmps22
  go_wp2
  clear hmm x1 x1n
  have HB := Lib.hid ((Below.refl w.heap.size w).alloc (Nat.le_refl _) (.map #[] 0))
  have HB := Lib.hid (HB.out.alloc (by simp) (.cells #[.string s, .map (some w.heap.size), .slice none 0 0, .int .i64 0] 72))
  have HM := Lib.hid ((MapIs.made Try.prog 75 w).alloc (.cells #[.string s, .map (some w.heap.size), .slice none 0 0, .int .i64 0] 72))
  have HU := Lib.hid (show Pk ((w.alloc (.map #[] 0)).alloc (.cells #[.string s, .map (some w.heap.size), .slice none 0 0, .int .i64 0] 72)) w.heap.size (w.heap.size + 1) w.heap.size s (.slice none 0 0) [] 0 0 from
    ⟨row_new (w.alloc (.map #[] 0)) _ (n := w.heap.size + 1) (by simp), ⟨_, HM.out, fun x v h => by cases h⟩, Byt.none_ _ _, Nat.le_succ _, Nat.le_refl _⟩)
  obtain ⟨B, hB⟩ : ∃ B, w.heap.size = B := ⟨_, rfl⟩
  have hBw : B ≤ w.heap.size := Nat.le_of_eq hB.symm
  have HBW := Lib.hid hB
  rw [hB] at HB HM HU ⊢
  clear hB
  generalize World.alloc (World.alloc w _) _ = w1 at *
  obtain ⟨h, hh⟩ : ∃ h, B + 1 = h := ⟨_, rfl⟩
  rw [hh] at HU ⊢
  have hBh : B ≤ h := by omega
  clear hh HM
  go_loopw [5] (fun v5 wr => ∃ i : Nat, v5 = .int .i64 i ∧ i ≤ s.size ∧ Hid (∃ v o pl, Pk wr B h B s v o pl i ∧ PSt s o pl ∧ pl ≤ i) ∧ Hid (Below B w wr)) (fun v5 _ => s.size - (intOf v5).toNat)
  case atStart => exact ⟨0, rfl, Nat.zero_le _, Lib.hid ⟨_, _, _, HU.out, by
    rcases Nat.eq_zero_or_pos s.size with h0 | h0
    · exact .inl ⟨h0, rfl, rfl⟩
    · exact .inr ⟨h0, PInv.start s h0⟩, Nat.le_refl _⟩, HB⟩
  case round =>
    clear HU HB
    obtain ⟨i, rfl, hi, HX, HB⟩ := hrel
    obtain ⟨v, o, pl, hU, hP, hpi⟩ := HX.out
    clear HX
    have HU := Lib.hid hU; clear hU
    have HP := Lib.hid hP; clear hP
    have hplS := HP.out.pl_le
    have hol := HP.out.len
    have c0 := HU.out.pk.c0
    have c1 := HU.out.pk.c1
    have his : i ≤ 140737488351232 := by omega
    obtain ⟨A, m, c, rfl⟩ := HU.out.out.slice_
    by_cases h4 : i + 4 ≤ s.size
    · have x2 : decide ((i : Int) + 4 ≤ (s.size : Int)) = true := by simp; omega
      have x3 : (i : Int) + 4 ≤ (s.size : Int) := by omega
      have x4 : decide (((i + 4 : Nat) : Int) ≤ (s.size : Int)) = true := by simp; omega
      have x5 : decide (i + 4 ≤ s.size) = true := by simp; omega
      obtain ⟨e4, e4'⟩ := plus4 his
      have LA := Lib.hid (fun w => lz_at s i w h4 hs2)
      go_wp2
      clear e4 e4' x2 x3 x4 x5
      refine start_ (n := 13) (S := fun w' => w'.cell? ⟨h, 1, none⟩ = some (.map (some B))) (ds := []) #[false, false, false, false, false, false, false, false, false, false, false, false, false] (by kernel_rfl) rfl rfl (HU.out.pk.c1) (fun hHeld => ?_)
      have HB := Lib.hid (below_drew HB.out)
      have HU := Lib.hid HU.out.drew
      refine pure_ (i := 0) (N := some 23) (v := ?_) (a' := ?_) #[true, false, false, false, false, false, false, false, false, false, false, false, false] rfl rfl (by kernel_rfl) (fun _ _ _ h => h) (Or.inl ⟨by rfl, ?_⟩) ?_ ?_
      rotate_left
      · intro w'
        go_simp
        with_reducible rfl
      rotate_left
      · simp only [Act.put, List.setIfInBounds_toArray, List.set_cons_zero, List.set_cons_succ, i64_w, i32_w]
        rfl
      refine pure_ (i := 1) (N := some 24) (v := ?_) (a' := ?_) #[true, true, false, false, false, false, false, false, false, false, false, false, false] rfl rfl (by kernel_rfl) (fun _ _ _ h => h) (Or.inl ⟨by rfl, ?_⟩) ?_ ?_
      rotate_left
      · intro w'
        go_simp
        with_reducible rfl
      rotate_left
      · simp only [Act.put, List.setIfInBounds_toArray, List.set_cons_zero, List.set_cons_succ, i64_w, i32_w]
        rfl
      refine pure_ (i := 2) (N := some 25) (v := ?_) (a' := ?_) #[true, true, true, false, false, false, false, false, false, false, false, false, false] rfl rfl (by kernel_rfl) (fun _ _ _ h => h) (Or.inl ⟨by rfl, ?_⟩) ?_ ?_
      rotate_left
      · intro w'
        go_simp
        with_reducible rfl
      rotate_left
      · simp only [Act.put, List.setIfInBounds_toArray, List.set_cons_zero, List.set_cons_succ, i64_w, i32_w]
        rfl
      refine pure_ (i := 4) (N := some 27) (v := ?_) (a' := ?_) #[true, true, true, false, true, false, false, false, false, false, false, false, false] rfl rfl (by kernel_rfl) (fun _ _ _ h => h) (Or.inl ⟨by rfl, ?_⟩) ?_ ?_
      rotate_left
      · intro w'
        go_simp
        with_reducible rfl
      rotate_left
      · simp only [Act.put, List.setIfInBounds_toArray, List.set_cons_zero, List.set_cons_succ, i64_w, i32_w]
        rfl
      refine pure_ (i := 5) (N := some 28) (v := ?_) (a' := ?_) #[true, true, true, false, true, true, false, false, false, false, false, false, false] rfl rfl (by kernel_rfl) (fun _ _ _ h => h) (Or.inl ⟨by rfl, ?_⟩) ?_ ?_
      rotate_left
      · intro w'
        go_simp
        with_reducible rfl
      rotate_left
      · simp only [Act.put, List.setIfInBounds_toArray, List.set_cons_zero, List.set_cons_succ, i64_w, i32_w]
        rfl
      refine take_ (i := 3) (N := some 26) (v := ?_) (a' := ?_) #[true, true, true, true, true, true, false, false, false, false, false, false, false] rfl rfl (by kernel_rfl) (fun _ _ _ h => h) (Or.inl ⟨by rfl, ?_⟩) hHeld ?_ ?_
      rotate_left
      · intro w' s0
        go_simp
        with_reducible rfl
      rotate_left
      · simp only [Act.put, List.setIfInBounds_toArray, List.set_cons_zero, List.set_cons_succ, i64_w, i32_w]
        rfl
      refine one_ (i := 6) (N := some 29) #[true, true, true, true, true, true, true, false, false, false, false, false, false] rfl rfl (by kernel_rfl) (by decide) (fun K hK => ?_)
      refine goes_ Try.func39 (by kernel_rfl) rfl #[.string s, .int .i64 i] (by rfl) rfl rfl (by (try simp only [List.map_toArray, List.map_cons, List.map_nil]); first | done | rfl) ?_
      with_reducible refine (LA.out _).mono ?_
      rintro e w3 ⟨rfl, hb⟩
      refine ⟨_, rfl, ?_⟩
      have HB := Lib.hid (HB.out.trans (hb.mono (Nat.le_trans hBw HB.out.size)))
      have HU := Lib.hid (HU.out.below hb)
      refine hK.out _ _ (HU.out.pk.c1) (fun hHeld => ?_)
      clear hK K
      refine norm_ (a' := ?_) ?_ ?_
      rotate_left
      · show Act.put _ (some 29) _ = _
        simp only [Act.put, List.setIfInBounds_toArray, List.set_cons_zero, List.set_cons_succ, i64_w, i32_w]
        rfl
      refine one_ (i := 7) (N := some 30) #[true, true, true, true, true, true, true, true, false, false, false, false, false] rfl rfl (by kernel_rfl) (by decide) (fun K hK => ?_)
      obtain ⟨f, hm, hn⟩ := HU.out.mp
      obtain ⟨r, ok, hrun, hlk⟩ := noted_look hm hn
      have HLK := Lib.hid hlk; clear hlk hm hn
      refine value_ (w1 := w3) (v := .tuple #[r, .bool ok]) (by rfl) rfl (run_look 70 (.tmp 26) (.tmp 29) true rfl B _ _ rfl rfl hrun) ?_
      clear hrun
      refine hK.out _ _ (HU.out.pk.c1) (fun hHeld => ?_)
      clear hK K
      refine norm_ (a' := ?_) ?_ ?_
      rotate_left
      · show Act.put _ (some 30) _ = _
        simp only [Act.put, List.setIfInBounds_toArray, List.set_cons_zero, List.set_cons_succ, i64_w, i32_w]
        rfl
      refine pure_ (i := 8) (N := some 22) (v := ?_) (a' := ?_) #[true, true, true, true, true, true, true, true, true, false, false, false, false] rfl rfl (by kernel_rfl) (fun _ _ _ h => h) (Or.inl ⟨by rfl, ?_⟩) ?_ ?_
      rotate_left
      · intro w'
        go_simp
        with_reducible rfl
      rotate_left
      · simp only [Act.put, List.setIfInBounds_toArray, List.set_cons_zero, List.set_cons_succ, i64_w, i32_w]
        rfl
      refine pure_ (i := 9) (N := some 31) (v := ?_) (a' := ?_) #[true, true, true, true, true, true, true, true, true, true, false, false, false] rfl rfl (by kernel_rfl) (fun _ _ _ h => h) (Or.inl ⟨by rfl, ?_⟩) ?_ ?_
      rotate_left
      · intro w'
        go_simp
        with_reducible rfl
      rotate_left
      · simp only [Act.put, List.setIfInBounds_toArray, List.set_cons_zero, List.set_cons_succ, i64_w, i32_w]
        rfl
      refine pure_ (i := 10) (N := some 32) (v := ?_) (a' := ?_) #[true, true, true, true, true, true, true, true, true, true, true, false, false] rfl rfl (by kernel_rfl) (fun _ _ _ h => h) (Or.inl ⟨by rfl, ?_⟩) ?_ ?_
      rotate_left
      · intro w'
        go_simp
        with_reducible rfl
      rotate_left
      · simp only [Act.put, List.setIfInBounds_toArray, List.set_cons_zero, List.set_cons_succ, i64_w, i32_w]
        rfl
      refine pure_ (i := 11) (N := some 6) (v := ?_) (a' := ?_) #[true, true, true, true, true, true, true, true, true, true, true, true, false] rfl rfl (by kernel_rfl) (fun _ _ _ h => h) (Or.inl ⟨by rfl, ?_⟩) ?_ ?_
      rotate_left
      · intro w'
        go_simp
        with_reducible rfl
      rotate_left
      · simp only [Act.put, List.setIfInBounds_toArray, List.set_cons_zero, List.set_cons_succ, i64_w, i32_w]
        rfl
      refine pure_ (i := 12) (N := some 7) (v := ?_) (a' := ?_) #[true, true, true, true, true, true, true, true, true, true, true, true, true] rfl rfl (by kernel_rfl) (fun _ _ _ h => h) (Or.inl ⟨by rfl, ?_⟩) ?_ ?_
      rotate_left
      · intro w'
        go_simp
        with_reducible rfl
      rotate_left
      · simp only [Act.put, List.setIfInBounds_toArray, List.set_cons_zero, List.set_cons_succ, i64_w, i32_w]
        rfl
      refine done_ (by kernel_rfl) ?_

      clear c0 c1 hHeld LA
      rcases HLK.out with ⟨rfl, rfl⟩ | ⟨rfl, j, hj, hj4, rfl, hk⟩
      · have hw := succ_wrap' (i := i) (len := s.size) (by omega) hs2
        have HW := Lib.hid hw
        go_wp2_with fail
        refine (pk_note _ B h B i (i + 1) pl s _ o HU.out (Nat.le_succ _) (by omega) hs2 (Nat.le_trans hBw HB.out.size)).mono ?_
        rintro e w4 ⟨rfl, hu, hb⟩
        have HU := Lib.hid hu
        have HB := Lib.hid (HB.out.trans hb)
        clear hu hb
        go_wp2
        go_roundw
        case rel => exact ⟨i + 1, by go_num, by clear hw; omega, Lib.hid ⟨_, _, _, HU.out, HP.out, Nat.le_succ_of_le hpi⟩, HB⟩
        case measure => first | exact up_meas' (by clear hw; omega) hw | exact up_meas2' (by clear hw; omega)
      · have hq := k4_inj hk
        have HQ := Lib.hid hq; clear hq hk HLK
        go_wp2_with fail
        refine (lz_match s j i _ hj hi hs2).mono ?_
        rintro e w4 ⟨n, rfl, hmt, hb⟩
        have h4n := match_four hmt h4 (Nat.le_of_lt hj) HQ.out
        have hin := hmt.1
        have HMT := Lib.hid hmt; clear hmt
        have HU := Lib.hid (HU.out.below hb)
        have HB := Lib.hid (HB.out.trans (hb.mono (Nat.le_trans hBw HB.out.size)))
        clear hb
        obtain ⟨d, hd⟩ : ∃ d, i - j = d := ⟨_, rfl⟩
        have hsub : wrap64 ((i : Int) - (j : Int)) = (d : Int) := by rw [wrap64_id (by omega) (by omega)]; omega
        have hsub2 : (i : Int) - (j : Int) = (d : Int) := by clear hsub; omega
        have HSB := Lib.hid (And.intro hsub hsub2); clear hsub hsub2
        have HI2 := Lib.hid (show PInv s (o ++ bl (textS (s.extract pl i)) ++ bl (uvS d ++ uvS n)) (i + n) from by
          rcases HP.out with ⟨h0, _⟩ | ⟨h0, hI⟩
          · omega
          · exact hI.step i d n hs hpi (by omega) (by omega) (by omega) h4n hin (fun t ht => by rw [show i + t - d = j + t by omega]; exact (HMT.out.2.1 t ht).symm))
        have hd6 : d ≤ 60000 := by omega
        obtain ⟨e5, e5'⟩ := idx_wrap' (a := i) (n := n) (k := s.size) hin hs2
        have HE5 := Lib.hid e5; clear e5 e5'
        obtain ⟨hsub, hsub2⟩ := HSB.out
        go_wp2_with fail
        refine (pk_copy _ B h B i d n pl i s _ o HU.out hs hpi hin hd6 (Nat.le_refl _) (by clear hsub hsub2; omega) (Nat.le_trans hBw HB.out.size)).mono ?_
        rintro e w5 ⟨rfl, ⟨v', hu⟩, hb⟩
        have HU := Lib.hid hu
        have HB := Lib.hid (HB.out.trans hb)
        clear hu hb hsub hsub2
        have he5 := HE5.out
        go_wp2
        go_roundw
        case rel => exact ⟨i + n, by first | rfl | go_num, hin, Lib.hid ⟨_, _, _, HU.out, .inr ⟨by clear he5; omega, HI2.out⟩, Nat.le_refl _⟩, HB⟩
        case measure => first | (rw [he5]; simp only [intOf]; clear he5; omega) | (simp only [intOf]; clear he5; omega)
    · have x2 : decide ((i : Int) + 4 ≤ (s.size : Int)) = false := by simp; omega
      have x3 : ¬ (i : Int) + 4 ≤ (s.size : Int) := by omega
      have x4 : decide (((i + 4 : Nat) : Int) ≤ (s.size : Int)) = false := by simp; omega
      have x5 : decide (i + 4 ≤ s.size) = false := by simp; omega
      obtain ⟨e4, e4'⟩ := plus4 his
      have c2 := HU.out.pk.c2
      have c3 := HU.out.pk.c3
      have T0 := Lib.hid (fun w => text_any (s.extract pl s.size) w (by rw [ByteArray.size_extract]; omega))
      have hts : (textS (s.extract pl s.size)).size ≤ 60010 := by
        unfold textS
        have hx : (s.extract pl s.size).size = s.size - pl := by rw [ByteArray.size_extract]; omega
        rw [ByteArray.size_append, hx, uvS_size]
        have := uv_len10 (n := s.size - pl) (by omega)
        omega
      have U0 := Lib.hid (fun w => uint_any s.size w (by omega))
      have hu3 := uv_len3 hs
      have y1 : IntKind.u64.wrap (s.size : Int) = (s.size : Int) := wrap_u64_nat (by omega)
      have Y1 := Lib.hid y1; clear y1
      have hdn := str_none' s
      by_cases hlt : pl < s.size
      · have q3 : decide ((pl : Int) < (s.size : Int)) = true := by simp; omega
        have q4 : decide (pl < s.size) = true := by simp; omega
        have HALL := Lib.hid (show (o ++ bl (textS (s.extract pl s.size))).length < s.size → lzAll s.size ⟨(o ++ bl (textS (s.extract pl s.size))).toArray⟩ = some (⟨#[]⟩, bl s) from fun _ => by
          rcases HP.out with ⟨h0, _⟩ | ⟨h0, hI⟩
          · omega
          · exact hI.last hs hlt)
        clear hdn
        go_wp2
        clear q3 q4 e4 e4' x2 x3 x4 x5
        generalize textS (s.extract pl s.size) = t0 at *
        have hm := HU.out.out.len'
        have hl1 : o.length + t0.size ≤ 140737488355328 := by omega
        clear hm
        refine start_ (n := 16) (S := fun w' => w'.cell? ⟨h, 2, none⟩ = some (.slice A m c) ∧ w'.cell? ⟨h, 3, none⟩ = some (.int .i64 pl)) (ds := [12, 15]) #[false, false, false, false, false, false, false, false, false, false, false, false, false, false, false, false] (by kernel_rfl) rfl rfl ⟨HU.out.pk.c2, HU.out.pk.c3⟩ (fun hHeld => ?_)
        have HB := Lib.hid (below_drew HB.out)
        have HU := Lib.hid HU.out.drew
        refine pure_ (i := 0) (N := some 67) (v := ?_) (a' := ?_) #[true, false, false, false, false, false, false, false, false, false, false, false, false, false, false, false] rfl rfl (by kernel_rfl) (fun _ _ _ h => h) (Or.inl ⟨by rfl, ?_⟩) ?_ ?_
        rotate_left
        · intro w'
          go_simp
          with_reducible rfl
        rotate_left
        · simp only [Act.put, List.setIfInBounds_toArray, List.set_cons_zero, List.set_cons_succ, i64_w, i32_w]
          rfl
        refine pure_ (i := 1) (N := some 68) (v := ?_) (a' := ?_) #[true, true, false, false, false, false, false, false, false, false, false, false, false, false, false, false] rfl rfl (by kernel_rfl) (fun _ _ _ h => h) (Or.inl ⟨by rfl, ?_⟩) ?_ ?_
        rotate_left
        · intro w'
          go_simp
          with_reducible rfl
        rotate_left
        · simp only [Act.put, List.setIfInBounds_toArray, List.set_cons_zero, List.set_cons_succ, i64_w, i32_w]
          rfl
        refine pure_ (i := 2) (N := some 69) (v := ?_) (a' := ?_) #[true, true, true, false, false, false, false, false, false, false, false, false, false, false, false, false] rfl rfl (by kernel_rfl) (fun _ _ _ h => h) (Or.inl ⟨by rfl, ?_⟩) ?_ ?_
        rotate_left
        · intro w'
          go_simp
          with_reducible rfl
        rotate_left
        · simp only [Act.put, List.setIfInBounds_toArray, List.set_cons_zero, List.set_cons_succ, i64_w, i32_w]
          rfl
        refine pure_ (i := 3) (N := some 70) (v := ?_) (a' := ?_) #[true, true, true, true, false, false, false, false, false, false, false, false, false, false, false, false] rfl rfl (by kernel_rfl) (fun _ _ _ h => h) (Or.inl ⟨by rfl, ?_⟩) ?_ ?_
        rotate_left
        · intro w'
          go_simp
          with_reducible rfl
        rotate_left
        · simp only [Act.put, List.setIfInBounds_toArray, List.set_cons_zero, List.set_cons_succ, i64_w, i32_w]
          rfl
        refine pure_ (i := 5) (N := some 72) (v := ?_) (a' := ?_) #[true, true, true, true, false, true, false, false, false, false, false, false, false, false, false, false] rfl rfl (by kernel_rfl) (fun _ _ _ h => h) (Or.inl ⟨by rfl, ?_⟩) ?_ ?_
        rotate_left
        · intro w'
          go_simp
          with_reducible rfl
        rotate_left
        · simp only [Act.put, List.setIfInBounds_toArray, List.set_cons_zero, List.set_cons_succ, i64_w, i32_w]
          rfl
        refine pure_ (i := 6) (N := some 73) (v := ?_) (a' := ?_) #[true, true, true, true, false, true, true, false, false, false, false, false, false, false, false, false] rfl rfl (by kernel_rfl) (fun _ _ _ h => h) (Or.inl ⟨by rfl, ?_⟩) ?_ ?_
        rotate_left
        · intro w'
          go_simp
          with_reducible rfl
        rotate_left
        · simp only [Act.put, List.setIfInBounds_toArray, List.set_cons_zero, List.set_cons_succ, i64_w, i32_w]
          rfl
        refine pure_ (i := 7) (N := some 74) (v := ?_) (a' := ?_) #[true, true, true, true, false, true, true, true, false, false, false, false, false, false, false, false] rfl rfl (by kernel_rfl) (fun _ _ _ h => h) (Or.inl ⟨by rfl, ?_⟩) ?_ ?_
        rotate_left
        · intro w'
          go_simp
          with_reducible rfl
        rotate_left
        · simp only [Act.put, List.setIfInBounds_toArray, List.set_cons_zero, List.set_cons_succ, i64_w, i32_w]
          rfl
        refine pure_ (i := 8) (N := some 75) (v := ?_) (a' := ?_) #[true, true, true, true, false, true, true, true, true, false, false, false, false, false, false, false] rfl rfl (by kernel_rfl) (fun _ _ _ h => h) (Or.inl ⟨by rfl, ?_⟩) ?_ ?_
        rotate_left
        · intro w'
          go_simp
          with_reducible rfl
        rotate_left
        · simp only [Act.put, List.setIfInBounds_toArray, List.set_cons_zero, List.set_cons_succ, i64_w, i32_w]
          rfl
        refine take_ (i := 4) (N := some 71) (v := ?_) (a' := ?_) #[true, true, true, true, true, true, true, true, true, false, false, false, false, false, false, false] rfl rfl (by kernel_rfl) (fun _ _ _ h => h) (Or.inl ⟨by rfl, ?_⟩) hHeld ?_ ?_
        rotate_left
        · rintro w' ⟨s0, s1⟩
          go_simp
          with_reducible rfl
        rotate_left
        · simp only [Act.put, List.setIfInBounds_toArray, List.set_cons_zero, List.set_cons_succ, i64_w, i32_w]
          rfl
        refine take_ (i := 9) (N := some 76) (v := ?_) (a' := ?_) #[true, true, true, true, true, true, true, true, true, true, false, false, false, false, false, false] rfl rfl (by kernel_rfl) (fun _ _ _ h => h) (Or.inl ⟨by rfl, ?_⟩) hHeld ?_ ?_
        rotate_left
        · rintro w' ⟨s0, s1⟩
          go_simp
          with_reducible rfl
        rotate_left
        · simp only [Act.put, List.setIfInBounds_toArray, List.set_cons_zero, List.set_cons_succ, i64_w, i32_w]
          rfl
        refine pure_ (i := 10) (N := some 77) (v := ?_) (a' := ?_) #[true, true, true, true, true, true, true, true, true, true, true, false, false, false, false, false] rfl rfl (by kernel_rfl) (fun _ _ _ h => h) (Or.inl ⟨by rfl, ?_⟩) ?_ ?_
        rotate_left
        · intro w'
          go_simp
          with_reducible rfl
        rotate_left
        · simp only [Act.put, List.setIfInBounds_toArray, List.set_cons_zero, List.set_cons_succ, i64_w, i32_w]
          rfl
        refine one_ (i := 11) (N := some 78) #[true, true, true, true, true, true, true, true, true, true, true, true, false, false, false, false] rfl rfl (by kernel_rfl) (by decide) (fun K hK => ?_)
        refine goes_ Try.func43 (by kernel_rfl) rfl #[.string (s.extract pl s.size)] (by rfl) rfl rfl (by (try simp only [List.map_toArray, List.map_cons, List.map_nil]); first | done | rfl) ?_
        with_reducible refine (T0.out _).mono ?_
        rintro e w3 ⟨rfl, hb⟩
        refine ⟨_, rfl, ?_⟩
        have HB := Lib.hid (HB.out.trans (hb.mono (Nat.le_trans hBw HB.out.size)))
        have HU := Lib.hid (HU.out.below hb)
        refine hK.out _ _ ⟨HU.out.pk.c2, HU.out.pk.c3⟩ (fun hHeld => ?_)
        clear hK K
        refine norm_ (a' := ?_) ?_ ?_
        rotate_left
        · show Act.put _ (some 78) _ = _
          simp only [Act.put, List.setIfInBounds_toArray, List.set_cons_zero, List.set_cons_succ, i64_w, i32_w]
          rfl
        refine last_ (i := 12) (N := some 79) #[true, true, true, true, true, true, true, true, true, true, true, true, true, false, false, false] rfl rfl (by kernel_rfl) (by decide) (fun K hK => ?_)
        refine app_str_step (w0 := w) B (by rfl) (.tmp 71) (.tmp 78) _ o t0 rfl rfl rfl HU.out.out HB.out (Nat.le_trans hBw HB.out.size) hl1 ?_
        intro v1 w5 HO1 HB1 HG1
        refine hK.out _ _ ?_
        clear hK K
        refine norm_ (a' := ?_) ?_ ?_
        rotate_left
        · show Act.put _ (some 79) _ = _
          simp only [Act.put, List.setIfInBounds_toArray, List.set_cons_zero, List.set_cons_succ, i64_w, i32_w]
          rfl
        refine pure_ (i := 13) (N := some 80) (v := ?_) (a' := ?_) #[true, true, true, true, true, true, true, true, true, true, true, true, true, true, false, false] rfl rfl (by kernel_rfl) (fun _ _ _ h => h) (Or.inl ⟨by rfl, ?_⟩) ?_ ?_
        rotate_left
        · intro w'
          go_simp
          with_reducible rfl
        rotate_left
        · simp only [Act.put, List.setIfInBounds_toArray, List.set_cons_zero, List.set_cons_succ, i64_w, i32_w]
          rfl
        refine pure_ (i := 14) (N := some 81) (v := ?_) (a' := ?_) #[true, true, true, true, true, true, true, true, true, true, true, true, true, true, true, false] rfl rfl (by kernel_rfl) (fun _ _ _ h => h) (Or.inl ⟨by rfl, ?_⟩) ?_ ?_
        rotate_left
        · intro w'
          go_simp
          with_reducible rfl
        rotate_left
        · simp only [Act.put, List.setIfInBounds_toArray, List.set_cons_zero, List.set_cons_succ, i64_w, i32_w]
          rfl
        refine last_ (i := 15) (N := none) #[true, true, true, true, true, true, true, true, true, true, true, true, true, true, true, true] rfl rfl (by kernel_rfl) (by decide) (fun K hK => ?_)
        have hx5 : IsPk w5 h s B (.slice A m c) pl := blk_grown HU.out.pk HG1.out (HU.out.out.ne HU.out.pk (by decide))
        refine skip_ (w1 := _) (by rfl) rfl (run_stcell 47 (.tmp 81) (.tmp 79) rfl h 2 v1 rfl rfl (by obtain ⟨A1, m1, c1, rfl⟩ := HO1.out.slice_; rfl) (by kernel_rfl) (by rw [hx5.c2]; rfl) (hx5.f 2)) ?_
        refine hK.out _ _ ?_
        clear hK K
        refine done_ (by kernel_rfl) ?_
        have HU := Lib.hid (HU.out.put (w1 := w5) HG1.out HO1.out)
        have HB := Lib.hid (below_setc (p := ⟨h, 2, none⟩) HB1.out HU.out.hb v1)
        generalize w5.setCell ⟨h, 2, none⟩ v1 = w6 at *
        clear hHeld c0 c1 c2 c3
        obtain ⟨A, m, c, rfl⟩ := HU.out.out.slice_
        have c2 := HU.out.pk.c2
        have c3 := HU.out.pk.c3
        have hm := HU.out.out.len'
        have HML := Lib.hid hm; clear hm
        obtain ⟨ob, hob⟩ : ∃ ob : ByteArray, (⟨(o ++ bl t0).toArray⟩ : ByteArray) = ob := ⟨_, rfl⟩
        have hobs : ob.size = (o ++ bl t0).length := by rw [← hob]; exact List.size_toArray
        have HOB := Lib.hid hob; clear hob
        have y1 := Y1.out
        go_wp2_with fail
        refine (U0.out _).mono ?_
        rintro e w7 ⟨rfl, hb⟩
        have HU := Lib.hid (HU.out.below hb)
        have HB := Lib.hid (HB.out.trans (hb.mono (Nat.le_trans hBw HB.out.size)))
        clear hb c2 c3 y1
        have c2 := HU.out.pk.c2
        by_cases hlt : m < s.size
        · have q1 : decide ((m : Int) < (s.size : Int)) = true := by simp; omega
          have q2 : decide (m < s.size) = true := by simp; omega
          have hol' : ob.size < s.size := by rw [hobs, ← HML.out]; exact hlt
          have HFIN := Lib.hid (pack_parts hs (HALL.out (by rw [← HML.out]; exact hlt)))
          rw [HOB.out] at HFIN
          have HSZ := Lib.hid (show (uvS s.size ++ ⟨#[1]⟩ ++ ob).size ≤ s.size + 4 by rw [ByteArray.size_append, ByteArray.size_append]; show _ + 1 + _ ≤ _; omega)
          generalize uvS s.size = u at *
          have z1 : (9223372036854775807 < u.size + 1) = False := eq_false (by omega)
          have z2 : (9223372036854775807 < (u ++ ⟨#[1]⟩).size + ob.size) = False := eq_false (by rw [ByteArray.size_append]; show ¬ _ < _ + 1 + _; omega)
          have z3 : (9223372036854775807 < u.size + 1 + ob.size) = False := eq_false (by omega)
          clear hobs
          go_wp2
          clear q1 q2
          refine start_ (n := 12) (S := fun w' => w'.cell? ⟨h, 2, none⟩ = some (.slice A m c) ∧ Byt w' B (.slice A m c) (o ++ bl t0)) (ds := []) #[false, false, false, false, false, false, false, false, false, false, false, false] (by kernel_rfl) rfl rfl ⟨HU.out.pk.c2, HU.out.out⟩ (fun hHeld => ?_)
          have HB := Lib.hid (below_drew HB.out)
          have HU := Lib.hid HU.out.drew
          refine pure_ (i := 0) (N := some 94) (v := ?_) (a' := ?_) #[true, false, false, false, false, false, false, false, false, false, false, false] rfl rfl (by kernel_rfl) (fun _ _ _ h => h) (Or.inl ⟨by rfl, ?_⟩) ?_ ?_
          rotate_left
          · intro w'
            go_simp
            with_reducible rfl
          rotate_left
          · simp only [Act.put, List.setIfInBounds_toArray, List.set_cons_zero, List.set_cons_succ, i64_w, i32_w]
            rfl
          refine pure_ (i := 4) (N := some 98) (v := ?_) (a' := ?_) #[true, false, false, false, true, false, false, false, false, false, false, false] rfl rfl (by kernel_rfl) (fun _ _ _ h => h) (Or.inl ⟨by rfl, ?_⟩) ?_ ?_
          rotate_left
          · intro w'
            go_simp
            with_reducible rfl
          rotate_left
          · simp only [Act.put, List.setIfInBounds_toArray, List.set_cons_zero, List.set_cons_succ, i64_w, i32_w]
            rfl
          refine pure_ (i := 5) (N := some 99) (v := ?_) (a' := ?_) #[true, false, false, false, true, true, false, false, false, false, false, false] rfl rfl (by kernel_rfl) (fun _ _ _ h => h) (Or.inl ⟨by rfl, ?_⟩) ?_ ?_
          rotate_left
          · intro w'
            go_simp
            with_reducible rfl
          rotate_left
          · simp only [Act.put, List.setIfInBounds_toArray, List.set_cons_zero, List.set_cons_succ, i64_w, i32_w]
            rfl
          refine pure_ (i := 6) (N := some 100) (v := ?_) (a' := ?_) #[true, false, false, false, true, true, true, false, false, false, false, false] rfl rfl (by kernel_rfl) (fun _ _ _ h => h) (Or.inl ⟨by rfl, ?_⟩) ?_ ?_
          rotate_left
          · intro w'
            go_simp
            with_reducible rfl
          rotate_left
          · simp only [Act.put, List.setIfInBounds_toArray, List.set_cons_zero, List.set_cons_succ, i64_w, i32_w]
            rfl
          refine take_ (i := 7) (N := some 101) (v := ?_) (a' := ?_) #[true, false, false, false, true, true, true, true, false, false, false, false] rfl rfl (by kernel_rfl) (fun _ _ _ h => h) (Or.inl ⟨by rfl, ?_⟩) hHeld ?_ ?_
          rotate_left
          · rintro w' ⟨s0, s1⟩
            go_simp
            with_reducible rfl
          rotate_left
          · simp only [Act.put, List.setIfInBounds_toArray, List.set_cons_zero, List.set_cons_succ, i64_w, i32_w]
            rfl
          refine take_ (i := 8) (N := some 102) (v := ?_) (a' := ?_) #[true, false, false, false, true, true, true, true, true, false, false, false] rfl rfl (by kernel_rfl) (fun _ _ _ h => h) (Or.inl ⟨by rfl, ?_⟩) hHeld ?_ ?_
          rotate_left
          · rintro w' ⟨s0, s1⟩
            refine run_conv 47 9 (.tmp 101) ?_ (.slice A m c) (.string ob) ?_ (by rw [← HOB.out]; exact s1.conv) <;> rfl
          rotate_left
          · simp only [Act.put, List.setIfInBounds_toArray, List.set_cons_zero, List.set_cons_succ, i64_w, i32_w]
            rfl
          refine one_ (i := 1) (N := some 95) #[true, true, false, false, true, true, true, true, true, false, false, false] rfl rfl (by kernel_rfl) (by decide) (fun K hK => ?_)
          refine value_ (w1 := ?_) (v := ?_) (by rfl) rfl ?_ ?_
          rotate_left 2
          · go_simp
            constructor
            · rfl
            · rfl
          have HB := Lib.hid (HB.out.trans ((below_alloc (Below.refl _ _) (.cells #[.int .u8 1] 5)).mono (Nat.le_trans hBw HB.out.size)))
          refine hK.out _ _ ⟨pw_cell_below (below_alloc (Below.refl _ _) _) hHeld.1, hHeld.2.below (below_alloc (Below.refl _ _) _)⟩ (fun hHeld => ?_)
          clear hK K
          refine norm_ (a' := ?_) ?_ ?_
          rotate_left
          · show Act.put _ (some 95) _ = _
            simp only [Act.put, List.setIfInBounds_toArray, List.set_cons_zero, List.set_cons_succ, i64_w, i32_w]
            rfl
          refine one_ (i := 2) (N := some 96) #[true, true, true, false, true, true, true, true, true, false, false, false] rfl rfl (by kernel_rfl) (by decide) (fun K hK => ?_)
          refine value_ (w1 := _) (v := .string ⟨#[1]⟩) (by rfl) rfl (run_conv 47 9 (.tmp 95) rfl _ (.string ⟨#[1]⟩) rfl (bytes1g 1 1 rfl (blk_drew (blk_new _ _)))) ?_
          refine hK.out _ _ ⟨hHeld.1, hHeld.2⟩ (fun hHeld => ?_)
          clear hK K
          refine norm_ (a' := ?_) ?_ ?_
          rotate_left
          · show Act.put _ (some 96) _ = _
            simp only [Act.put, List.setIfInBounds_toArray, List.set_cons_zero, List.set_cons_succ, i64_w, i32_w]
            rfl
          refine pure_ (i := 3) (N := some 97) (v := ?_) (a' := ?_) #[true, true, true, true, true, true, true, true, true, false, false, false] rfl rfl (by kernel_rfl) (fun _ _ _ h => h) (Or.inl ⟨by rfl, ?_⟩) ?_ ?_
          rotate_left
          · intro w'
            go_simp
            with_reducible rfl
          rotate_left
          · simp only [Act.put, List.setIfInBounds_toArray, List.set_cons_zero, List.set_cons_succ, i64_w, i32_w]
            rfl
          refine pure_ (i := 9) (N := some 103) (v := ?_) (a' := ?_) #[true, true, true, true, true, true, true, true, true, true, false, false] rfl rfl (by kernel_rfl) (fun _ _ _ h => h) (Or.inl ⟨by rfl, ?_⟩) ?_ ?_
          rotate_left
          · intro w'
            go_simp
            with_reducible rfl
          rotate_left
          · simp only [Act.put, List.setIfInBounds_toArray, List.set_cons_zero, List.set_cons_succ, i64_w, i32_w]
            rfl
          refine pure_ (i := 10) (N := some 2) (v := ?_) (a' := ?_) #[true, true, true, true, true, true, true, true, true, true, true, false] rfl rfl (by kernel_rfl) (fun _ _ _ h => h) (Or.inl ⟨by rfl, ?_⟩) ?_ ?_
          rotate_left
          · intro w'
            go_simp
            with_reducible rfl
          rotate_left
          · simp only [Act.put, List.setIfInBounds_toArray, List.set_cons_zero, List.set_cons_succ, i64_w, i32_w]
            rfl
          refine pure_ (i := 11) (N := some 3) (v := ?_) (a' := ?_) #[true, true, true, true, true, true, true, true, true, true, true, true] rfl rfl (by kernel_rfl) (fun _ _ _ h => h) (Or.inl ⟨by rfl, ?_⟩) ?_ ?_
          rotate_left
          · intro w'
            go_simp
            with_reducible rfl
          rotate_left
          · simp only [Act.put, List.setIfInBounds_toArray, List.set_cons_zero, List.set_cons_succ, i64_w, i32_w]
            rfl
          refine done_ (by kernel_rfl) ?_
          clear hHeld
          go_wp2
          go_ret2
          exact ⟨u ++ ⟨#[1]⟩ ++ ob, rfl, HFIN.out, HSZ.out, by first | exact HB.out | (rw [HBW.out]; exact HB.out)⟩
        · have q1 : decide ((m : Int) < (s.size : Int)) = false := by simp; omega
          have q2 : decide (m < s.size) = false := by simp; omega
          have HFIN := Lib.hid (pack_stored hs)
          have HSZ := Lib.hid (show (uvS s.size ++ ⟨#[0]⟩ ++ s).size ≤ s.size + 4 by rw [ByteArray.size_append, ByteArray.size_append]; show _ + 1 + _ ≤ _; omega)
          generalize uvS s.size = u at *
          have z1 : (9223372036854775807 < u.size + 1) = False := eq_false (by omega)
          have z2 : (9223372036854775807 < (u ++ ⟨#[0]⟩).size + s.size) = False := eq_false (by rw [ByteArray.size_append]; show ¬ _ < _ + 1 + _; omega)
          have z3 : (9223372036854775807 < u.size + 1 + s.size) = False := eq_false (by omega)
          have hcv := bytes1 w7 0 0 rfl
          clear hobs
          have HB := Lib.hid (HB.out.trans ((below_alloc (Below.refl _ _) (.cells #[.int .u8 0] 5)).mono (Nat.le_trans hBw HB.out.size)))
          go_wp2
          go_ret2
          exact ⟨u ++ ⟨#[0]⟩ ++ s, rfl, HFIN.out, HSZ.out, by first | exact HB.out | (rw [HBW.out]; exact HB.out)⟩
      · have q3 : decide ((pl : Int) < (s.size : Int)) = false := by simp; omega
        have q4 : decide (pl < s.size) = false := by simp; omega
        by_cases h0 : s.size = 0
        · rw [decide_eq_true h0] at hdn
          have HALL := Lib.hid (show (o ++ bl (textS (s.extract pl s.size))).length < s.size → lzAll s.size ⟨(o ++ bl (textS (s.extract pl s.size))).toArray⟩ = some (⟨#[]⟩, bl s) from fun h => absurd h (by omega))
          have H0 := Lib.hid h0; clear h0
          go_wp2
          clear q3 q4 e4 e4' x2 x3 x4 x5 hdn
          generalize textS (s.extract pl s.size) = t0 at *
          have hm := HU.out.out.len'
          have hl1 : o.length + t0.size ≤ 140737488355328 := by omega
          clear hm
          refine start_ (n := 16) (S := fun w' => w'.cell? ⟨h, 2, none⟩ = some (.slice A m c) ∧ w'.cell? ⟨h, 3, none⟩ = some (.int .i64 pl)) (ds := [12, 15]) #[false, false, false, false, false, false, false, false, false, false, false, false, false, false, false, false] (by kernel_rfl) rfl rfl ⟨HU.out.pk.c2, HU.out.pk.c3⟩ (fun hHeld => ?_)
          have HB := Lib.hid (below_drew HB.out)
          have HU := Lib.hid HU.out.drew
          refine pure_ (i := 0) (N := some 67) (v := ?_) (a' := ?_) #[true, false, false, false, false, false, false, false, false, false, false, false, false, false, false, false] rfl rfl (by kernel_rfl) (fun _ _ _ h => h) (Or.inl ⟨by rfl, ?_⟩) ?_ ?_
          rotate_left
          · intro w'
            go_simp
            with_reducible rfl
          rotate_left
          · simp only [Act.put, List.setIfInBounds_toArray, List.set_cons_zero, List.set_cons_succ, i64_w, i32_w]
            rfl
          refine pure_ (i := 1) (N := some 68) (v := ?_) (a' := ?_) #[true, true, false, false, false, false, false, false, false, false, false, false, false, false, false, false] rfl rfl (by kernel_rfl) (fun _ _ _ h => h) (Or.inl ⟨by rfl, ?_⟩) ?_ ?_
          rotate_left
          · intro w'
            go_simp
            with_reducible rfl
          rotate_left
          · simp only [Act.put, List.setIfInBounds_toArray, List.set_cons_zero, List.set_cons_succ, i64_w, i32_w]
            rfl
          refine pure_ (i := 2) (N := some 69) (v := ?_) (a' := ?_) #[true, true, true, false, false, false, false, false, false, false, false, false, false, false, false, false] rfl rfl (by kernel_rfl) (fun _ _ _ h => h) (Or.inl ⟨by rfl, ?_⟩) ?_ ?_
          rotate_left
          · intro w'
            go_simp
            with_reducible rfl
          rotate_left
          · simp only [Act.put, List.setIfInBounds_toArray, List.set_cons_zero, List.set_cons_succ, i64_w, i32_w]
            rfl
          refine pure_ (i := 3) (N := some 70) (v := ?_) (a' := ?_) #[true, true, true, true, false, false, false, false, false, false, false, false, false, false, false, false] rfl rfl (by kernel_rfl) (fun _ _ _ h => h) (Or.inl ⟨by rfl, ?_⟩) ?_ ?_
          rotate_left
          · intro w'
            go_simp
            with_reducible rfl
          rotate_left
          · simp only [Act.put, List.setIfInBounds_toArray, List.set_cons_zero, List.set_cons_succ, i64_w, i32_w]
            rfl
          refine pure_ (i := 5) (N := some 72) (v := ?_) (a' := ?_) #[true, true, true, true, false, true, false, false, false, false, false, false, false, false, false, false] rfl rfl (by kernel_rfl) (fun _ _ _ h => h) (Or.inl ⟨by rfl, ?_⟩) ?_ ?_
          rotate_left
          · intro w'
            go_simp
            with_reducible rfl
          rotate_left
          · simp only [Act.put, List.setIfInBounds_toArray, List.set_cons_zero, List.set_cons_succ, i64_w, i32_w]
            rfl
          refine pure_ (i := 6) (N := some 73) (v := ?_) (a' := ?_) #[true, true, true, true, false, true, true, false, false, false, false, false, false, false, false, false] rfl rfl (by kernel_rfl) (fun _ _ _ h => h) (Or.inl ⟨by rfl, ?_⟩) ?_ ?_
          rotate_left
          · intro w'
            go_simp
            with_reducible rfl
          rotate_left
          · simp only [Act.put, List.setIfInBounds_toArray, List.set_cons_zero, List.set_cons_succ, i64_w, i32_w]
            rfl
          refine pure_ (i := 7) (N := some 74) (v := ?_) (a' := ?_) #[true, true, true, true, false, true, true, true, false, false, false, false, false, false, false, false] rfl rfl (by kernel_rfl) (fun _ _ _ h => h) (Or.inl ⟨by rfl, ?_⟩) ?_ ?_
          rotate_left
          · intro w'
            go_simp
            with_reducible rfl
          rotate_left
          · simp only [Act.put, List.setIfInBounds_toArray, List.set_cons_zero, List.set_cons_succ, i64_w, i32_w]
            rfl
          refine pure_ (i := 8) (N := some 75) (v := ?_) (a' := ?_) #[true, true, true, true, false, true, true, true, true, false, false, false, false, false, false, false] rfl rfl (by kernel_rfl) (fun _ _ _ h => h) (Or.inl ⟨by rfl, ?_⟩) ?_ ?_
          rotate_left
          · intro w'
            go_simp
            with_reducible rfl
          rotate_left
          · simp only [Act.put, List.setIfInBounds_toArray, List.set_cons_zero, List.set_cons_succ, i64_w, i32_w]
            rfl
          refine take_ (i := 4) (N := some 71) (v := ?_) (a' := ?_) #[true, true, true, true, true, true, true, true, true, false, false, false, false, false, false, false] rfl rfl (by kernel_rfl) (fun _ _ _ h => h) (Or.inl ⟨by rfl, ?_⟩) hHeld ?_ ?_
          rotate_left
          · rintro w' ⟨s0, s1⟩
            go_simp
            with_reducible rfl
          rotate_left
          · simp only [Act.put, List.setIfInBounds_toArray, List.set_cons_zero, List.set_cons_succ, i64_w, i32_w]
            rfl
          refine take_ (i := 9) (N := some 76) (v := ?_) (a' := ?_) #[true, true, true, true, true, true, true, true, true, true, false, false, false, false, false, false] rfl rfl (by kernel_rfl) (fun _ _ _ h => h) (Or.inl ⟨by rfl, ?_⟩) hHeld ?_ ?_
          rotate_left
          · rintro w' ⟨s0, s1⟩
            go_simp
            with_reducible rfl
          rotate_left
          · simp only [Act.put, List.setIfInBounds_toArray, List.set_cons_zero, List.set_cons_succ, i64_w, i32_w]
            rfl
          refine pure_ (i := 10) (N := some 77) (v := ?_) (a' := ?_) #[true, true, true, true, true, true, true, true, true, true, true, false, false, false, false, false] rfl rfl (by kernel_rfl) (fun _ _ _ h => h) (Or.inl ⟨by rfl, ?_⟩) ?_ ?_
          rotate_left
          · intro w'
            go_simp
            with_reducible rfl
          rotate_left
          · simp only [Act.put, List.setIfInBounds_toArray, List.set_cons_zero, List.set_cons_succ, i64_w, i32_w]
            rfl
          refine one_ (i := 11) (N := some 78) #[true, true, true, true, true, true, true, true, true, true, true, true, false, false, false, false] rfl rfl (by kernel_rfl) (by decide) (fun K hK => ?_)
          refine goes_ Try.func43 (by kernel_rfl) rfl #[.string (s.extract pl s.size)] (by rfl) rfl rfl (by (try simp only [List.map_toArray, List.map_cons, List.map_nil]); first | done | rfl) ?_
          with_reducible refine (T0.out _).mono ?_
          rintro e w3 ⟨rfl, hb⟩
          refine ⟨_, rfl, ?_⟩
          have HB := Lib.hid (HB.out.trans (hb.mono (Nat.le_trans hBw HB.out.size)))
          have HU := Lib.hid (HU.out.below hb)
          refine hK.out _ _ ⟨HU.out.pk.c2, HU.out.pk.c3⟩ (fun hHeld => ?_)
          clear hK K
          refine norm_ (a' := ?_) ?_ ?_
          rotate_left
          · show Act.put _ (some 78) _ = _
            simp only [Act.put, List.setIfInBounds_toArray, List.set_cons_zero, List.set_cons_succ, i64_w, i32_w]
            rfl
          refine last_ (i := 12) (N := some 79) #[true, true, true, true, true, true, true, true, true, true, true, true, true, false, false, false] rfl rfl (by kernel_rfl) (by decide) (fun K hK => ?_)
          refine app_str_step (w0 := w) B (by rfl) (.tmp 71) (.tmp 78) _ o t0 rfl rfl rfl HU.out.out HB.out (Nat.le_trans hBw HB.out.size) hl1 ?_
          intro v1 w5 HO1 HB1 HG1
          refine hK.out _ _ ?_
          clear hK K
          refine norm_ (a' := ?_) ?_ ?_
          rotate_left
          · show Act.put _ (some 79) _ = _
            simp only [Act.put, List.setIfInBounds_toArray, List.set_cons_zero, List.set_cons_succ, i64_w, i32_w]
            rfl
          refine pure_ (i := 13) (N := some 80) (v := ?_) (a' := ?_) #[true, true, true, true, true, true, true, true, true, true, true, true, true, true, false, false] rfl rfl (by kernel_rfl) (fun _ _ _ h => h) (Or.inl ⟨by rfl, ?_⟩) ?_ ?_
          rotate_left
          · intro w'
            go_simp
            with_reducible rfl
          rotate_left
          · simp only [Act.put, List.setIfInBounds_toArray, List.set_cons_zero, List.set_cons_succ, i64_w, i32_w]
            rfl
          refine pure_ (i := 14) (N := some 81) (v := ?_) (a' := ?_) #[true, true, true, true, true, true, true, true, true, true, true, true, true, true, true, false] rfl rfl (by kernel_rfl) (fun _ _ _ h => h) (Or.inl ⟨by rfl, ?_⟩) ?_ ?_
          rotate_left
          · intro w'
            go_simp
            with_reducible rfl
          rotate_left
          · simp only [Act.put, List.setIfInBounds_toArray, List.set_cons_zero, List.set_cons_succ, i64_w, i32_w]
            rfl
          refine last_ (i := 15) (N := none) #[true, true, true, true, true, true, true, true, true, true, true, true, true, true, true, true] rfl rfl (by kernel_rfl) (by decide) (fun K hK => ?_)
          have hx5 : IsPk w5 h s B (.slice A m c) pl := blk_grown HU.out.pk HG1.out (HU.out.out.ne HU.out.pk (by decide))
          refine skip_ (w1 := _) (by rfl) rfl (run_stcell 47 (.tmp 81) (.tmp 79) rfl h 2 v1 rfl rfl (by obtain ⟨A1, m1, c1, rfl⟩ := HO1.out.slice_; rfl) (by kernel_rfl) (by rw [hx5.c2]; rfl) (hx5.f 2)) ?_
          refine hK.out _ _ ?_
          clear hK K
          refine done_ (by kernel_rfl) ?_
          have HU := Lib.hid (HU.out.put (w1 := w5) HG1.out HO1.out)
          have HB := Lib.hid (below_setc (p := ⟨h, 2, none⟩) HB1.out HU.out.hb v1)
          generalize w5.setCell ⟨h, 2, none⟩ v1 = w6 at *
          clear hHeld c0 c1 c2 c3
          obtain ⟨A, m, c, rfl⟩ := HU.out.out.slice_
          have c2 := HU.out.pk.c2
          have c3 := HU.out.pk.c3
          have hm := HU.out.out.len'
          have HML := Lib.hid hm; clear hm
          obtain ⟨ob, hob⟩ : ∃ ob : ByteArray, (⟨(o ++ bl t0).toArray⟩ : ByteArray) = ob := ⟨_, rfl⟩
          have hobs : ob.size = (o ++ bl t0).length := by rw [← hob]; exact List.size_toArray
          have HOB := Lib.hid hob; clear hob
          have y1 := Y1.out
          go_wp2_with fail
          refine (U0.out _).mono ?_
          rintro e w7 ⟨rfl, hb⟩
          have HU := Lib.hid (HU.out.below hb)
          have HB := Lib.hid (HB.out.trans (hb.mono (Nat.le_trans hBw HB.out.size)))
          clear hb c2 c3 y1
          have c2 := HU.out.pk.c2
          by_cases hlt : m < s.size
          · have q1 : decide ((m : Int) < (s.size : Int)) = true := by simp; omega
            have q2 : decide (m < s.size) = true := by simp; omega
            have hol' : ob.size < s.size := by rw [hobs, ← HML.out]; exact hlt
            have HFIN := Lib.hid (pack_parts hs (HALL.out (by rw [← HML.out]; exact hlt)))
            rw [HOB.out] at HFIN
            have HSZ := Lib.hid (show (uvS s.size ++ ⟨#[1]⟩ ++ ob).size ≤ s.size + 4 by rw [ByteArray.size_append, ByteArray.size_append]; show _ + 1 + _ ≤ _; omega)
            generalize uvS s.size = u at *
            have z1 : (9223372036854775807 < u.size + 1) = False := eq_false (by omega)
            have z2 : (9223372036854775807 < (u ++ ⟨#[1]⟩).size + ob.size) = False := eq_false (by rw [ByteArray.size_append]; show ¬ _ < _ + 1 + _; omega)
            have z3 : (9223372036854775807 < u.size + 1 + ob.size) = False := eq_false (by omega)
            clear hobs
            go_wp2
            clear q1 q2
            refine start_ (n := 12) (S := fun w' => w'.cell? ⟨h, 2, none⟩ = some (.slice A m c) ∧ Byt w' B (.slice A m c) (o ++ bl t0)) (ds := []) #[false, false, false, false, false, false, false, false, false, false, false, false] (by kernel_rfl) rfl rfl ⟨HU.out.pk.c2, HU.out.out⟩ (fun hHeld => ?_)
            have HB := Lib.hid (below_drew HB.out)
            have HU := Lib.hid HU.out.drew
            refine pure_ (i := 0) (N := some 94) (v := ?_) (a' := ?_) #[true, false, false, false, false, false, false, false, false, false, false, false] rfl rfl (by kernel_rfl) (fun _ _ _ h => h) (Or.inl ⟨by rfl, ?_⟩) ?_ ?_
            rotate_left
            · intro w'
              go_simp
              with_reducible rfl
            rotate_left
            · simp only [Act.put, List.setIfInBounds_toArray, List.set_cons_zero, List.set_cons_succ, i64_w, i32_w]
              rfl
            refine pure_ (i := 4) (N := some 98) (v := ?_) (a' := ?_) #[true, false, false, false, true, false, false, false, false, false, false, false] rfl rfl (by kernel_rfl) (fun _ _ _ h => h) (Or.inl ⟨by rfl, ?_⟩) ?_ ?_
            rotate_left
            · intro w'
              go_simp
              with_reducible rfl
            rotate_left
            · simp only [Act.put, List.setIfInBounds_toArray, List.set_cons_zero, List.set_cons_succ, i64_w, i32_w]
              rfl
            refine pure_ (i := 5) (N := some 99) (v := ?_) (a' := ?_) #[true, false, false, false, true, true, false, false, false, false, false, false] rfl rfl (by kernel_rfl) (fun _ _ _ h => h) (Or.inl ⟨by rfl, ?_⟩) ?_ ?_
            rotate_left
            · intro w'
              go_simp
              with_reducible rfl
            rotate_left
            · simp only [Act.put, List.setIfInBounds_toArray, List.set_cons_zero, List.set_cons_succ, i64_w, i32_w]
              rfl
            refine pure_ (i := 6) (N := some 100) (v := ?_) (a' := ?_) #[true, false, false, false, true, true, true, false, false, false, false, false] rfl rfl (by kernel_rfl) (fun _ _ _ h => h) (Or.inl ⟨by rfl, ?_⟩) ?_ ?_
            rotate_left
            · intro w'
              go_simp
              with_reducible rfl
            rotate_left
            · simp only [Act.put, List.setIfInBounds_toArray, List.set_cons_zero, List.set_cons_succ, i64_w, i32_w]
              rfl
            refine take_ (i := 7) (N := some 101) (v := ?_) (a' := ?_) #[true, false, false, false, true, true, true, true, false, false, false, false] rfl rfl (by kernel_rfl) (fun _ _ _ h => h) (Or.inl ⟨by rfl, ?_⟩) hHeld ?_ ?_
            rotate_left
            · rintro w' ⟨s0, s1⟩
              go_simp
              with_reducible rfl
            rotate_left
            · simp only [Act.put, List.setIfInBounds_toArray, List.set_cons_zero, List.set_cons_succ, i64_w, i32_w]
              rfl
            refine take_ (i := 8) (N := some 102) (v := ?_) (a' := ?_) #[true, false, false, false, true, true, true, true, true, false, false, false] rfl rfl (by kernel_rfl) (fun _ _ _ h => h) (Or.inl ⟨by rfl, ?_⟩) hHeld ?_ ?_
            rotate_left
            · rintro w' ⟨s0, s1⟩
              refine run_conv 47 9 (.tmp 101) ?_ (.slice A m c) (.string ob) ?_ (by rw [← HOB.out]; exact s1.conv) <;> rfl
            rotate_left
            · simp only [Act.put, List.setIfInBounds_toArray, List.set_cons_zero, List.set_cons_succ, i64_w, i32_w]
              rfl
            refine one_ (i := 1) (N := some 95) #[true, true, false, false, true, true, true, true, true, false, false, false] rfl rfl (by kernel_rfl) (by decide) (fun K hK => ?_)
            refine value_ (w1 := ?_) (v := ?_) (by rfl) rfl ?_ ?_
            rotate_left 2
            · go_simp
              constructor
              · rfl
              · rfl
            have HB := Lib.hid (HB.out.trans ((below_alloc (Below.refl _ _) (.cells #[.int .u8 1] 5)).mono (Nat.le_trans hBw HB.out.size)))
            refine hK.out _ _ ⟨pw_cell_below (below_alloc (Below.refl _ _) _) hHeld.1, hHeld.2.below (below_alloc (Below.refl _ _) _)⟩ (fun hHeld => ?_)
            clear hK K
            refine norm_ (a' := ?_) ?_ ?_
            rotate_left
            · show Act.put _ (some 95) _ = _
              simp only [Act.put, List.setIfInBounds_toArray, List.set_cons_zero, List.set_cons_succ, i64_w, i32_w]
              rfl
            refine one_ (i := 2) (N := some 96) #[true, true, true, false, true, true, true, true, true, false, false, false] rfl rfl (by kernel_rfl) (by decide) (fun K hK => ?_)
            refine value_ (w1 := _) (v := .string ⟨#[1]⟩) (by rfl) rfl (run_conv 47 9 (.tmp 95) rfl _ (.string ⟨#[1]⟩) rfl (bytes1g 1 1 rfl (blk_drew (blk_new _ _)))) ?_
            refine hK.out _ _ ⟨hHeld.1, hHeld.2⟩ (fun hHeld => ?_)
            clear hK K
            refine norm_ (a' := ?_) ?_ ?_
            rotate_left
            · show Act.put _ (some 96) _ = _
              simp only [Act.put, List.setIfInBounds_toArray, List.set_cons_zero, List.set_cons_succ, i64_w, i32_w]
              rfl
            refine pure_ (i := 3) (N := some 97) (v := ?_) (a' := ?_) #[true, true, true, true, true, true, true, true, true, false, false, false] rfl rfl (by kernel_rfl) (fun _ _ _ h => h) (Or.inl ⟨by rfl, ?_⟩) ?_ ?_
            rotate_left
            · intro w'
              go_simp
              with_reducible rfl
            rotate_left
            · simp only [Act.put, List.setIfInBounds_toArray, List.set_cons_zero, List.set_cons_succ, i64_w, i32_w]
              rfl
            refine pure_ (i := 9) (N := some 103) (v := ?_) (a' := ?_) #[true, true, true, true, true, true, true, true, true, true, false, false] rfl rfl (by kernel_rfl) (fun _ _ _ h => h) (Or.inl ⟨by rfl, ?_⟩) ?_ ?_
            rotate_left
            · intro w'
              go_simp
              with_reducible rfl
            rotate_left
            · simp only [Act.put, List.setIfInBounds_toArray, List.set_cons_zero, List.set_cons_succ, i64_w, i32_w]
              rfl
            refine pure_ (i := 10) (N := some 2) (v := ?_) (a' := ?_) #[true, true, true, true, true, true, true, true, true, true, true, false] rfl rfl (by kernel_rfl) (fun _ _ _ h => h) (Or.inl ⟨by rfl, ?_⟩) ?_ ?_
            rotate_left
            · intro w'
              go_simp
              with_reducible rfl
            rotate_left
            · simp only [Act.put, List.setIfInBounds_toArray, List.set_cons_zero, List.set_cons_succ, i64_w, i32_w]
              rfl
            refine pure_ (i := 11) (N := some 3) (v := ?_) (a' := ?_) #[true, true, true, true, true, true, true, true, true, true, true, true] rfl rfl (by kernel_rfl) (fun _ _ _ h => h) (Or.inl ⟨by rfl, ?_⟩) ?_ ?_
            rotate_left
            · intro w'
              go_simp
              with_reducible rfl
            rotate_left
            · simp only [Act.put, List.setIfInBounds_toArray, List.set_cons_zero, List.set_cons_succ, i64_w, i32_w]
              rfl
            refine done_ (by kernel_rfl) ?_
            clear hHeld
            go_wp2
            go_ret2
            exact ⟨u ++ ⟨#[1]⟩ ++ ob, rfl, HFIN.out, HSZ.out, by first | exact HB.out | (rw [HBW.out]; exact HB.out)⟩
          · have q1 : decide ((m : Int) < (s.size : Int)) = false := by simp; omega
            have q2 : decide (m < s.size) = false := by simp; omega
            have HFIN := Lib.hid (pack_stored hs)
            have HSZ := Lib.hid (show (uvS s.size ++ ⟨#[0]⟩ ++ s).size ≤ s.size + 4 by rw [ByteArray.size_append, ByteArray.size_append]; show _ + 1 + _ ≤ _; omega)
            generalize uvS s.size = u at *
            have z1 : (9223372036854775807 < u.size + 1) = False := eq_false (by omega)
            have z2 : (9223372036854775807 < (u ++ ⟨#[0]⟩).size + s.size) = False := eq_false (by rw [ByteArray.size_append]; show ¬ _ < _ + 1 + _; omega)
            have z3 : (9223372036854775807 < u.size + 1 + s.size) = False := eq_false (by omega)
            have hcv := bytes1 w7 0 0 rfl
            clear hobs
            have HB := Lib.hid (HB.out.trans ((below_alloc (Below.refl _ _) (.cells #[.int .u8 0] 5)).mono (Nat.le_trans hBw HB.out.size)))
            go_wp2
            go_ret2
            exact ⟨u ++ ⟨#[0]⟩ ++ s, rfl, HFIN.out, HSZ.out, by first | exact HB.out | (rw [HBW.out]; exact HB.out)⟩
        · rw [decide_eq_false h0] at hdn
          have HALL := Lib.hid (show o.length < s.size → lzAll s.size ⟨o.toArray⟩ = some (⟨#[]⟩, bl s) from fun _ => by
            rcases HP.out with ⟨h0', _⟩ | ⟨h0', hI⟩
            · omega
            · exact hI.full hlt)
          clear h0
          have hm := HU.out.out.len'
          have HML := Lib.hid hm; clear hm
          obtain ⟨ob, hob⟩ : ∃ ob : ByteArray, (⟨o.toArray⟩ : ByteArray) = ob := ⟨_, rfl⟩
          have hobs : ob.size = o.length := by rw [← hob]; exact List.size_toArray
          have HOB := Lib.hid hob; clear hob
          have y1 := Y1.out
          go_wp2_with fail
          refine (U0.out _).mono ?_
          rintro e w7 ⟨rfl, hb⟩
          have HU := Lib.hid (HU.out.below hb)
          have HB := Lib.hid (HB.out.trans (hb.mono (Nat.le_trans hBw HB.out.size)))
          clear hb c2 c3 y1
          have c2 := HU.out.pk.c2
          by_cases hlt : m < s.size
          · have q1 : decide ((m : Int) < (s.size : Int)) = true := by simp; omega
            have q2 : decide (m < s.size) = true := by simp; omega
            have hol' : ob.size < s.size := by rw [hobs, ← HML.out]; exact hlt
            have HFIN := Lib.hid (pack_parts hs (HALL.out (by rw [← HML.out]; exact hlt)))
            rw [HOB.out] at HFIN
            have HSZ := Lib.hid (show (uvS s.size ++ ⟨#[1]⟩ ++ ob).size ≤ s.size + 4 by rw [ByteArray.size_append, ByteArray.size_append]; show _ + 1 + _ ≤ _; omega)
            generalize uvS s.size = u at *
            have z1 : (9223372036854775807 < u.size + 1) = False := eq_false (by omega)
            have z2 : (9223372036854775807 < (u ++ ⟨#[1]⟩).size + ob.size) = False := eq_false (by rw [ByteArray.size_append]; show ¬ _ < _ + 1 + _; omega)
            have z3 : (9223372036854775807 < u.size + 1 + ob.size) = False := eq_false (by omega)
            clear hobs
            go_wp2
            clear q1 q2
            refine start_ (n := 12) (S := fun w' => w'.cell? ⟨h, 2, none⟩ = some (.slice A m c) ∧ Byt w' B (.slice A m c) o) (ds := []) #[false, false, false, false, false, false, false, false, false, false, false, false] (by kernel_rfl) rfl rfl ⟨HU.out.pk.c2, HU.out.out⟩ (fun hHeld => ?_)
            have HB := Lib.hid (below_drew HB.out)
            have HU := Lib.hid HU.out.drew
            refine pure_ (i := 0) (N := some 94) (v := ?_) (a' := ?_) #[true, false, false, false, false, false, false, false, false, false, false, false] rfl rfl (by kernel_rfl) (fun _ _ _ h => h) (Or.inl ⟨by rfl, ?_⟩) ?_ ?_
            rotate_left
            · intro w'
              go_simp
              with_reducible rfl
            rotate_left
            · simp only [Act.put, List.setIfInBounds_toArray, List.set_cons_zero, List.set_cons_succ, i64_w, i32_w]
              rfl
            refine pure_ (i := 4) (N := some 98) (v := ?_) (a' := ?_) #[true, false, false, false, true, false, false, false, false, false, false, false] rfl rfl (by kernel_rfl) (fun _ _ _ h => h) (Or.inl ⟨by rfl, ?_⟩) ?_ ?_
            rotate_left
            · intro w'
              go_simp
              with_reducible rfl
            rotate_left
            · simp only [Act.put, List.setIfInBounds_toArray, List.set_cons_zero, List.set_cons_succ, i64_w, i32_w]
              rfl
            refine pure_ (i := 5) (N := some 99) (v := ?_) (a' := ?_) #[true, false, false, false, true, true, false, false, false, false, false, false] rfl rfl (by kernel_rfl) (fun _ _ _ h => h) (Or.inl ⟨by rfl, ?_⟩) ?_ ?_
            rotate_left
            · intro w'
              go_simp
              with_reducible rfl
            rotate_left
            · simp only [Act.put, List.setIfInBounds_toArray, List.set_cons_zero, List.set_cons_succ, i64_w, i32_w]
              rfl
            refine pure_ (i := 6) (N := some 100) (v := ?_) (a' := ?_) #[true, false, false, false, true, true, true, false, false, false, false, false] rfl rfl (by kernel_rfl) (fun _ _ _ h => h) (Or.inl ⟨by rfl, ?_⟩) ?_ ?_
            rotate_left
            · intro w'
              go_simp
              with_reducible rfl
            rotate_left
            · simp only [Act.put, List.setIfInBounds_toArray, List.set_cons_zero, List.set_cons_succ, i64_w, i32_w]
              rfl
            refine take_ (i := 7) (N := some 101) (v := ?_) (a' := ?_) #[true, false, false, false, true, true, true, true, false, false, false, false] rfl rfl (by kernel_rfl) (fun _ _ _ h => h) (Or.inl ⟨by rfl, ?_⟩) hHeld ?_ ?_
            rotate_left
            · rintro w' ⟨s0, s1⟩
              go_simp
              with_reducible rfl
            rotate_left
            · simp only [Act.put, List.setIfInBounds_toArray, List.set_cons_zero, List.set_cons_succ, i64_w, i32_w]
              rfl
            refine take_ (i := 8) (N := some 102) (v := ?_) (a' := ?_) #[true, false, false, false, true, true, true, true, true, false, false, false] rfl rfl (by kernel_rfl) (fun _ _ _ h => h) (Or.inl ⟨by rfl, ?_⟩) hHeld ?_ ?_
            rotate_left
            · rintro w' ⟨s0, s1⟩
              refine run_conv 47 9 (.tmp 101) ?_ (.slice A m c) (.string ob) ?_ (by rw [← HOB.out]; exact s1.conv) <;> rfl
            rotate_left
            · simp only [Act.put, List.setIfInBounds_toArray, List.set_cons_zero, List.set_cons_succ, i64_w, i32_w]
              rfl
            refine one_ (i := 1) (N := some 95) #[true, true, false, false, true, true, true, true, true, false, false, false] rfl rfl (by kernel_rfl) (by decide) (fun K hK => ?_)
            refine value_ (w1 := ?_) (v := ?_) (by rfl) rfl ?_ ?_
            rotate_left 2
            · go_simp
              constructor
              · rfl
              · rfl
            have HB := Lib.hid (HB.out.trans ((below_alloc (Below.refl _ _) (.cells #[.int .u8 1] 5)).mono (Nat.le_trans hBw HB.out.size)))
            refine hK.out _ _ ⟨pw_cell_below (below_alloc (Below.refl _ _) _) hHeld.1, hHeld.2.below (below_alloc (Below.refl _ _) _)⟩ (fun hHeld => ?_)
            clear hK K
            refine norm_ (a' := ?_) ?_ ?_
            rotate_left
            · show Act.put _ (some 95) _ = _
              simp only [Act.put, List.setIfInBounds_toArray, List.set_cons_zero, List.set_cons_succ, i64_w, i32_w]
              rfl
            refine one_ (i := 2) (N := some 96) #[true, true, true, false, true, true, true, true, true, false, false, false] rfl rfl (by kernel_rfl) (by decide) (fun K hK => ?_)
            refine value_ (w1 := _) (v := .string ⟨#[1]⟩) (by rfl) rfl (run_conv 47 9 (.tmp 95) rfl _ (.string ⟨#[1]⟩) rfl (bytes1g 1 1 rfl (blk_drew (blk_new _ _)))) ?_
            refine hK.out _ _ ⟨hHeld.1, hHeld.2⟩ (fun hHeld => ?_)
            clear hK K
            refine norm_ (a' := ?_) ?_ ?_
            rotate_left
            · show Act.put _ (some 96) _ = _
              simp only [Act.put, List.setIfInBounds_toArray, List.set_cons_zero, List.set_cons_succ, i64_w, i32_w]
              rfl
            refine pure_ (i := 3) (N := some 97) (v := ?_) (a' := ?_) #[true, true, true, true, true, true, true, true, true, false, false, false] rfl rfl (by kernel_rfl) (fun _ _ _ h => h) (Or.inl ⟨by rfl, ?_⟩) ?_ ?_
            rotate_left
            · intro w'
              go_simp
              with_reducible rfl
            rotate_left
            · simp only [Act.put, List.setIfInBounds_toArray, List.set_cons_zero, List.set_cons_succ, i64_w, i32_w]
              rfl
            refine pure_ (i := 9) (N := some 103) (v := ?_) (a' := ?_) #[true, true, true, true, true, true, true, true, true, true, false, false] rfl rfl (by kernel_rfl) (fun _ _ _ h => h) (Or.inl ⟨by rfl, ?_⟩) ?_ ?_
            rotate_left
            · intro w'
              go_simp
              with_reducible rfl
            rotate_left
            · simp only [Act.put, List.setIfInBounds_toArray, List.set_cons_zero, List.set_cons_succ, i64_w, i32_w]
              rfl
            refine pure_ (i := 10) (N := some 2) (v := ?_) (a' := ?_) #[true, true, true, true, true, true, true, true, true, true, true, false] rfl rfl (by kernel_rfl) (fun _ _ _ h => h) (Or.inl ⟨by rfl, ?_⟩) ?_ ?_
            rotate_left
            · intro w'
              go_simp
              with_reducible rfl
            rotate_left
            · simp only [Act.put, List.setIfInBounds_toArray, List.set_cons_zero, List.set_cons_succ, i64_w, i32_w]
              rfl
            refine pure_ (i := 11) (N := some 3) (v := ?_) (a' := ?_) #[true, true, true, true, true, true, true, true, true, true, true, true] rfl rfl (by kernel_rfl) (fun _ _ _ h => h) (Or.inl ⟨by rfl, ?_⟩) ?_ ?_
            rotate_left
            · intro w'
              go_simp
              with_reducible rfl
            rotate_left
            · simp only [Act.put, List.setIfInBounds_toArray, List.set_cons_zero, List.set_cons_succ, i64_w, i32_w]
              rfl
            refine done_ (by kernel_rfl) ?_
            clear hHeld
            go_wp2
            go_ret2
            exact ⟨u ++ ⟨#[1]⟩ ++ ob, rfl, HFIN.out, HSZ.out, by first | exact HB.out | (rw [HBW.out]; exact HB.out)⟩
          · have q1 : decide ((m : Int) < (s.size : Int)) = false := by simp; omega
            have q2 : decide (m < s.size) = false := by simp; omega
            have HFIN := Lib.hid (pack_stored hs)
            have HSZ := Lib.hid (show (uvS s.size ++ ⟨#[0]⟩ ++ s).size ≤ s.size + 4 by rw [ByteArray.size_append, ByteArray.size_append]; show _ + 1 + _ ≤ _; omega)
            generalize uvS s.size = u at *
            have z1 : (9223372036854775807 < u.size + 1) = False := eq_false (by omega)
            have z2 : (9223372036854775807 < (u ++ ⟨#[0]⟩).size + s.size) = False := eq_false (by rw [ByteArray.size_append]; show ¬ _ < _ + 1 + _; omega)
            have z3 : (9223372036854775807 < u.size + 1 + s.size) = False := eq_false (by omega)
            have hcv := bytes1 w7 0 0 rfl
            clear hobs
            have HB := Lib.hid (HB.out.trans ((below_alloc (Below.refl _ _) (.cells #[.int .u8 0] 5)).mono (Nat.le_trans hBw HB.out.size)))
            go_wp2
            go_ret2
            exact ⟨u ++ ⟨#[0]⟩ ++ s, rfl, HFIN.out, HSZ.out, by first | exact HB.out | (rw [HBW.out]; exact HB.out)⟩
end Go.Proofs.Ythooihkkghfhkaa.My
