/- lz: at, match, packer.note. -/
import Derived.Test.YthooihkkghfhkaaLzPlainPack
import Derived.Test.YthooihkkghfhkaaMapIs
import Derived.Test.YthooihkkghfhkaaPrim
import Derived.Test.YthooihkkghfhkaaRes
import Derived.WideKeyPair
namespace Go.Proofs.Ythooihkkghfhkaa.My
set_option linter.unusedSimpArgs false
set_option linter.unusedVariables false
open Go.RowKit Go.Proofs.YthooihkkghfhkaaW.PrintWords Go.Proofs.YthooihkkghfhkaaW.PrintLast Go.Proofs.Ythooihkkghfhkaa.Pm
open Go.Maps (Keyed)

/-- Four bytes at a place. -/
def bt4 (s : ByteArray) (i : Nat) : Int := (((bl s).getD i 0).toNat : Int)
def k4 (s : ByteArray) (i : Nat) : Value := .agg #[.int .u8 (bt4 s i), .int .u8 (bt4 s (i + 1)), .int .u8 (bt4 s (i + 2)), .int .u8 (bt4 s (i + 3))]
theorem bt4_get (s : ByteArray) (i : Nat) (h : i < s.size) : ((s[i]'h).toNat : Int) = bt4 s i := by
  unfold bt4
  have hl : i < (bl s).length := by rw [bl_length]; exact h
  rw [List.getD_eq_getElem?_getD, List.getElem?_eq_getElem hl, Option.getD_some]
  rfl
theorem bt4_wf (s : ByteArray) (i : Nat) : (Lit.int .u8 (bt4 s i)).wf = true := by
  have h : ((bl s).getD i 0).toNat < 256 := ((bl s).getD i 0).toNat_lt
  unfold bt4
  generalize ((bl s).getD i 0).toNat = n at *
  simp [Lit.wf, IntKind.min, IntKind.max, IntKind.bits, IntKind.signed]
  omega
theorem k4_inj {s : ByteArray} {i j : Nat} (h : k4 s i = k4 s j) : ∀ q, q < 4 → (bl s).getD (i + q) 0 = (bl s).getD (j + q) 0 := by
  unfold k4 bt4 at h
  simp only [Value.agg.injEq, Array.mk.injEq, List.cons.injEq, Value.int.injEq, true_and, and_true] at h
  obtain ⟨h0, h1, h2, h3⟩ := h
  have e : ∀ a b : UInt8, (a.toNat : Int) = (b.toNat : Int) → a = b := fun a b h => UInt8.toNat.inj (by omega)
  intro q hq
  match q, hq with
  | 0, _ => exact e _ _ h0
  | 1, _ => exact e _ _ h1
  | 2, _ => exact e _ _ h2
  | 3, _ => exact e _ _ h3
theorem res_c {fn : Func} {p : Tmp} {ty : TypeId} (h : fn.results = #[.cell p ty]) {tmps : Array Value} {P : Program} {w : World} {a : Addr} {v : Value}
    (hp : tmps.getD p undef = .pointer (some a)) (hl : (loadVar ty a).run P w = .ok v w) : (results fn tmps).run P w = .ok v w := by
  have hp' : tmps[p]?.getD undef = .pointer (some a) := by simpa using hp
  simp [results, h, hp', asAddr, Sem.run_bind, hl]
theorem laid : laidOutB Try.prog = true := by kernel_rfl
theorem fourKey : Go.WideMaps.ArrKey Try.prog 75 5 4 := ⟨Try.underlying75, by kernel_rfl, by kernel_rfl, by kernel_rfl⟩
theorem four_keyed : Keyed Try.prog 75 := Keyed.of_law fourKey.law
theorem keyOf_four {P : Program} {k e : TypeId} {q : IntKind} (A : Go.WideMaps.ArrKey P k e 4) (he : P.underlying e = some (.int q)) (hsz : ∃ m, P.types.size = m + 1) {a b c d : Int} (wa : (Lit.int q a).wf = true) (wb : (Lit.int q b).wf = true) (wc : (Lit.int q c).wf = true) (wd : (Lit.int q d).wf = true) :
    keyOf P k (.agg #[.int q a, .int q b, .int q c, .int q d]) = some (.string (keyBytes [.int q a, .int q b, .int q c, .int q d])) := by
  have hkt := A.keyType hsz
  obtain ⟨m, hm⟩ := hsz
  unfold keyOf
  simp only [A.hu]
  rw [if_pos (by simp [hkt, Value.formed, A.hu, A.size]), hm]
  unfold Program.keyLits
  simp only [A.hu, Value.cells]
  rw [if_pos (by rw [A.size]; rfl), show List.range 4 = [0, 1, 2, 3] from rfl, List.mapM_cons, List.mapM_cons, List.mapM_cons, List.mapM_cons, List.mapM_nil]
  simp [A.one, Program.keyLits, he, wa, wb, wc, wd]
theorem k4_key (s : ByteArray) (i : Nat) : ∃ l, keyOf Try.prog 75 (k4 s i) = some l :=
  ⟨_, keyOf_four fourKey Try.underlying5 ⟨Try.prog.types.size - 1, by kernel_rfl⟩ (bt4_wf s i) (bt4_wf s (i + 1)) (bt4_wf s (i + 2)) (bt4_wf s (i + 3))⟩
/-- The places that are noted. -/
def Noted (s : ByteArray) (hi : Nat) (f : Value → Option Value) : Prop := ∀ x v, f x = some v → ∃ j, j < hi ∧ j + 4 ≤ s.size ∧ x = k4 s j ∧ v = .int .i64 (j : Int)
theorem Noted.put {s : ByteArray} {hi : Nat} {f : Value → Option Value} (h : Noted s hi f) (j : Nat) (hj : j + 4 ≤ s.size) (hh : hi ≤ j + 1) : Noted s (j + 1) (upd f (k4 s j) (.int .i64 (j : Int))) := by
  intro x v hx
  by_cases e : x = k4 s j
  · subst e
    rw [upd_same] at hx
    exact ⟨j, by omega, hj, rfl, (Option.some.inj hx).symm⟩
  · rw [upd_other f e] at hx
    obtain ⟨i, h1, h2, h3, h4⟩ := h x v hx
    exact ⟨i, by omega, h2, h3, h4⟩
theorem Noted.mono {s : ByteArray} {hi hi' : Nat} {f : Value → Option Value} (h : Noted s hi f) (hh : hi ≤ hi') : Noted s hi' f := fun x v hx => by
  obtain ⟨i, h1, h2, h3, h4⟩ := h x v hx
  exact ⟨i, by omega, h2, h3, h4⟩
theorem succ_wrap' {i len : Nat} (hi : i < len) (hl : len ≤ 140737488351232) : wrap64 ((i : Int) + 1) = ((i + 1 : Nat) : Int) := wrap64_id (by omega) (by omega)
theorem up_meas' {j n : Nat} (h : j < n) (hw : wrap64 ((j : Int) + 1) = ((j + 1 : Nat) : Int)) : n - (intOf (.int .i64 (wrap64 ((j : Int) + 1)))).toNat < n - (intOf (.int .i64 (j : Int))).toNat := by
  rw [hw]
  simp only [intOf]
  omega
theorem up_meas2' {j n : Nat} (h : j < n) : n - (intOf (.int .i64 ((j : Int) + 1))).toNat < n - (intOf (.int .i64 (j : Int))).toNat := by
  simp only [intOf]
  omega
theorem plus1 {i : Nat} (h : i ≤ 140737488351232) : wrap64 ((i : Int) + 1) = ((i + 1 : Nat) : Int) ∧ IntKind.i64.wrap ((i : Int) + 1) = ((i + 1 : Nat) : Int) := by
  have h1 : wrap64 ((i : Int) + 1) = ((i + 1 : Nat) : Int) := by rw [wrap64_id (by omega) (by omega)]; omega
  exact ⟨h1, (i64_w _).trans h1⟩
theorem plus2 {i n : Nat} (h : i + 2 < n) (hn : n ≤ 140737488351232) : wrap64 ((i : Int) + 2) = ((i + 2 : Nat) : Int) ∧ IntKind.i64.wrap ((i : Int) + 2) = ((i + 2 : Nat) : Int) := by
  have h1 : wrap64 ((i : Int) + 2) = ((i + 2 : Nat) : Int) := by rw [wrap64_id (by omega) (by omega)]; omega
  exact ⟨h1, (i64_w _).trans h1⟩
theorem plus3 {i n : Nat} (h : i + 3 < n) (hn : n ≤ 140737488351232) : wrap64 ((i : Int) + 3) = ((i + 3 : Nat) : Int) ∧ IntKind.i64.wrap ((i : Int) + 3) = ((i + 3 : Nat) : Int) := by
  have h1 : wrap64 ((i : Int) + 3) = ((i + 3 : Nat) : Int) := by rw [wrap64_id (by omega) (by omega)]; omega
  exact ⟨h1, (i64_w _).trans h1⟩
set_option maxRecDepth 100000 in
set_option maxHeartbeats 4000000 in
theorem lz_at (s : ByteArray) (i : Nat) (w : World) (hi : i + 4 ≤ s.size) (hs : s.size ≤ 140737488351232) :
    Calls Try.prog 39 #[.string s, .int .i64 i] w fun e w' => e = .returned (k4 s i) ∧ Below w.heap.size w w' := by
  have a0 := bt4_get s i (by omega)
  have a1 := bt4_get s (i + 1) (by omega)
  have a2 := bt4_get s (i + 2) (by omega)
  have a3 := bt4_get s (i + 3) (by omega)
  have b0 : i < s.size := by omega
  have b1 : i + 1 < s.size := by omega
  have b2 : i + 2 < s.size := by omega
  have b3 : i + 3 < s.size := by omega
  have i0 : (0 : Int) ≤ (i : Int) ∧ (i : Int) < (s.size : Int) := by omega
  have i1 : (0 : Int) ≤ (i : Int) + 1 ∧ (i : Int) + 1 < (s.size : Int) := by omega
  have i2 : (0 : Int) ≤ (i : Int) + 2 ∧ (i : Int) + 2 < (s.size : Int) := by omega
  have i3 : (0 : Int) ≤ (i : Int) + 3 ∧ (i : Int) + 3 < (s.size : Int) := by omega
  have t1 : ((i : Int) + 1).toNat = i + 1 := by omega
  have t2 : ((i : Int) + 2).toNat = i + 2 := by omega
  have t3 : ((i : Int) + 3).toNat = i + 3 := by omega
  obtain ⟨e1, e1'⟩ := plus1 (i := i) (by omega)
  obtain ⟨e2, e2'⟩ := plus2 (i := i) b2 hs
  obtain ⟨e3, e3'⟩ := plus3 (i := i) b3 hs
  unfold k4
  generalize bt4 s i = x0 at *
  generalize bt4 s (i + 1) = x1 at *
  generalize bt4 s (i + 2) = x2 at *
  generalize bt4 s (i + 3) = x3 at *
  go_enter Try.func39, Try.ntmps39
  go_wp2
  generalize hg : w.heap.size = g at *
  have hg' : g = w.heap.size := hg.symm
  have HG := Lib.hid hg'; clear hg hg'
  have HR := Lib.hid (row_new w (.cells #[.int .u8 0, .int .u8 0, .int .u8 0, .int .u8 0] 75) HG.out)
  have HB := Lib.hid (show Below g w (w.alloc (.cells #[.int .u8 0, .int .u8 0, .int .u8 0, .int .u8 0] 75)) by rw [HG.out]; exact below_alloc (Below.refl _ _) _)
  generalize w.alloc (.cells #[.int .u8 0, .int .u8 0, .int .u8 0, .int .u8 0] 75) = w1 at *
  refine start_ (n := 17) (S := fun w' => w'.heap[g]? = some (.cells #[.int .u8 0, .int .u8 0, .int .u8 0, .int .u8 0] 75 (0, 0))) (ds := [16]) #[false, false, false, false, false, false, false, false, false, false, false, false, false, false, false, false, false] (by kernel_rfl) rfl rfl (HR.out) (fun hHeld => ?_)
  have HB := Lib.hid (below_drew HB.out)
  have HR := Lib.hid (show w1.drew.heap[g]? = some (.cells #[.int .u8 0, .int .u8 0, .int .u8 0, .int .u8 0] 75 (0, 0)) from HR.out)
  refine pure_ (i := 0) (N := some 5) (v := ?_) (a' := ?_) #[true, false, false, false, false, false, false, false, false, false, false, false, false, false, false, false, false] rfl rfl (by kernel_rfl) (fun _ _ _ h => h) (Or.inl ⟨by rfl, ?_⟩) ?_ ?_
  rotate_left
  · intro w'
    go_simp
    with_reducible rfl
  rotate_left
  · simp only [Act.put, List.setIfInBounds_toArray, List.set_cons_zero, List.set_cons_succ, i64_w, i32_w]
    rfl
  refine pure_ (i := 1) (N := some 6) (v := ?_) (a' := ?_) #[true, true, false, false, false, false, false, false, false, false, false, false, false, false, false, false, false] rfl rfl (by kernel_rfl) (fun _ _ _ h => h) (Or.inl ⟨by rfl, ?_⟩) ?_ ?_
  rotate_left
  · intro w'
    go_simp
    with_reducible rfl
  rotate_left
  · simp only [Act.put, List.setIfInBounds_toArray, List.set_cons_zero, List.set_cons_succ, i64_w, i32_w]
    rfl
  refine pure_ (i := 3) (N := some 8) (v := ?_) (a' := ?_) #[true, true, false, true, false, false, false, false, false, false, false, false, false, false, false, false, false] rfl rfl (by kernel_rfl) (fun _ _ _ h => h) (Or.inl ⟨by rfl, ?_⟩) ?_ ?_
  rotate_left
  · intro w'
    go_simp
    with_reducible rfl
  rotate_left
  · simp only [Act.put, List.setIfInBounds_toArray, List.set_cons_zero, List.set_cons_succ, i64_w, i32_w]
    rfl
  refine pure_ (i := 4) (N := some 9) (v := ?_) (a' := ?_) #[true, true, false, true, true, false, false, false, false, false, false, false, false, false, false, false, false] rfl rfl (by kernel_rfl) (fun _ _ _ h => h) (Or.inl ⟨by rfl, ?_⟩) ?_ ?_
  rotate_left
  · intro w'
    go_simp
    with_reducible rfl
  rotate_left
  · simp only [Act.put, List.setIfInBounds_toArray, List.set_cons_zero, List.set_cons_succ, i64_w, i32_w]
    rfl
  refine pure_ (i := 5) (N := some 10) (v := ?_) (a' := ?_) #[true, true, false, true, true, true, false, false, false, false, false, false, false, false, false, false, false] rfl rfl (by kernel_rfl) (fun _ _ _ h => h) (Or.inl ⟨by rfl, ?_⟩) ?_ ?_
  rotate_left
  · intro w'
    go_simp
    with_reducible rfl
  rotate_left
  · simp only [Act.put, List.setIfInBounds_toArray, List.set_cons_zero, List.set_cons_succ, i64_w, i32_w]
    rfl
  refine pure_ (i := 7) (N := some 12) (v := ?_) (a' := ?_) #[true, true, false, true, true, true, false, true, false, false, false, false, false, false, false, false, false] rfl rfl (by kernel_rfl) (fun _ _ _ h => h) (Or.inl ⟨by rfl, ?_⟩) ?_ ?_
  rotate_left
  · intro w'
    go_simp
    with_reducible rfl
  rotate_left
  · simp only [Act.put, List.setIfInBounds_toArray, List.set_cons_zero, List.set_cons_succ, i64_w, i32_w]
    rfl
  refine pure_ (i := 8) (N := some 13) (v := ?_) (a' := ?_) #[true, true, false, true, true, true, false, true, true, false, false, false, false, false, false, false, false] rfl rfl (by kernel_rfl) (fun _ _ _ h => h) (Or.inl ⟨by rfl, ?_⟩) ?_ ?_
  rotate_left
  · intro w'
    go_simp
    with_reducible rfl
  rotate_left
  · simp only [Act.put, List.setIfInBounds_toArray, List.set_cons_zero, List.set_cons_succ, i64_w, i32_w]
    rfl
  refine pure_ (i := 9) (N := some 14) (v := ?_) (a' := ?_) #[true, true, false, true, true, true, false, true, true, true, false, false, false, false, false, false, false] rfl rfl (by kernel_rfl) (fun _ _ _ h => h) (Or.inl ⟨by rfl, ?_⟩) ?_ ?_
  rotate_left
  · intro w'
    go_simp
    with_reducible rfl
  rotate_left
  · simp only [Act.put, List.setIfInBounds_toArray, List.set_cons_zero, List.set_cons_succ, i64_w, i32_w]
    rfl
  refine pure_ (i := 11) (N := some 16) (v := ?_) (a' := ?_) #[true, true, false, true, true, true, false, true, true, true, false, true, false, false, false, false, false] rfl rfl (by kernel_rfl) (fun _ _ _ h => h) (Or.inl ⟨by rfl, ?_⟩) ?_ ?_
  rotate_left
  · intro w'
    go_simp
    with_reducible rfl
  rotate_left
  · simp only [Act.put, List.setIfInBounds_toArray, List.set_cons_zero, List.set_cons_succ, i64_w, i32_w]
    rfl
  refine pure_ (i := 12) (N := some 17) (v := ?_) (a' := ?_) #[true, true, false, true, true, true, false, true, true, true, false, true, true, false, false, false, false] rfl rfl (by kernel_rfl) (fun _ _ _ h => h) (Or.inl ⟨by rfl, ?_⟩) ?_ ?_
  rotate_left
  · intro w'
    go_simp
    with_reducible rfl
  rotate_left
  · simp only [Act.put, List.setIfInBounds_toArray, List.set_cons_zero, List.set_cons_succ, i64_w, i32_w]
    rfl
  refine pure_ (i := 13) (N := some 18) (v := ?_) (a' := ?_) #[true, true, false, true, true, true, false, true, true, true, false, true, true, true, false, false, false] rfl rfl (by kernel_rfl) (fun _ _ _ h => h) (Or.inl ⟨by rfl, ?_⟩) ?_ ?_
  rotate_left
  · intro w'
    go_simp
    with_reducible rfl
  rotate_left
  · simp only [Act.put, List.setIfInBounds_toArray, List.set_cons_zero, List.set_cons_succ, i64_w, i32_w]
    rfl
  refine take_ (i := 2) (N := some 7) (v := ?_) (a' := ?_) #[true, true, true, true, true, true, false, true, true, true, false, true, true, true, false, false, false] rfl rfl (by kernel_rfl) (fun _ _ _ h => h) (Or.inl ⟨by rfl, ?_⟩) hHeld ?_ ?_
  rotate_left
  · intro w' s0
    go_simp
    with_reducible rfl
  rotate_left
  · simp only [Act.put, List.setIfInBounds_toArray, List.set_cons_zero, List.set_cons_succ, i64_w, i32_w]
    rfl
  refine take_ (i := 6) (N := some 11) (v := ?_) (a' := ?_) #[true, true, true, true, true, true, true, true, true, true, false, true, true, true, false, false, false] rfl rfl (by kernel_rfl) (fun _ _ _ h => h) (Or.inl ⟨by rfl, ?_⟩) hHeld ?_ ?_
  rotate_left
  · intro w' s0
    go_simp
    with_reducible rfl
  rotate_left
  · simp only [Act.put, List.setIfInBounds_toArray, List.set_cons_zero, List.set_cons_succ, i64_w, i32_w]
    rfl
  refine take_ (i := 10) (N := some 15) (v := ?_) (a' := ?_) #[true, true, true, true, true, true, true, true, true, true, true, true, true, true, false, false, false] rfl rfl (by kernel_rfl) (fun _ _ _ h => h) (Or.inl ⟨by rfl, ?_⟩) hHeld ?_ ?_
  rotate_left
  · intro w' s0
    go_simp
    with_reducible rfl
  rotate_left
  · simp only [Act.put, List.setIfInBounds_toArray, List.set_cons_zero, List.set_cons_succ, i64_w, i32_w]
    rfl
  refine take_ (i := 14) (N := some 19) (v := ?_) (a' := ?_) #[true, true, true, true, true, true, true, true, true, true, true, true, true, true, true, false, false] rfl rfl (by kernel_rfl) (fun _ _ _ h => h) (Or.inl ⟨by rfl, ?_⟩) hHeld ?_ ?_
  rotate_left
  · intro w' s0
    go_simp
    with_reducible rfl
  rotate_left
  · simp only [Act.put, List.setIfInBounds_toArray, List.set_cons_zero, List.set_cons_succ, i64_w, i32_w]
    rfl
  refine pure_ (i := 15) (N := some 20) (v := ?_) (a' := ?_) #[true, true, true, true, true, true, true, true, true, true, true, true, true, true, true, true, false] rfl rfl (by kernel_rfl) (fun _ _ _ h => h) (Or.inl ⟨by rfl, ?_⟩) ?_ ?_
  rotate_left
  · intro w'
    go_simp
    with_reducible rfl
  rotate_left
  · simp only [Act.put, List.setIfInBounds_toArray, List.set_cons_zero, List.set_cons_succ, i64_w, i32_w]
    rfl
  refine last_ (i := 16) (N := none) #[true, true, true, true, true, true, true, true, true, true, true, true, true, true, true, true, true] rfl rfl (by kernel_rfl) (by decide) (fun K hK => ?_)
  refine skip_ (w1 := _) (by rfl) rfl (run_strow 75 (.tmp 4) (.tmp 20) rfl g #[.int .u8 x0, .int .u8 x1, .int .u8 x2, .int .u8 x3] rfl rfl 75 _ HR.out (by kernel_rfl) rfl (by simp [Value.oneCell'])) ?_
  refine hK.out _ _ ?_
  clear hK K
  refine done_ (by kernel_rfl) ?_

  have HB := Lib.hid (show Below g w ((w1.setRow g #[.int .u8 x0, .int .u8 x1, .int .u8 x2, .int .u8 x3]).drew) from HB.out.trans (show Below g w1.drew ((w1.setRow g #[.int .u8 x0, .int .u8 x1, .int .u8 x2, .int .u8 x3]).drew) from (keeps_setRow (Keeps.refl (Only g) w1.drew) (.inl rfl) _).to_below (Nat.le_of_lt (blk_lt HR.out)) (fun i hi => by cases hi; exact Nat.le_refl _)))
  have HR := Lib.hid (show ((w1.setRow g #[.int .u8 x0, .int .u8 x1, .int .u8 x2, .int .u8 x3]).drew).heap[g]? = some (.cells #[.int .u8 x0, .int .u8 x1, .int .u8 x2, .int .u8 x3] 75 (0, 0)) from setRow_heap _ _ _ _ _ _ HR.out)
  go_wp2
  refine bodyPost_ret (res_c (a := ⟨?gg, 0, none⟩) (v := .agg ?cs) rfl ?hp (load_row (g := ?gg) (cs := ?cs) (t := ?tt) (fr := ?fr) ?hrow _ _ Try.underlying75 rfl ?hi)) rfl ?_
  case hp => rfl
  case hrow => exact HR.out
  case hi => kernel_rfl
  exact ⟨rfl, by rw [← HG.out]; exact HB.out⟩

/-- How many bytes at a place are those of another. -/
def Match (s : ByteArray) (a b n : Nat) : Prop := b + n ≤ s.size ∧ (∀ j, j < n → (bl s)[a + j]? = (bl s)[b + j]?) ∧ (b + n = s.size ∨ (bl s)[a + n]? ≠ (bl s)[b + n]?)
theorem idx_wrap {a n k : Nat} (h : a + n < k) (hk : k ≤ 140737488351232) : wrap64 ((a : Int) + (n : Int)) = ((a + n : Nat) : Int) ∧ IntKind.i64.wrap ((a : Int) + (n : Int)) = ((a + n : Nat) : Int) := by
  have h1 : wrap64 ((a : Int) + (n : Int)) = ((a + n : Nat) : Int) := by rw [wrap64_id (by omega) (by omega)]; omega
  exact ⟨h1, (i64_w _).trans h1⟩
theorem idx_wrap' {a n k : Nat} (h : a + n ≤ k) (hk : k ≤ 140737488351232) : wrap64 ((a : Int) + (n : Int)) = ((a + n : Nat) : Int) ∧ IntKind.i64.wrap ((a : Int) + (n : Int)) = ((a + n : Nat) : Int) := by
  have h1 : wrap64 ((a : Int) + (n : Int)) = ((a + n : Nat) : Int) := by rw [wrap64_id (by omega) (by omega)]; omega
  exact ⟨h1, (i64_w _).trans h1⟩
set_option maxRecDepth 100000 in
set_option maxHeartbeats 4000000 in
theorem lz_match (s : ByteArray) (a b : Nat) (w : World) (hab : a < b) (hb : b ≤ s.size) (hs : s.size ≤ 140737488351232) :
    Calls Try.prog 41 #[.string s, .int .i64 a, .int .i64 b] w fun e w' => ∃ n : Nat, e = .returned (.int .i64 n) ∧ Match s a b n ∧ Below w.heap.size w w' := by
  have HB := Lib.hid (Below.refl w.heap.size w)
  go_enter Try.func41, Try.ntmps41
  go_wp2
  go_loopw [7] (fun v7 wr => ∃ n : Nat, v7 = .int .i64 n ∧ b + n ≤ s.size ∧ Hid (∀ j, j < n → (bl s)[a + j]? = (bl s)[b + j]?) ∧ Below w.heap.size w wr) (fun v7 _ => s.size - (intOf v7).toNat)
  case atStart => exact ⟨0, rfl, by omega, Lib.hid (fun j hj => absurd hj (by omega)), HB.out⟩
  case round =>
    clear HB
    obtain ⟨n, rfl, hn, HM, hbl⟩ := hrel
    have HB := Lib.hid hbl; clear hbl
    by_cases hlt : b + n < s.size
    · have hlen := bl_length s
      have g1 : (bl s)[a + n]? = some (s[a + n]'(by omega)) := List.getElem?_eq_getElem (by omega)
      have g2 : (bl s)[b + n]? = some (s[b + n]'hlt) := List.getElem?_eq_getElem (by omega)
      have ha' : a + n < s.size := by omega
      obtain ⟨x, hx⟩ : ∃ x, s[a + n]'ha' = x := ⟨_, rfl⟩
      obtain ⟨y, hy⟩ : ∃ y, s[b + n]'hlt = y := ⟨_, rfl⟩
      rw [hx] at g1
      rw [hy] at g2
      have hxx : ∀ h : a + n < s.size, s[a + n]'h = x := fun _ => hx
      have hyy : ∀ h : b + n < s.size, s[b + n]'h = y := fun _ => hy
      have GG := Lib.hid (And.intro g1 g2)
      clear hx hy g1 g2 hlen
      have j1 : (0 : Int) ≤ (a : Int) + (n : Int) ∧ (a : Int) + (n : Int) < (s.size : Int) := by omega
      have j2 : (0 : Int) ≤ (b : Int) + (n : Int) ∧ (b : Int) + (n : Int) < (s.size : Int) := by omega
      have j3 : ((a : Int) + (n : Int)).toNat = a + n := by omega
      have j4 : ((b : Int) + (n : Int)).toNat = b + n := by omega
      have hnl : n < s.size := by omega
      obtain ⟨e1, e1'⟩ := idx_wrap ha' hs
      obtain ⟨e2, e2'⟩ := idx_wrap hlt hs
      have hw := succ_wrap' hnl hs
      by_cases hxy : x = y
      · have x1 : ((x.toNat : Int) == (y.toNat : Int)) = true := by rw [hxy]; simp
        have x2 : x.toNat = y.toNat := by rw [hxy]
        have HM2 := Lib.hid (show ∀ j, j < n + 1 → (bl s)[a + j]? = (bl s)[b + j]? from fun j hj => by
          rcases Nat.lt_or_ge j n with h | h
          · exact HM.out j h
          · obtain rfl : j = n := by clear e1 e1' e2 e2' hw; omega
            rw [GG.out.1, GG.out.2, hxy])
        clear hxy
        go_wp2
        go_quiet (fail)
        have HB := Lib.hid (pw_below_drewN HB.out nq)
        go_wp2
        go_roundw
        case rel => exact ⟨n + 1, by go_num, by clear e1 e1' e2 e2' hw; omega, HM2, HB.out⟩
        case measure => first | (rw [hw]; simp only [intOf]; clear e1 e1' e2 e2' hw; omega) | (simp only [intOf]; clear e1 e1' e2 e2' hw; omega)
      · have x2 : ¬ x.toNat = y.toNat := fun h => hxy (UInt8.toNat.inj h)
        have x1 : ((x.toNat : Int) == (y.toNat : Int)) = false := by clear e1 e1' e2 e2' hw; simp; omega
        have HE := Lib.hid (show Match s a b n from ⟨hn, HM.out, .inr (by rw [GG.out.1, GG.out.2]; simpa using hxy)⟩)
        clear hxy
        go_wp2
        go_quiet (fail)
        have HB := Lib.hid (pw_below_drewN HB.out nq)
        go_wp2
        go_ret
        exact ⟨n, rfl, HE.out, HB.out⟩
    · have j2 : ¬ (b : Int) + (n : Int) < (s.size : Int) := by omega
      have HE := Lib.hid (show Match s a b n from ⟨hn, HM.out, .inl (by omega)⟩)
      obtain ⟨e2, e2'⟩ := idx_wrap' hn hs
      have j3 : decide ((b : Int) + (n : Int) < (s.size : Int)) = false := decide_eq_false j2
      go_wp2
      go_quiet (fail)
      have HB := Lib.hid (pw_below_drewN HB.out nq)
      go_wp2
      go_ret
      exact ⟨n, rfl, HE.out, HB.out⟩
end Go.Proofs.Ythooihkkghfhkaa.My
