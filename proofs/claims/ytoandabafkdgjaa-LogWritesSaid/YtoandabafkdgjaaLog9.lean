/- log.Append. -/
import Derived.Test.YtoandabafkdgjaaLog8
import Derived.Test.YtoandabafkdgjaaLogP
namespace Go.Proofs.Ytoandabafkdgjaa.My
set_option linter.unusedSimpArgs false
set_option linter.unusedVariables false
open Go.RowKit Go.Proofs.YtoandabafkdgjaaW.PrintWords Go.Proofs.YtoandabafkdgjaaW.PrintLast Go.Proofs.Ytoandabafkdgjaa.Pm

/-- As Bys, with the log's own block besides. -/
def ByG (h : Nat) (V : Value) (x : Nat) (w w' : World) : Prop :=
  w.heap.size ≤ w'.heap.size ∧ ∀ (g : Nat) (cs : Array Value) (t : TypeId), w.heap[g]? = some (.cells cs t (0, 0)) → t ≠ 73 → g ≠ h → some g ≠ V.ownBlock → g ≠ x → w'.heap[g]? = w.heap[g]?
section
variable {w w' w1 : World} {base h x : Nat} {V W : Value} {d : DkS}
theorem Bys.g (a : Bys h V w w') (x : Nat) : ByG h V x w w' := ⟨a.1, fun g cs t h1 h2 h3 h4 _ => a.2 g cs t h1 h2 h3 h4⟩
theorem ByG.trans (a : ByG h V x w w1) (b : ByG h V x w1 w') : ByG h V x w w' := ⟨Nat.le_trans a.1 b.1, fun g cs t hg ht hh hv hx => by
  have e := a.2 g cs t hg ht hh hv hx
  exact (b.2 g cs t (e.trans hg) ht hh hv hx).trans e⟩
theorem ByG.set (h : Nat) (V : Value) (x : Nat) (w : World) (i : Nat) (u : Value) : ByG h V x w (w.setCell ⟨x, i, none⟩ u) := ⟨by simp [World.setCell], fun g cs t _ _ _ _ hx => Below.heap_setCell w ⟨x, i, none⟩ u g hx⟩
theorem ByG.rowD (a : ByG h V x w w') (k : Dk w base h V W d) {g t : Nat} {cs : Array Value} (hg : w.heap[g]? = some (.cells cs t (0, 0))) (ht : t ≠ 73) (hd : t ≠ 70) (hs : t ≠ 9) (hx : g ≠ x) : w'.heap[g]? = some (.cells cs t (0, 0)) :=
  (a.2 g cs t hg ht (k.ne hg hd) (k.neV hg hs) hx).trans hg
end
theorem IsLg.bys {T : Array Value} {w w' : World} {g h : Nat} {e : Int} {ov : Bool} {base : Nat} {V W : Value} {d : DkS} (l : IsLg T w g h e ov) (k : Dk w base h V W d) (a : Bys h V w w') : IsLg T w' g h e ov :=
  ⟨l.1, a.rowD k l.2 (by decide) (by decide) (by decide)⟩
theorem Dk.set_far {w : World} {base h : Nat} {V W : Value} {d : DkS} (k : Dk w base h V W d) {g t : Nat} {cs : Array Value} (hg : w.heap[g]? = some (.cells cs t (0, 0))) (hd : t ≠ 70) (hs : t ≠ 9) (hw : t ≠ 73) (i : Nat) (u : Value) : Dk (w.setCell ⟨g, i, none⟩ u) base h V W d :=
  ⟨blk_far k.dk (p := ⟨g, i, none⟩) (Ne.symm (k.ne hg hd)) u, Kd.R_set k.sr hg (fun q hq => by rw [string_E] at hq; rw [List.mem_singleton.1 hq]; exact Ne.symm hs) i u, Kd.R_set k.wt hg (fun q hq => by rw [kW_E] at hq; rw [List.mem_singleton.1 hq]; exact Ne.symm hw) i u, k.hb⟩
set_option maxRecDepth 100000 in
set_option maxHeartbeats 4000000 in
theorem append_long {T : Array Value} {w : World} {g h e : Nat} (l : IsLg T w g h e false) (r : ByteArray) (hr : r.size < 1 ∨ 4000 < r.size) :
    Calls Try.prog 26 #[.pointer (some ⟨g, 0, none⟩), .string r] w fun x w' => x = .returned (.int .i64 3) ∧ w = w' := by
  have c2 := l.c2
  have LF := Lib.hid (fun w => logfits_any (r.size : Int) w)
  rw [show (decide (1 ≤ (r.size : Int)) && decide ((r.size : Int) ≤ 4000)) = false by rw [Bool.and_eq_false_iff]; simp only [decide_eq_false_iff_not]; omega] at LF
  clear l hr
  go_enter Try.func26, Try.ntmps26
  go_wp2_with fail
  refine (LF.out _).mono ?_
  rintro e w1 ⟨rfl, rfl⟩
  go_wp2
  go_ret
  exact ⟨rfl, rfl⟩
set_option maxRecDepth 100000 in
set_option maxHeartbeats 4000000 in
theorem append_full {T : Array Value} {w : World} {base g h e : Nat} {V W : Value} {d : DkS} (k : Dk w base h V W d) (l : IsLg T w g h e false) (ho : d.Ok) (r : ByteArray) (hr : 1 ≤ r.size ∧ r.size ≤ 4000) (he : e ≤ 64 * d.sure.length) (hful : 64 * d.sure.length - e < 6 + r.size) :
    Calls Try.prog 26 #[.pointer (some ⟨g, 0, none⟩), .string r] w fun x w' => x = .returned (.int .i64 5) ∧ Below w.heap.size w w' := by
  have c0 := l.c0
  have c1 := l.c1
  have c2 := l.c2
  have LF := Lib.hid (fun w => logfits_any (r.size : Int) w)
  rw [show (decide (1 ≤ (r.size : Int)) && decide ((r.size : Int) ≤ 4000)) = true by rw [Bool.and_eq_true]; simp only [decide_eq_true_eq]; omega] at LF
  obtain ⟨N, hN⟩ : ∃ N, d.sure.length = N := ⟨_, rfl⟩
  have hN4 : N ≤ 4096 := by rw [← hN]; exact ho.len
  have SC := Lib.hid (fun (w' : World) (hb : Below w.heap.size w w') => dk_sectors (k.below hb))
  rw [hN] at SC he hful
  have HN := Lib.hid hN; clear hN
  obtain ⟨a6, ha6⟩ : ∃ a6, 6 + r.size = a6 := ⟨_, rfl⟩
  obtain ⟨nn, hnn⟩ : ∃ nn, 64 * N = nn := ⟨_, rfl⟩
  obtain ⟨df, hdf⟩ : ∃ df, nn - e = df := ⟨_, rfl⟩
  have q1 : wrap64 (6 + (r.size : Int)) = (a6 : Int) := (wrap64_id (by omega) (by omega)).trans (by omega)
  have q2 : wrap64 ((N : Int) * 64) = (nn : Int) := (wrap64_id (by omega) (by omega)).trans (by omega)
  have q3 : wrap64 ((nn : Int) - (e : Int)) = (df : Int) := (wrap64_id (by omega) (by omega)).trans (by omega)
  have y : decide ((df : Int) < (a6 : Int)) = true := decide_eq_true (by omega)
  have yn : decide (df < a6) = true := decide_eq_true (by omega)
  have HA := Lib.hid (And.intro ha6 (And.intro hnn hdf)); clear ha6 hnn hdf
  have HSZ := Lib.hid (And.intro hr he); clear hr he
  have HFU := Lib.hid hful; clear hful
  have HN4 := Lib.hid hN4; clear hN4
  have HB := Lib.hid (Below.refl w.heap.size w)
  clear l ho k
  go_enter Try.func26, Try.ntmps26
  go_wp2_with fail
  refine (LF.out _).mono ?_
  rintro e2 w1 ⟨rfl, rfl⟩
  go_wp2
  refine start_ (n := 16) (S := fun w' => w'.cell? ⟨g, 256, none⟩ = some (.pointer (some ⟨h, 0, none⟩)) ∧ w'.cell? ⟨g, 257, none⟩ = some (.int .i64 (e : Int))) (ds := []) #[false, false, false, false, false, false, false, false, false, false, false, false, false, false, false, false] (by kernel_rfl) rfl rfl ⟨(show w.drew.cell? _ = _ from c0), (show w.drew.cell? _ = _ from c1)⟩ (fun hHeld => ?_)
  have HB := Lib.hid (below_drew HB.out)
  refine pure_ (i := 0) (N := some 24) (v := ?_) (a' := ?_) #[true, false, false, false, false, false, false, false, false, false, false, false, false, false, false, false] rfl rfl (by kernel_rfl) (fun _ _ _ h => h) (Or.inl ⟨by rfl, ?_⟩) ?_ ?_
  rotate_left
  · intro w'
    go_simp
    with_reducible rfl
  rotate_left
  · simp only [Act.put, List.setIfInBounds_toArray, List.set_cons_zero, List.set_cons_succ, i64_w, i32_w]
    rfl
  refine pure_ (i := 1) (N := some 25) (v := ?_) (a' := ?_) #[true, true, false, false, false, false, false, false, false, false, false, false, false, false, false, false] rfl rfl (by kernel_rfl) (fun _ _ _ h => h) (Or.inl ⟨by rfl, ?_⟩) ?_ ?_
  rotate_left
  · intro w'
    go_simp
    with_reducible rfl
  rotate_left
  · simp only [Act.put, List.setIfInBounds_toArray, List.set_cons_zero, List.set_cons_succ, i64_w, i32_w]
    rfl
  refine pure_ (i := 2) (N := some 26) (v := ?_) (a' := ?_) #[true, true, true, false, false, false, false, false, false, false, false, false, false, false, false, false] rfl rfl (by kernel_rfl) (fun _ _ _ h => h) (Or.inl ⟨by rfl, ?_⟩) ?_ ?_
  rotate_left
  · intro w'
    go_simp
    with_reducible rfl
  rotate_left
  · simp only [Act.put, List.setIfInBounds_toArray, List.set_cons_zero, List.set_cons_succ, i64_w, i32_w]
    rfl
  refine pure_ (i := 3) (N := some 27) (v := ?_) (a' := ?_) #[true, true, true, true, false, false, false, false, false, false, false, false, false, false, false, false] rfl rfl (by kernel_rfl) (fun _ _ _ h => h) (Or.inl ⟨by rfl, ?_⟩) ?_ ?_
  rotate_left
  · intro w'
    go_simp
    with_reducible rfl
  rotate_left
  · simp only [Act.put, List.setIfInBounds_toArray, List.set_cons_zero, List.set_cons_succ, i64_w, i32_w]
    rfl
  refine pure_ (i := 4) (N := some 28) (v := ?_) (a' := ?_) #[true, true, true, true, true, false, false, false, false, false, false, false, false, false, false, false] rfl rfl (by kernel_rfl) (fun _ _ _ h => h) (Or.inl ⟨by rfl, ?_⟩) ?_ ?_
  rotate_left
  · intro w'
    go_simp
    with_reducible rfl
  rotate_left
  · simp only [Act.put, List.setIfInBounds_toArray, List.set_cons_zero, List.set_cons_succ, i64_w, i32_w]
    rfl
  refine pure_ (i := 5) (N := some 29) (v := ?_) (a' := ?_) #[true, true, true, true, true, true, false, false, false, false, false, false, false, false, false, false] rfl rfl (by kernel_rfl) (fun _ _ _ h => h) (Or.inl ⟨by rfl, ?_⟩) ?_ ?_
  rotate_left
  · intro w'
    go_simp
    with_reducible rfl
  rotate_left
  · simp only [Act.put, List.setIfInBounds_toArray, List.set_cons_zero, List.set_cons_succ, i64_w, i32_w]
    rfl
  refine pure_ (i := 9) (N := some 33) (v := ?_) (a' := ?_) #[true, true, true, true, true, true, false, false, false, true, false, false, false, false, false, false] rfl rfl (by kernel_rfl) (fun _ _ _ h => h) (Or.inl ⟨by rfl, ?_⟩) ?_ ?_
  rotate_left
  · intro w'
    go_simp
    with_reducible rfl
  rotate_left
  · simp only [Act.put, List.setIfInBounds_toArray, List.set_cons_zero, List.set_cons_succ, i64_w, i32_w]
    rfl
  refine pure_ (i := 10) (N := some 34) (v := ?_) (a' := ?_) #[true, true, true, true, true, true, false, false, false, true, true, false, false, false, false, false] rfl rfl (by kernel_rfl) (fun _ _ _ h => h) (Or.inl ⟨by rfl, ?_⟩) ?_ ?_
  rotate_left
  · intro w'
    go_simp
    with_reducible rfl
  rotate_left
  · simp only [Act.put, List.setIfInBounds_toArray, List.set_cons_zero, List.set_cons_succ, i64_w, i32_w]
    rfl
  refine pure_ (i := 11) (N := some 35) (v := ?_) (a' := ?_) #[true, true, true, true, true, true, false, false, false, true, true, true, false, false, false, false] rfl rfl (by kernel_rfl) (fun _ _ _ h => h) (Or.inl ⟨by rfl, ?_⟩) ?_ ?_
  rotate_left
  · intro w'
    go_simp
    with_reducible rfl
  rotate_left
  · simp only [Act.put, List.setIfInBounds_toArray, List.set_cons_zero, List.set_cons_succ, i64_w, i32_w]
    rfl
  refine take_ (i := 6) (N := some 30) (v := ?_) (a' := ?_) #[true, true, true, true, true, true, true, false, false, true, true, true, false, false, false, false] rfl rfl (by kernel_rfl) (fun _ _ _ h => h) (Or.inl ⟨by rfl, ?_⟩) hHeld ?_ ?_
  rotate_left
  · rintro w' ⟨s0, s1⟩
    go_simp
    with_reducible rfl
  rotate_left
  · simp only [Act.put, List.setIfInBounds_toArray, List.set_cons_zero, List.set_cons_succ, i64_w, i32_w]
    rfl
  refine take_ (i := 12) (N := some 36) (v := ?_) (a' := ?_) #[true, true, true, true, true, true, true, false, false, true, true, true, true, false, false, false] rfl rfl (by kernel_rfl) (fun _ _ _ h => h) (Or.inl ⟨by rfl, ?_⟩) hHeld ?_ ?_
  rotate_left
  · rintro w' ⟨s0, s1⟩
    go_simp
    with_reducible rfl
  rotate_left
  · simp only [Act.put, List.setIfInBounds_toArray, List.set_cons_zero, List.set_cons_succ, i64_w, i32_w]
    rfl
  refine one_ (i := 7) (N := some 31) #[true, true, true, true, true, true, true, true, false, true, true, true, true, false, false, false] rfl rfl (by kernel_rfl) (by decide) (fun K hK => ?_)
  refine goes_ Try.func20 (by kernel_rfl) rfl #[.pointer (some ⟨h, 0, none⟩)] (by rfl) rfl rfl (by (try simp only [List.map_toArray, List.map_cons, List.map_nil]); first | done | rfl) ?_
  with_reducible refine ((SC.out _ HB.out)).mono ?_
  rintro e w5 ⟨rfl, hw5⟩
  refine ⟨_, rfl, ?_⟩
  subst hw5
  refine hK.out _ _ ⟨hHeld.1, hHeld.2⟩ (fun hHeld => ?_)
  clear hK K
  refine norm_ (a' := ?_) ?_ ?_
  rotate_left
  · show Act.put _ (some 31) _ = _
    simp only [Act.put, List.setIfInBounds_toArray, List.set_cons_zero, List.set_cons_succ, i64_w, i32_w]
    rfl
  refine pure_ (i := 8) (N := some 32) (v := ?_) (a' := ?_) #[true, true, true, true, true, true, true, true, true, true, true, true, true, false, false, false] rfl rfl (by kernel_rfl) (fun _ _ _ h => h) (Or.inl ⟨by rfl, ?_⟩) ?_ ?_
  rotate_left
  · intro w'
    go_simp
    with_reducible rfl
  rotate_left
  · simp only [Act.put, List.setIfInBounds_toArray, List.set_cons_zero, List.set_cons_succ, i64_w, i32_w]
    rfl
  refine pure_ (i := 13) (N := some 37) (v := ?_) (a' := ?_) #[true, true, true, true, true, true, true, true, true, true, true, true, true, true, false, false] rfl rfl (by kernel_rfl) (fun _ _ _ h => h) (Or.inl ⟨by rfl, ?_⟩) ?_ ?_
  rotate_left
  · intro w'
    go_simp
    with_reducible rfl
  rotate_left
  · simp only [Act.put, List.setIfInBounds_toArray, List.set_cons_zero, List.set_cons_succ, i64_w, i32_w]
    rfl
  refine pure_ (i := 14) (N := some 38) (v := ?_) (a' := ?_) #[true, true, true, true, true, true, true, true, true, true, true, true, true, true, true, false] rfl rfl (by kernel_rfl) (fun _ _ _ h => h) (Or.inl ⟨by rfl, ?_⟩) ?_ ?_
  rotate_left
  · intro w'
    go_simp
    with_reducible rfl
  rotate_left
  · simp only [Act.put, List.setIfInBounds_toArray, List.set_cons_zero, List.set_cons_succ, i64_w, i32_w]
    rfl
  refine pure_ (i := 15) (N := some 23) (v := ?_) (a' := ?_) #[true, true, true, true, true, true, true, true, true, true, true, true, true, true, true, true] rfl rfl (by kernel_rfl) (fun _ _ _ h => h) (Or.inl ⟨by rfl, ?_⟩) ?_ ?_
  rotate_left
  · intro w'
    go_simp
    with_reducible rfl
  rotate_left
  · simp only [Act.put, List.setIfInBounds_toArray, List.set_cons_zero, List.set_cons_succ, i64_w, i32_w]
    rfl
  refine done_ (by kernel_rfl) ?_

  go_wp2
  go_ret
  exact ⟨rfl, HB.out⟩
end Go.Proofs.Ytoandabafkdgjaa.My
