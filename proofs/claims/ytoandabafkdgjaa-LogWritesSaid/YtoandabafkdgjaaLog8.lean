/- log.Open. -/
import Derived.Test.YtoandabafkdgjaaLog7
namespace Go.Proofs.Ytoandabafkdgjaa.My
set_option linter.unusedSimpArgs false
set_option linter.unusedVariables false
open Go.RowKit Go.Proofs.YtoandabafkdgjaaW.PrintWords Go.Proofs.YtoandabafkdgjaaW.PrintLast Go.Proofs.Ytoandabafkdgjaa.Pm

/-- What a disk's calls leave beside the disk's own: rows of other types. -/
def Bys (h : Nat) (V : Value) (w w' : World) : Prop :=
  w.heap.size ≤ w'.heap.size ∧ ∀ (g : Nat) (cs : Array Value) (t : TypeId), w.heap[g]? = some (.cells cs t (0, 0)) → t ≠ 73 → g ≠ h → some g ≠ V.ownBlock → w'.heap[g]? = w.heap[g]?
section
variable {w w' w1 : World} {base b' h : Nat} {V W v : Value} {d : DkS} {l : List ByteArray}
theorem Bys.refl (h : Nat) (V : Value) (w : World) : Bys h V w w := ⟨Nat.le_refl _, fun _ _ _ _ _ _ _ => rfl⟩
theorem Bys.keeps (k : Dk w base h V W d) (hk : Keeps (OwnD h V W) w w') : Bys h V w w' := ⟨hk.size, fun g cs t hg ht hh hv => hk.block g (blk_lt hg) (by
  rintro (e | e | e)
  · exact hh e
  · exact hv e.symm
  · exact Kd.R_ne k.wt hg (Ne.symm ht) e.symm)⟩
theorem Bys.below (hb : Below w.heap.size w w') : Bys h V w w' := ⟨hb.size, fun g cs t hg _ _ _ => hb.block g (blk_lt hg)⟩
theorem Bys.trans (a : Bys h V w w1) (b : Bys h V w1 w') : Bys h V w w' := ⟨Nat.le_trans a.1 b.1, fun g cs t hg ht hh hv => by
  have e := a.2 g cs t hg ht hh hv
  exact (b.2 g cs t (e.trans hg) ht hh hv).trans e⟩
theorem Bys.row (a : Bys h V w w') {g t : Nat} {cs : Array Value} (hg : w.heap[g]? = some (.cells cs t (0, 0))) (ht : t ≠ 73) (hh : g ≠ h) (hv : some g ≠ V.ownBlock) : w'.heap[g]? = some (.cells cs t (0, 0)) := (a.2 g cs t hg ht hh hv).trans hg
theorem Dk.ne (k : Dk w base h V W d) {g t : Nat} {cs : Array Value} (hg : w.heap[g]? = some (.cells cs t (0, 0))) (ht : t ≠ 70) : g ≠ h := fun e => by
  subst e
  have := k.dk
  unfold IsDk at this
  rw [hg] at this
  simp only [Option.some.injEq, Obj.cells.injEq] at this
  exact ht this.2.1
theorem Dk.neV (k : Dk w base h V W d) {g t : Nat} {cs : Array Value} (hg : w.heap[g]? = some (.cells cs t (0, 0))) (ht : t ≠ 9) : some g ≠ V.ownBlock := Kd.R_ne k.sr hg (Ne.symm ht)
theorem Bys.rowD (a : Bys h V w w') (k : Dk w base h V W d) {g t : Nat} {cs : Array Value} (hg : w.heap[g]? = some (.cells cs t (0, 0))) (ht : t ≠ 73) (hd : t ≠ 70) (hs : t ≠ 9) : w'.heap[g]? = some (.cells cs t (0, 0)) :=
  a.row hg ht (k.ne hg hd) (k.neV hg hs)
/-- A row of strings that is younger than the disk's. -/
theorem Bys.sls (a : Bys h V w w') (k : Dk w base h V W d) (hs : Sls w b' v l) (hb : ∀ x, V.ownBlock = some x → x < b') : Sls w' b' v l :=
  Kd.R_mono (Kd.R_move (Kd.R_bound hs) fun x hx => by
    obtain ⟨_, hge, hlt, q, hq, cells, hc⟩ := hx
    rw [string_E] at hq
    rw [List.mem_singleton.1 hq] at hc
    exact a.2 x cells _ hc (by decide) (k.ne hc (by decide)) (fun e => by have := hb x e.symm; omega)) (fun _ _ => trivial)
theorem Dk.vlt (k : Dk w base h V W d) : ∀ x, V.ownBlock = some x → x < w.heap.size := Kd.R_lt k.sr
end
theorem wpList_build' {P : Program} {ops : Array Oper} {rest : List Oper} {o : Oper} {a : Act} {w : World} {Q : Exit → Act → World → Prop} (hgd : o.guard = none) (t : TypeId) (parts : Array (Nat × Operand)) (ho : o.op = .build t parts) (cells : Array Value)
    (hf : P.built t (parts.map fun (i, x) => (i, a.eval x)).toList = some cells) (h : wpList P ops Q rest (a.put o.dst (.agg cells)) w) : wpList P ops Q (o :: rest) a w :=
  wpList_plain hgd fun _ hK => wp_build t parts ho (by rw [hf]; rfl) (hK _ _ (by rw [hf]; exact h))
theorem wpl_move {P : Program} {ops : Array Oper} {rest : List Oper} {o : Oper} {a : Act} {w : World} {Q : Exit → Act → World → Prop} (hg : o.guard = none) (x : Operand) (ho : o.op = .move x) (h : wpList P ops Q rest (a.put o.dst (a.eval x)) w) : wpList P ops Q (o :: rest) a w :=
  wpList_plain hg fun _ hK => Go.BigFrame.wp_move x ho (hK _ _ h)
theorem lg_built (h : Nat) (e : Int) : Try.prog.built 79 [(0, .agg tab), (1, .pointer (some ⟨h, 0, none⟩)), (2, .int .i64 e)] = some (lgCells tab h e false) := by kernel_rfl
def openB (d : DkS) : ByteArray := ⟨(allL d d.sure.length).toArray⟩
def openE (d : DkS) : Nat := (standS (openB d)).2
/-- What Open leaves of the disk. -/
def openS (d : DkS) : DkS := syncS (wipeN d (openE d) (d.sure.length - openE d / 64))
theorem openB_size {d : DkS} (h : d.Ok) : (openB d).size = 64 * d.sure.length := by
  unfold openB
  exact List.size_toArray.trans (allL_len h _ (Nat.le_refl _))
theorem tab_size' : tab.size = 256 := by unfold tab; exact tabTo_size _
set_option maxRecDepth 100000 in
set_option maxHeartbeats 8000000 in
theorem open_any {w : World} {base h : Nat} {V W : Value} {d : DkS} (k : Dk w base h V W d) (ho : d.Ok) (hg : d.gone = false) (hf : d.fuse = -1) (hl : d.waits.length ≤ 100000) (hbw : base ≤ w.heap.size) :
    Calls Try.prog 24 #[.agg tab, .pointer (some ⟨h, 0, none⟩)] w fun x w' => (∃ g v, x = .returned (.tuple #[.pointer (some ⟨g, 0, none⟩), v, .int .i64 0]) ∧ IsLg tab w' g h (openE d) false ∧ w.heap.size ≤ g ∧ Sls w' w.heap.size v (standS (openB d)).1 ∧ Dk w' base h V (.slice none 0 0) (openS d)) ∧ Bys h V w w' ∧ Below base w w' := by
  have hi1 : (Try.prog.info? 53).map (·.size) = some tab.size := by unfold tab; rw [tabTo_size]; kernel_rfl
  have HI := Lib.hid hi1; clear hi1
  have hm : mayS d (-1) = 1 := by unfold mayS; rw [if_neg (by rw [hg]; decide), if_pos (.inl (by decide))]
  have R1 := Lib.hid (fun (w' : World) (hb : Below w.heap.size w w') => dk_read_bad (k.below hb) (-1) (by rw [hm]; decide))
  rw [hm] at R1
  have AL := Lib.hid (fun (w' : World) (hb : Below w.heap.size w w') => all_any (k.below hb) ho hg (by omega))
  have hbz := openB_size ho
  have hN4 : d.sure.length ≤ 4096 := ho.len
  have ST := Lib.hid (fun w => stands_any (openB d) w (by omega))
  have HWO := Lib.hid (fun j (hj : openE d / 64 + j ≤ d.sure.length) => wipeN_ok ho (openE d) hf j hj)
  obtain ⟨N, hN⟩ : ∃ N, d.sure.length = N := ⟨_, rfl⟩
  have HOS := Lib.hid (show openS d = syncS (wipeN d (openE d) (N - openE d / 64)) by rw [← hN]; rfl)
  change Hid (∀ w', Below w.heap.size w w' → Calls Try.prog 35 #[.pointer (some ⟨h, 0, none⟩)] w' fun e w'' => e = .returned (.tuple #[.string (openB d), .int .i64 0]) ∧ Below w'.heap.size w' w'') at AL
  change Hid (∀ w, Calls Try.prog 32 #[.agg tab, .string (openB d)] w fun e w' => (∃ v, e = .returned (.tuple #[v, .int .i64 (openE d : Nat)]) ∧ Sls w' w.heap.size v (standS (openB d)).1) ∧ openE d ≤ (openB d).size ∧ Below w.heap.size w w') at ST
  rw [hN] at hbz hN4 HWO
  have HN := Lib.hid hN; clear hN
  rw [hbz] at ST
  generalize (standS (openB d)).1 = L at *
  generalize openB d = B at *
  obtain ⟨E, hE⟩ : ∃ E, openE d = E := ⟨_, rfl⟩
  rw [hE] at ST HWO HOS ⊢
  generalize openS d = DS at *
  have LB := Lib.hid (lg_built h E)
  have TS := Lib.hid tab_size'
  clear hE hbz hm
  have K0 := Lib.hid (blk_new w (.cells tab 53))
  have HB := Lib.hid (below_alloc (Below.refl w.heap.size w) (.cells tab 53))
  generalize tab = T at *
  have HK := Lib.hid k
  have HG := Lib.hid (And.intro hg hl); clear hg hl hf ho k
  go_enter Try.func24, Try.ntmps24
  go_wp2_with fail
  refine (R1.out _ HB.out).mono ?_
  rintro e w1 ⟨rfl, hb⟩
  replace K0 := Lib.hid (blk_below K0.out hb)
  replace HB := Lib.hid (HB.out.trans (hb.mono HB.out.size)); clear hb R1
  go_wp2_with fail
  refine (AL.out _ HB.out).mono ?_
  rintro e w2 ⟨rfl, hb⟩
  replace K0 := Lib.hid (blk_below K0.out hb)
  replace HB := Lib.hid (HB.out.trans (hb.mono HB.out.size)); clear hb AL
  go_wp2_with (first | refine wpList_load_row rfl 53 _ rfl w.heap.size rfl 53 T (0, 0) _ K0.out Try.underlying53 rfl HI.out ?_ | fail)
  refine (ST.out _).mono ?_
  rintro e w3 ⟨⟨v, rfl, hsl⟩, hEl, hb⟩
  replace K0 := Lib.hid (blk_below K0.out hb)
  have HSL := Lib.hid (Kd.R_lower hsl HB.out.size)
  replace HB := Lib.hid (HB.out.trans (hb.mono HB.out.size)); clear hb ST hsl
  obtain ⟨q, hq⟩ : ∃ q, E / 64 = q := ⟨_, rfl⟩
  have q1 : Int.tdiv (E : Int) 64 = (q : Int) := by rw [← hq]; exact (Int.tdiv_eq_ediv_of_nonneg (by omega)).trans (by omega)
  have q2 : (E : Int) / 64 = (q : Int) := by omega
  have hqN : q ≤ N := by omega
  rw [hq] at HWO HOS
  have HQ := Lib.hid hq; clear hq
  have HBY := Lib.hid (Bys.below (h := h) (V := V) HB.out)
  have HK1 := Lib.hid (HK.out.below HB.out)
  replace HB := Lib.hid (HB.out.mono hbw)
  obtain ⟨Av, mv, cv, hv⟩ := sl_slice HSL.out
  subst hv
  go_wp2
  generalize hW3 : w3 = w4 at *
  clear hW3
  go_loopw [13] (fun v13 wr => ∃ i : Nat, v13 = .int .i64 (i : Int) ∧ q ≤ i ∧ i ≤ N ∧ Hid (∃ W', Dk wr base h V W' (wipeN d E (i - q))) ∧ Hid (Bys h V w4 wr) ∧ Hid (Below base w wr)) (fun v13 _ => N - (intOf v13).toNat)
  case atStart => exact ⟨q, rfl, Nat.le_refl _, hqN, Lib.hid ⟨_, by rw [Nat.sub_self]; exact HK1.out⟩, Lib.hid (Bys.refl _ _ _), HB⟩
  case round =>
    clear HB
    obtain ⟨i, rfl, hqi, hiN, HKJ, HBYJ, HB⟩ := hrel
    obtain ⟨W', hkw⟩ := HKJ.out
    have HKW := Lib.hid hkw; clear hkw HKJ
    obtain ⟨o1, o2, o3, o4, o5⟩ := HWO.out (i - q) (by omega)
    have SC := Lib.hid (dk_sectors HKW.out)
    rw [o4, HN.out] at SC
    have HWS := Lib.hid (show wipeN d E (i + 1 - q) = wipeS (wipeN d E (i - q)) i (E - 64 * i) by
      rw [show i + 1 - q = (i - q) + 1 by omega]
      show wipeS (wipeN d E (i - q)) (E / 64 + (i - q)) (E - 64 * (E / 64 + (i - q))) = _
      rw [HQ.out, show q + (i - q) = i by omega])
    by_cases hlt : i < N
    · have hE64 : E - 64 * i ≤ 64 := by have := HQ.out; omega
      obtain ⟨n, hn⟩ : ∃ n, E - 64 * i = n := ⟨_, rfl⟩
      rw [hn] at hE64 HWS
      have WP := Lib.hid (fun (wx : World) (hb : Below wr.heap.size wr wx) => wipe_any (HKW.out.below hb) o1 (o3.trans HG.out.1) (by have := HG.out.2; omega) i (by rw [o4, HN.out]; exact hlt) n hE64 (Nat.le_trans (Nat.le_trans hbw HB.out.size) hb.size))
      have y1 : decide ((i : Int) < (N : Int)) = true := decide_eq_true (by omega)
      have z1 : max ((E : Int) - (i : Int) * 64) 0 = (n : Int) := by omega
      have HO := Lib.hid (And.intro o1 (And.intro o3 (And.intro o4 o5))); clear o1 o2 o3 o4 o5
      have HNN := Lib.hid hn; clear hn
      go_wp2_with fail
      refine SC.out.mono ?_
      rintro e wx ⟨rfl, rfl⟩
      go_wp2_with fail
      refine (WP.out _ (Below.refl _ _)).mono ?_
      rintro e wy ⟨rfl, ⟨W2, hk⟩, hb, hp⟩
      have HBY2 := Lib.hid (HBYJ.out.trans (Bys.keeps HKW.out hp))
      have HK2 := Lib.hid hk
      replace HB := Lib.hid (HB.out.trans hb); clear hk hb hp WP y1 z1
      have HLT := Lib.hid hlt
      have HQI := Lib.hid hqi
      have hw := succ_w hlt (show N ≤ 140737488351232 by omega)
      clear hE64 hiN hqi hEl hqN hN4
      go_wp2
      go_roundw
      case rel => exact ⟨i + 1, by go_num, Nat.le_trans HQI.out (Nat.le_succ _), HLT.out, Lib.hid ⟨W2, by rw [HWS.out]; exact HK2.out⟩, HBY2, HB⟩
      case measure => first | exact up_w HLT.out hw | exact up_w2 HLT.out
    · obtain rfl : i = N := by omega
      have y1 : decide ((i : Int) < (i : Int)) = false := decide_eq_false (by omega)
      have SY := Lib.hid (dk_syncK HKW.out o1 (o3.trans HG.out.1) (by have := HG.out.2; omega) (Nat.le_trans hbw HB.out.size))
      rw [← HOS.out] at SY
      clear o1 o2 o3 o4 o5 hiN hqi hEl hqN hN4 HWS
      go_wp2_with fail
      refine SC.out.mono ?_
      rintro e wx ⟨rfl, rfl⟩
      go_wp2_with fail
      refine SY.out.mono ?_
      rintro e wy ⟨rfl, hk, hb, hp⟩
      have HBY2 := Lib.hid (HBYJ.out.trans (Bys.keeps HKW.out hp))
      have HK2 := Lib.hid hk
      replace HB := Lib.hid (HB.out.trans hb); clear hk hb hp SY SC
      have HBY3 := Lib.hid (HBY.out.trans HBY2.out)
      have HSL2 := Lib.hid (HBY2.out.sls HK1.out HSL.out HK.out.vlt)
      have K2 := Lib.hid (HBY2.out.rowD HK1.out K0.out (by decide) (by decide) (by decide))
      have hcs : (lgCells T h E false).size = 259 := by unfold lgCells; rw [Array.size_append, TS.out]; rfl
      generalize hC : lgCells T h E false = C at *
      have HCC := Lib.hid hC; clear hC
      go_wp2_with (refine wpList_load_row rfl 53 (.tmp 2) rfl w.heap.size rfl 53 T (0, 0) _ K2.out Try.underlying53 rfl HI.out ?_; refine wpl_move rfl _ rfl ?_; refine wpl_move rfl _ rfl ?_; refine wpList_build' rfl 79 #[(0, .tmp 62), (1, .tmp 63), (2, .tmp 64)] rfl C (by simp only [List.map_toArray, List.map_cons, List.map_nil]; exact LB.out) ?_)
      first | go_ret3 | (go_wp2; go_ret3)
      refine ⟨⟨_, _, rfl, ⟨TS.out, ?_⟩, HBY3.out.1, Kd.R_alloc HSL2.out _, HK2.out.alloc _⟩, HBY3.out.trans (Bys.below (below_alloc (Below.refl _ _) _)), HB.out.trans ((below_alloc (Below.refl _ _) _).mono (Nat.le_trans hbw HBY3.out.1))⟩
      rw [HCC.out]
      exact blk_new _ _
end Go.Proofs.Ytoandabafkdgjaa.My
