/- mvcc.Store: in memory; New, chain, fits, Last, At. -/
import Derived.Test.YtcnehponkgofiaaBlkFind
import Derived.Test.YtcnehponkgofiaaChR
import Derived.Test.YtcnehponkgofiaaAppR
import Derived.Test.YtcnehponkgofiaaWr
namespace Go.Proofs.Ytcnehponkgofiaa.My
set_option linter.unusedSimpArgs false
set_option linter.unusedVariables false
open Go.RowKit Go.Proofs.YtcnehponkgofiaaW.PrintWords Go.Proofs.YtcnehponkgofiaaW.PrintLast Go.Proofs.Ytcnehponkgofiaa.Pm

/-- An entry, with its chain's place. -/
structure EntP where
  key : ByteArray
  A : Option Addr
  c : Nat
  ch : List VerT
def entC (p : EntP) : List Value := [.string p.key, .slice p.A p.ch.length p.c]
theorem entC_len (p : EntP) : (entC p).length = 2 := rfl
theorem entC_one (p : EntP) : ∀ u ∈ entC p, u.oneCell' = true := by
  intro u hu
  simp only [entC, List.mem_cons, List.not_mem_nil, or_false] at hu
  rcases hu with rfl | rfl <;> rfl
theorem info_ent : (Try.prog.info? 65).map (fun i => (i.zero, i.size, i.bytes)) = some (some (.agg #[.string ⟨#[]⟩, .slice none 0 0]), 2, 40) := by kernel_rfl
/-- What is known of an entry. -/
structure EntOk (w : World) (base : Nat) (p : EntP) : Prop where
  own : OwnF w base 25 3 verC (.slice p.A p.ch.length p.c) p.ch
  right : rightV p.ch
  key : p.key.size ≤ 100
  val : ∀ v ∈ p.ch, v.1 < 18446744073709551616 ∧ v.2.2.size ≤ 500
theorem EntOk.below {w w1 : World} {base : Nat} {p : EntP} (h : EntOk w base p) (hb : Below w.heap.size w w1) : EntOk w1 base p := ⟨h.own.below hb, h.right, h.key, h.val⟩
theorem EntOk.arg {w : World} {base : Nat} {p : EntP} (h : EntOk w base p) : ArgVers w p.A p.ch.length p.ch := ver_arg (h.own.row verC_len) fun v hv => ⟨(h.val v hv).1, Nat.le_trans (h.val v hv).2 (by decide)⟩
def pr (e : EntP) : EntT := (e.key, e.ch)
/-- A store: in block g, its entries' slice. -/
structure MSt (w : World) (base g : Nat) (v : Value) (es : List EntP) : Prop where
  blk : w.heap[g]? = some (.cells #[v] 78 (0, 0))
  own : OwnF w base 65 2 entC v es
  ok : ∀ e ∈ es, EntOk w base e
  ris : es.Pairwise fun a b => keyLess a.key b.key
  ge : base ≤ g
  len : es.length ≤ 1000
theorem MSt.below {w w1 : World} {base g : Nat} {v : Value} {es : List EntP} (h : MSt w base g v es) (hb : Below w.heap.size w w1) : MSt w1 base g v es :=
  ⟨blk_below h.blk hb, h.own.below hb, fun e he => (h.ok e he).below hb, h.ris, h.ge, h.len⟩
theorem MSt.alloc {w : World} {base g : Nat} {v : Value} {es : List EntP} (h : MSt w base g v es) (o : Obj) : MSt (w.alloc o) base g v es := h.below (below_alloc (Below.refl _ _) o)
theorem MSt.drew {w : World} {base g : Nat} {v : Value} {es : List EntP} (h : MSt w base g v es) : MSt w.drew base g v es := h.below (below_drew (Below.refl _ _))
theorem MSt.args {w : World} {base g : Nat} {v : Value} {es : List EntP} (h : MSt w base g v es) : ∃ A c, v = .slice A es.length c ∧ es.length ≤ c ∧ RowF w 2 entC A es.length es ∧ ArgEnts w A es.length (es.map pr) := by
  obtain ⟨A, c, rfl, hc⟩ := h.own.slice_
  have hr := h.own.row entC_len
  refine ⟨A, c, rfl, hc, hr, by rw [List.length_map], fun p hp => ?_, fun h0 => ?_⟩
  · obtain ⟨e, he, rfl⟩ := List.mem_map.1 hp
    exact Nat.le_trans (h.ok e he).key (by decide)
  · obtain ⟨b, off, e, hb, hcs⟩ := hr.2 h0
    refine ⟨b, off, e, hb, fun j hj => ?_⟩
    rw [List.length_map] at hj
    have hok := h.ok _ (List.getElem_mem hj)
    have := hcs j hj
    rw [List.getElem_map]
    exact ⟨es[j].A, es[j].ch.length, es[j].c, this 0 _ rfl, this 1 _ rfl, by have := hok.right.2; omega, hok.arg⟩
theorem keyLess_trans' {a b c : ByteArray} (h1 : keyLess a b) (h2 : keyLess b c) : keyLess a c := bless_trans _ _ _ h1 h2
theorem keyLess_irr {a b : ByteArray} (h : keyLess a b) : a ≠ b := fun e => by subst e; exact kless_irrefl _ h
theorem ris_mono {es : List EntP} (h : es.Pairwise fun a b => keyLess a.key b.key) (key : ByteArray) : ∀ a b (ha : a < (es.map pr).length) (hb : b < (es.map pr).length), a ≤ b → keyLess (es.map pr)[b].1 key → keyLess (es.map pr)[a].1 key := by
  intro a b ha hb hab hl
  rw [List.length_map] at ha hb
  rw [List.getElem_map] at hl ⊢
  rcases Nat.lt_or_eq_of_le hab with h' | rfl
  · exact keyLess_trans' (List.pairwise_iff_getElem.1 h a b ha hb h') hl
  · exact hl
/-- The entry of a key. -/
def entOf (es : List EntP) (key : ByteArray) : Option EntP := es.find? fun e => decide (e.key = key)
def chS (es : List EntP) (key : ByteArray) : List VerT := match entOf es key with
  | some e => e.ch
  | none => []
theorem entOf_some {es : List EntP} {key : ByteArray} {c : Nat} (hl : ∀ t (h : t < (es.map pr).length), t < c → keyLess (es.map pr)[t].1 key) (hc : c < es.length) (hk : es[c].key = key) : entOf es key = some es[c] := by
  unfold entOf
  rw [List.find?_eq_some_iff_getElem]
  refine ⟨by simpa using hk, c, hc, rfl, fun j hj => ?_⟩
  have := hl j (by rw [List.length_map]; omega) hj
  rw [List.getElem_map] at this
  simpa [pr] using keyLess_irr this
theorem entOf_none {es : List EntP} {key : ByteArray} {c : Nat} (hr : es.Pairwise fun a b => keyLess a.key b.key) (hl : ∀ t (h : t < (es.map pr).length), t < c → keyLess (es.map pr)[t].1 key) (hg : ∀ t (h : t < (es.map pr).length), c ≤ t → ¬ keyLess (es.map pr)[t].1 key) (hn : ¬ ∃ h : c < (es.map pr).length, (es.map pr)[c].1 = key) : entOf es key = none := by
  unfold entOf
  rw [List.find?_eq_none]
  intro e he
  obtain ⟨j, hj, rfl⟩ := List.getElem_of_mem he
  simp only [decide_eq_true_eq]
  intro hk
  rcases Nat.lt_trichotomy j c with h | h | h
  · have := hl j (by rw [List.length_map]; omega) h
    rw [List.getElem_map] at this
    exact keyLess_irr this hk
  · subst h
    exact hn ⟨by rw [List.length_map]; exact hj, by rw [List.getElem_map]; exact hk⟩
  · have := hg c (by rw [List.length_map]; omega) (Nat.le_refl _)
    rw [List.getElem_map] at this
    have h2 := List.pairwise_iff_getElem.1 hr c j (by omega) hj h
    rw [hk] at h2
    exact this h2
theorem new_any (w : World) (base : Nat) (hb : base ≤ w.heap.size) : Calls Try.prog 9 #[] w fun e w' => e = .returned (.pointer (some ⟨w.heap.size, 0, none⟩)) ∧ MSt w' base w.heap.size (.slice none 0 0) [] ∧ Below w.heap.size w w' := by
  have HM := Lib.hid (show MSt (w.alloc (.cells #[.slice none 0 0] 78)) base w.heap.size (.slice none 0 0) [] from ⟨blk_new w _, OwnF.nil _ _ _ _ _, fun e he => by simp at he, List.Pairwise.nil, hb, by decide⟩)
  have HB := Lib.hid (below_alloc (Below.refl w.heap.size w) (.cells #[.slice none 0 0] 78))
  go_enter Try.func9, Try.ntmps9
  go_wp2
  go_ret
  exact ⟨rfl, HM.out, HB.out⟩
set_option maxRecDepth 100000 in
set_option maxHeartbeats 4000000 in
theorem chain_any (base g : Nat) (v : Value) (es : List EntP) (key : ByteArray) (w : World) (hM : MSt w base g v es) :
    Calls Try.prog 34 #[.pointer (some ⟨g, 0, none⟩), .string key] w fun e w' => ∃ A c, e = .returned (.slice A (chS es key).length c) ∧ ArgVers w' A (chS es key).length (chS es key) ∧ rightV (chS es key) ∧ (chS es key).length ≤ c ∧ Below w.heap.size w w' := by
  have HM := Lib.hid hM; clear hM
  obtain ⟨A, c, rfl, hc, hr, ha⟩ := HM.out.args
  have hlen := HM.out.len
  have g0 : w.cell? ⟨g, 0, none⟩ = some (.slice A es.length c) := (blk_cell HM.out.blk 0).trans rfl
  have HF := Lib.hid (find_any A es.length c key (es.map pr) w ha (by omega) (ris_mono HM.out.ris key))
  clear ha
  go_enter Try.func34, Try.ntmps34
  go_wp2_with fail
  refine HF.out.mono ?_
  rintro e w1 ⟨k, ok, rfl, hk, hl, hg, ho, hb⟩
  have hok : ok = true → k < es.length ∧ ∃ h : k < es.length, es[k].key = key := fun e => by
    obtain ⟨h, h2⟩ := ho.1 e
    rw [List.length_map] at h
    rw [List.getElem_map] at h2
    exact ⟨h, h, h2⟩
  cases ok with
  | true =>
    obtain ⟨hkl, _, hke⟩ := hok rfl
    have HE := Lib.hid (entOf_some hl hkl hke)
    obtain ⟨bb, off, hj, rfl, hbW, hcs⟩ := hr.get k hkl
    replace hcs := range_below hcs hb hbW
    have HOK := Lib.hid ((HM.out.ok _ (List.getElem_mem hj)).below hb)
    have g1 := (hb.cell (p := ⟨g, 0, none⟩) (blk_lt HM.out.blk)).trans g0
    have HB := Lib.hid hb
    obtain ⟨x, hx⟩ : ∃ x, es[k] = x := ⟨_, rfl⟩
    rw [hx] at HE HOK hcs
    have c1 : w1.cell? ⟨bb, off + k * 2 + 1, none⟩ = some (.slice x.A x.ch.length x.c) := hcs 1 _ rfl
    have HCH := Lib.hid (show chS es key = x.ch by unfold chS; rw [HE.out])
    clear hok hl hg ho hb hr hke hbW g0 hx hcs
    go_wp2
    go_ret
    rw [HCH.out]
    exact ⟨_, _, rfl, HOK.out.arg, HOK.out.right, by obtain ⟨_, _, e, h⟩ := HOK.out.own.slice_; injection e with _ _ e; omega, HB.out⟩
  | false =>
    have HE := Lib.hid (entOf_none HM.out.ris hl hg (fun h => by have := ho.2 h; cases this))
    have HCH := Lib.hid (show chS es key = [] by unfold chS; rw [HE.out])
    have HB := Lib.hid hb
    clear hok hl hg ho hb hr g0
    go_wp2
    go_ret
    rw [HCH.out]
    exact ⟨none, 0, rfl, ⟨rfl, fun p hp => by simp at hp, fun h => absurd h (by decide)⟩, ⟨fun j h => by simp at h, by decide⟩, by decide, HB.out⟩
def lastS (ch : List VerT) : Nat := match ch.getLast? with
  | some v => v.1
  | none => 0
set_option maxRecDepth 100000 in
set_option maxHeartbeats 4000000 in
theorem last_any (base g : Nat) (v : Value) (es : List EntP) (key : ByteArray) (w : World) (hM : MSt w base g v es) :
    Calls Try.prog 18 #[.pointer (some ⟨g, 0, none⟩), .string key] w fun e w' => e = .returned (.int .u64 (lastS (chS es key) : Nat)) ∧ Below w.heap.size w w' := by
  have HQ := Lib.hid (chain_any base g v es key w hM); clear hM
  generalize chS es key = ch at *
  go_enter Try.func18, Try.ntmps18
  go_wp2_with fail
  refine HQ.out.mono ?_
  rintro e w1 ⟨A, c, rfl, ha, hr, hc, hb⟩
  have HB := Lib.hid hb; clear hb
  have hl2 : ch.length ≤ 200 := hr.2
  by_cases h0 : ch.length = 0
  · have x0 : ((ch.length : Int) == 0) = true := beq_iff_eq.2 (by omega)
    obtain rfl : ch = [] := List.eq_nil_of_length_eq_zero h0
    clear ha hr x0 h0
    go_wp2
    go_ret
    exact ⟨rfl, HB.out⟩
  · have x0 : ((ch.length : Int) == 0) = false := beq_eq_false_iff_ne.2 (by omega)
    have x0n : (ch.length == 0) = false := by simpa using h0
    obtain ⟨k, hk⟩ : ∃ k, ch.length = k + 1 := ⟨ch.length - 1, by omega⟩
    obtain ⟨b0, off, t, gn, vl, hj, rfl, hb0, hp, ht, hv, c0, c1, c2⟩ := ha.get k (by omega)
    have HL := Lib.hid (show lastS ch = t by
      unfold lastS
      rw [List.getLast?_eq_getElem?, show ch.length - 1 = k by omega, List.getElem?_eq_getElem hj, hp])
    have e1 : wrap64 ((ch.length : Int) - 1) = (k : Int) := by rw [hk]; exact (prev_wrap (by omega)).trans (by omega)
    have e2 : (ch.length : Int) - 1 = (k : Int) := by omega
    have hkl : k < ch.length := by omega
    clear ha hr hk hp ht hv c1 c2 hc hj
    generalize ch.length = n at *
    go_wp2
    go_ret
    rw [HL.out]
    exact ⟨rfl, HB.out⟩
set_option maxRecDepth 100000 in
theorem fits_any (key : ByteArray) (v : VerT) (w : World) : Calls Try.prog 32 #[.string key, .agg #[.int .u64 (v.1 : Int), .bool v.2.1, .string v.2.2]] w fun e w' => e = .returned (.bool (decide (key.size ≤ 100) && decide (v.2.2.size ≤ 500))) ∧ Below w.heap.size w w' := by
  have HB := Lib.hid (below_alloc (Below.refl w.heap.size w) (.cells #[.int .u64 (v.1 : Int), .bool v.2.1, .string v.2.2] 25))
  by_cases h1 : key.size ≤ 100 <;> by_cases h2 : v.2.2.size ≤ 500
  · have x1 : decide ((key.size : Int) ≤ 100) = true := by simp; omega
    have x2 : decide ((v.2.2.size : Int) ≤ 500) = true := by simp; omega
    have x1n := decide_eq_true h1
    have x2n := decide_eq_true h2
    rw [x1n, x2n]
    go_enter Try.func32, Try.ntmps32
    go_wp2
    go_ret
    exact ⟨rfl, HB.out⟩
  · have x1 : decide ((key.size : Int) ≤ 100) = true := by simp; omega
    have x2 : decide ((v.2.2.size : Int) ≤ 500) = false := by simp; omega
    have x1n := decide_eq_true h1
    have x2n := decide_eq_false h2
    rw [x1n, x2n]
    go_enter Try.func32, Try.ntmps32
    go_wp2
    go_ret
    exact ⟨rfl, HB.out⟩
  · have x1 : decide ((key.size : Int) ≤ 100) = false := by simp; omega
    have x2 : decide ((v.2.2.size : Int) ≤ 500) = true := by simp; omega
    have x1n := decide_eq_false h1
    have x2n := decide_eq_true h2
    rw [x1n, x2n]
    go_enter Try.func32, Try.ntmps32
    go_wp2
    go_ret
    exact ⟨rfl, HB.out⟩
  · have x1 : decide ((key.size : Int) ≤ 100) = false := by simp; omega
    have x2 : decide ((v.2.2.size : Int) ≤ 500) = false := by simp; omega
    have x1n := decide_eq_false h1
    have x2n := decide_eq_false h2
    rw [x1n, x2n]
    go_enter Try.func32, Try.ntmps32
    go_wp2
    go_ret
    exact ⟨rfl, HB.out⟩
/-- A chain's last version up to a time. -/
noncomputable def atF (ch : List VerT) (t : Nat) : VerT × Bool := match ch.reverse.find? (fun v => decide (v.1 ≤ t)) with
  | some v => (v, true)
  | none => ((0, false, ⟨#[]⟩), false)
theorem atF_is (ch : List VerT) (t : Nat) : AtIs ch t (atF ch t) := by
  unfold atF
  cases h : ch.reverse.find? (fun v => decide (v.1 ≤ t)) with
  | none =>
    right
    refine ⟨rfl, fun k hk => ?_⟩
    have := List.find?_eq_none.1 h ch[k] (by simp)
    simpa using this
  | some v =>
    left
    rw [List.find?_eq_some_iff_getElem] at h
    obtain ⟨h1, i, hi, h2, h3⟩ := h
    simp only [decide_eq_true_eq] at h1
    rw [List.length_reverse] at hi
    refine ⟨ch.length - 1 - i, by omega, by rw [← h2, List.getElem_reverse], by rw [← List.getElem_reverse (by rw [List.length_reverse]; exact hi), h2]; exact h1, fun k hk hkj => ?_⟩
    have := h3 (ch.length - 1 - k) (by omega)
    rw [List.getElem_reverse] at this
    simp only [show ch.length - 1 - (ch.length - 1 - k) = k by omega, Bool.not_eq_true', decide_eq_false_iff_not] at this
    omega
theorem AtIs.eq {ch : List VerT} {t : Nat} {r : VerT × Bool} (h : AtIs ch t r) : r = atF ch t := h.one (atF_is ch t)
theorem right_rising {ps : List VerT} (h : rightV ps) : ∀ a b (ha : a < ps.length) (hb : b < ps.length), a ≤ b → ps[a].1 ≤ ps[b].1 := by
  intro a b ha hb hab
  obtain ⟨d, rfl⟩ := Nat.exists_eq_add_of_le hab
  clear hab
  induction d with
  | zero => exact Nat.le_refl _
  | succ d ih =>
    have h1 := ih (by omega)
    have h2 := (h.1 (a + (d + 1)) hb).2.1 (by omega)
    simp only [show a + (d + 1) - 1 = a + d by omega] at h2
    omega
set_option maxRecDepth 100000 in
set_option maxHeartbeats 4000000 in
theorem mat_any (base g t : Nat) (v : Value) (es : List EntP) (key : ByteArray) (w : World) (hM : MSt w base g v es) :
    Calls Try.prog 11 #[.pointer (some ⟨g, 0, none⟩), .string key, .int .u64 (t : Int)] w fun e w' => e = .returned (.tuple #[.agg #[.int .u64 ((atF (chS es key) t).1.1 : Int), .bool (atF (chS es key) t).1.2.1, .string (atF (chS es key) t).1.2.2], .bool (atF (chS es key) t).2]) ∧ Below w.heap.size w w' := by
  have HB := Lib.hid (below_alloc (Below.refl w.heap.size w) (.cells #[.int .u64 0, .bool false, .string ⟨#[]⟩] 25))
  have HQ := Lib.hid (chain_any base g v es key _ (hM.below (below_alloc (Below.refl w.heap.size w) (.cells #[.int .u64 0, .bool false, .string ⟨#[]⟩] 25)))); clear hM
  have HG := Lib.hid (blk_new w (.cells #[.int .u64 0, .bool false, .string ⟨#[]⟩] 25))
  generalize chS es key = ch at *
  go_enter Try.func11, Try.ntmps11
  go_wp2_with fail
  refine HQ.out.mono ?_
  rintro e w1 ⟨A, c, rfl, ha, hr, hc, hb⟩
  replace HG := Lib.hid (blk_below HG.out hb)
  replace HB := Lib.hid (HB.out.trans (hb.mono HB.out.size)); clear hb
  have HR := Lib.hid (And.intro hr ha); clear hr ha
  have hl2 : ch.length ≤ 200 := HR.out.1.2
  go_wp2_with fail
  refine (at_any A ch.length c t ch w1 HR.out.2 (by omega) (right_rising HR.out.1)).mono ?_
  rintro e w2 ⟨x, b, s, ok, rfl, hx, hb⟩
  have HX := Lib.hid hx.eq; clear hx
  replace HG := Lib.hid (blk_below HG.out hb)
  replace HB := Lib.hid (HB.out.trans (hb.mono HB.out.size)); clear hb
  have f0 := blk_frozen HG.out 0
  have f1 := blk_frozen HG.out 1
  have f2 := blk_frozen HG.out 2
  have g0 : w2.cell? ⟨w.heap.size, 0, none⟩ = some (.int .u64 0) := (blk_cell HG.out 0).trans rfl
  have g1 : w2.cell? ⟨w.heap.size, 1, none⟩ = some (.bool false) := (blk_cell HG.out 1).trans rfl
  have g2 : w2.cell? ⟨w.heap.size, 2, none⟩ = some (.string ⟨#[]⟩) := (blk_cell HG.out 2).trans rfl
  go_wp2
  refine bodyPost_ret (res_ct (a := ⟨?g1, 0, none⟩) (v := .agg ?cs1) rfl ?hp1 (load_row (g := ?g1) (cs := ?cs1) (t := ?t1) (fr := ?fr1) ?hrow1 _ _ Try.underlying25 rfl ?hi1)) rfl ?_
  case hp1 => rfl
  case hrow1 => (refine blk_set (blk_set (blk_set HG.out 0 _) 1 _) 2 _ <;> simp only [Go.Deep.nblk_alloc])
  case hi1 => exact (by kernel_rfl)
  rw [← HX.out]
  exact ⟨rfl, below_setc' (below_setc' (below_setc' HB.out (Nat.le_refl _) _) (Nat.le_refl _) _) (Nat.le_refl _) _⟩
end Go.Proofs.Ytcnehponkgofiaa.My
