/- isoglossref09.At; chain.At with sort.Search. -/
import Derived.Test.YtcnehponkgofiaaVers
import Derived.Test.YtcnehponkgofiaaKit
namespace Go.Proofs.Ytcnehponkgofiaa.My
set_option linter.unusedSimpArgs false
set_option linter.unusedVariables false
open Go.RowKit Go.Proofs.YtcnehponkgofiaaW.PrintWords Go.Proofs.YtcnehponkgofiaaW.PrintLast Go.Proofs.Ytcnehponkgofiaa.Pm

set_option maxRecDepth 100000 in
set_option maxHeartbeats 2000000 in
theorem at_closure (b0 off cap b1 b2 len i t tm : Nat) (W : World) (hi : i < len) (h1 : W.cell? ⟨b1, 0, none⟩ = some (.slice (some ⟨b0, off, none⟩) len cap)) (h2 : W.cell? ⟨b2, 0, none⟩ = some (.int .u64 tm)) (h3 : W.cell? ⟨b0, off + i * 3, none⟩ = some (.int .u64 t)) :
    Calls Try.prog 55 #[.int .i64 i, .pointer (some ⟨b1, 0, none⟩), .pointer (some ⟨b2, 0, none⟩)] W fun e w' => e = .returned (.bool (decide (tm < t))) ∧ Below W.heap.size W w' := by
  by_cases h : tm < t
  · have x1 : decide ((tm : Int) < (t : Int)) = true := by simp; omega
    rw [decide_eq_true h]
    go_enter Try.func55, Try.ntmps55
    go_wp2
    go_quiet (fail)
    go_wp2
    go_ret
    exact ⟨rfl, pw_below_drewN (Below.refl _ _) nq⟩
  · have x1 : decide ((tm : Int) < (t : Int)) = false := by simp; omega
    rw [decide_eq_false h]
    go_enter Try.func55, Try.ntmps55
    go_wp2
    go_quiet (fail)
    go_wp2
    go_ret
    exact ⟨rfl, pw_below_drewN (Below.refl _ _) nq⟩
set_option maxRecDepth 100000 in
set_option maxHeartbeats 2000000 in
theorem search_at (n b1 b2 : Nat) (p : Nat → Bool) (w : World) (hn : n ≤ 140737488351232) (hm : ∀ a b, a ≤ b → b < n → p a = true → p b = true)
    (hf : ∀ W i, Below w.heap.size w W → i < n → Calls Try.prog 55 #[.int .i64 i, .pointer (some ⟨b1, 0, none⟩), .pointer (some ⟨b2, 0, none⟩)] W fun e w' => e = .returned (.bool (p i)) ∧ Below W.heap.size W w') :
    Calls Try.prog 54 #[.int .i64 n, .func (.func 55) #[] #[.pointer (some ⟨b1, 0, none⟩), .pointer (some ⟨b2, 0, none⟩)]] w fun e w' => ∃ c : Nat, e = .returned (.int .i64 c) ∧ c ≤ n ∧ (∀ t, t < c → p t = false) ∧ (∀ t, c ≤ t → t < n → p t = true) ∧ Below w.heap.size w w' := by
  have HF := Lib.hid hf; clear hf
  have HM := Lib.hid hm; clear hm
  have HB := Lib.hid (Below.refl w.heap.size w)
  go_enter Try.func54, Try.ntmps54
  go_wp2
  go_loopw [5, 6] (fun v5 v6 wr => ∃ lo hi : Nat, v5 = .int .i64 lo ∧ v6 = .int .i64 hi ∧ lo ≤ hi ∧ hi ≤ n ∧ Hid ((∀ t, t < lo → p t = false) ∧ (∀ t, hi ≤ t → t < n → p t = true)) ∧ Below w.heap.size w wr) (fun v5 v6 _ => (intOf v6).toNat - (intOf v5).toNat)
  case atStart => exact ⟨0, n, rfl, rfl, by omega, by omega, Lib.hid ⟨fun t h => absurd h (by omega), fun t h1 h2 => absurd h1 (by omega)⟩, HB.out⟩
  case round =>
    clear HB
    obtain ⟨lo, hi, rfl, rfl, hlh, hhn, HS, hb⟩ := hrel
    have HB := Lib.hid hb; clear hb
    by_cases hlt : lo < hi
    · obtain ⟨m, hmm⟩ : ∃ m, (lo + hi) / 2 = m := ⟨_, rfl⟩
      have e1 : wrap64 ((lo : Int) + (hi : Int)) = ((lo + hi : Nat) : Int) := wrap64_id (by omega) (by omega)
      have e2 : IntKind.u64.wrap ((lo : Int) + (hi : Int)) = (lo : Int) + (hi : Int) := IntWalk.u64_in _ (by omega)
      have e3 : ((lo : Int) + (hi : Int)) / 2 = (m : Int) := by omega
      have e4 : wrap64 (m : Int) = (m : Int) := wrap64_id (by omega) (by omega)
      have e5 : wrap64 ((m : Int) + 1) = ((m + 1 : Nat) : Int) := wrap64_id (by omega) (by omega)
      have hml : lo ≤ m := by omega
      have hmh : m < hi := by omega
      have hmn : m < n := by omega
      have HC := Lib.hid (fun W hb => HF.out W m hb hmn)
      clear hmm
      cases hp : p m with
      | true =>
        rw [hp] at HC
        have HP := Lib.hid hp; clear hp
        have H2 := Lib.hid (show (∀ t, t < lo → p t = false) ∧ (∀ t, m ≤ t → t < n → p t = true) from ⟨HS.out.1, fun t ht htn => HM.out m t ht htn HP.out⟩)
        go_wp2_with fail
        refine (HC.out _ HB.out).mono ?_
        rintro e w1 ⟨rfl, hb⟩
        have HB := Lib.hid (HB.out.trans (hb.mono HB.out.size)); clear hb
        go_wp2
        go_roundw
        case rel => exact ⟨lo, m, rfl, by go_num, hml, by omega, H2, HB.out⟩
        case measure => simp [intOf]; omega
      | false =>
        rw [hp] at HC
        have HP := Lib.hid hp; clear hp
        have H2 := Lib.hid (show (∀ t, t < m + 1 → p t = false) ∧ (∀ t, hi ≤ t → t < n → p t = true) from ⟨fun t ht => (by
          cases h : p t with
          | false => rfl
          | true => have := HM.out t m (by omega) hmn h; rw [HP.out] at this; cases this), HS.out.2⟩)
        go_wp2_with fail
        refine (HC.out _ HB.out).mono ?_
        rintro e w1 ⟨rfl, hb⟩
        have HB := Lib.hid (HB.out.trans (hb.mono HB.out.size)); clear hb
        go_wp2
        go_roundw
        case rel => exact ⟨m + 1, hi, by go_num, rfl, by omega, hhn, H2, HB.out⟩
        case measure => simp [intOf]; omega
    · obtain rfl : lo = hi := by omega
      go_wp2
      go_ret
      exact ⟨lo, rfl, hhn, HS.out.1, HS.out.2, HB.out⟩
theorem below_setc' {B : Nat} {a b : World} {p : Addr} (h : Below B a b) (hp : B ≤ p.block) (u : Value) : Below B a (b.setCell p u) := h.trans ⟨rfl, rfl, rfl, by simp [World.setCell], fun k hk => Below.heap_setCell b p u k (by omega)⟩
/-- A version in memory. -/
def IsV (w : World) (g x : Nat) (b : Bool) (s : ByteArray) : Prop := w.heap[g]? = some (.cells #[.int .u64 x, .bool b, .string s] 25 (0, 0))
theorem IsV.c0 {w : World} {g x : Nat} {b : Bool} {s : ByteArray} (k : IsV w g x b s) : w.cell? ⟨g, 0, none⟩ = some (.int .u64 x) := (blk_cell k 0).trans rfl
theorem IsV.c1 {w : World} {g x : Nat} {b : Bool} {s : ByteArray} (k : IsV w g x b s) : w.cell? ⟨g, 1, none⟩ = some (.bool b) := (blk_cell k 1).trans rfl
theorem IsV.c2 {w : World} {g x : Nat} {b : Bool} {s : ByteArray} (k : IsV w g x b s) : w.cell? ⟨g, 2, none⟩ = some (.string s) := (blk_cell k 2).trans rfl
theorem IsV.f {w : World} {g x : Nat} {b : Bool} {s : ByteArray} (k : IsV w g x b s) (i : Nat) : w.frozen? ⟨g, i, none⟩ = false := blk_frozen k i
/-- Of a chain the last version up to a time, or that there is none. -/
def AtIs (ps : List VerT) (t : Nat) (r : VerT × Bool) : Prop :=
  (∃ j, ∃ h : j < ps.length, r = (ps[j], true) ∧ ps[j].1 ≤ t ∧ ∀ k (hk : k < ps.length), j < k → t < ps[k].1) ∨ (r = ((0, false, ⟨#[]⟩), false) ∧ ∀ k (hk : k < ps.length), t < ps[k].1)
theorem AtIs.one {ps : List VerT} {t : Nat} {r r' : VerT × Bool} (h : AtIs ps t r) (h' : AtIs ps t r') : r = r' := by
  rcases h with ⟨j, hj, rfl, h1, h2⟩ | ⟨rfl, h1⟩ <;> rcases h' with ⟨j', hj', rfl, h1', h2'⟩ | ⟨rfl, h1'⟩
  · obtain rfl : j = j' := by
      rcases Nat.lt_trichotomy j j' with h | h | h
      · have := h2 j' hj' h; omega
      · exact h
      · have := h2' j hj h; omega
    rfl
  · have := h1' j hj; omega
  · have := h1 j' hj'; omega
  · rfl
set_option maxRecDepth 100000 in
set_option maxHeartbeats 4000000 in
theorem at_any (A : Option Addr) (len cap t : Nat) (ps : List VerT) (w : World) (hA : ArgVers w A len ps) (hlen : len ≤ 140737488351232) (hR : ∀ a b (ha : a < ps.length) (hb : b < ps.length), a ≤ b → ps[a].1 ≤ ps[b].1) :
    Calls Try.prog 37 #[.slice A len cap, .int .u64 t] w fun e w' => ∃ x b s ok, e = .returned (.tuple #[.agg #[.int .u64 ((x : Nat) : Int), .bool b, .string s], .bool ok]) ∧ AtIs ps t ((x, b, s), ok) ∧ Below w.heap.size w w' := by
  have HA := Lib.hid hA; clear hA
  have HR := Lib.hid hR; clear hR
  go_enter Try.func37, Try.ntmps37
  go_wp2_with fail
  have K1 := blk_alloc (blk_alloc (blk_new w (.cells #[.slice A len cap] 63)) (.cells #[.int .u64 t] 23)) (.cells #[.int .u64 0, .bool false, .string ⟨#[]⟩] 25)
  have K2 := blk_alloc (row_new (w.alloc (.cells #[.slice A len cap] 63)) (.cells #[.int .u64 t] 23) (n := w.heap.size + 1) (by simp)) (.cells #[.int .u64 0, .bool false, .string ⟨#[]⟩] 25)
  have KG := row_new ((w.alloc (.cells #[.slice A len cap] 63)).alloc (.cells #[.int .u64 t] 23)) (.cells #[.int .u64 0, .bool false, .string ⟨#[]⟩] 25) (n := w.heap.size + 1 + 1) (by simp)
  have HB := Lib.hid (below_alloc (below_alloc (below_alloc (Below.refl w.heap.size w) (.cells #[.slice A len cap] 63)) (.cells #[.int .u64 t] 23)) (.cells #[.int .u64 0, .bool false, .string ⟨#[]⟩] 25))
  have hg1 : w.heap.size ≤ w.heap.size + 1 + 1 := by omega
  generalize ((w.alloc (.cells #[.slice A len cap] 63)).alloc (.cells #[.int .u64 t] 23)).alloc (.cells #[.int .u64 0, .bool false, .string ⟨#[]⟩] 25) = W0 at *
  obtain ⟨b1, hb1⟩ : ∃ b1, w.heap.size = b1 := ⟨_, rfl⟩
  obtain ⟨b2, hb2⟩ : ∃ b2, w.heap.size + 1 = b2 := ⟨_, rfl⟩
  obtain ⟨g, hg⟩ : ∃ g, b2 + 1 = g := ⟨_, rfl⟩
  rw [hb2, hg] at hg1 KG ⊢
  rw [hb2] at K2
  rw [hb1] at K1 hg1 ⊢
  have HBB := Lib.hid hb1; clear hb1 hb2 hg
  have HGB := Lib.hid hg1; clear hg1
  have C1 : ∀ W, Below W0.heap.size W0 W → W.cell? ⟨b1, 0, none⟩ = some (.slice A len cap) := fun W hb => (blk_cell (blk_below K1 hb) 0).trans rfl
  have C2 : ∀ W, Below W0.heap.size W0 W → W.cell? ⟨b2, 0, none⟩ = some (.int .u64 t) := fun W hb => (blk_cell (blk_below K2 hb) 0).trans rfl
  have KG := Lib.hid KG
  rename_i KG'; clear KG'
  have hS := search_at len b1 b2 (fun i => decide (t < (ps.getD i (0, false, ⟨#[]⟩)).1)) W0 hlen (fun a b hab hb h => by
      have h1 := HA.out.1
      have := HR.out a b (by omega) (by omega) hab
      rw [List.getD_eq_getElem?_getD, List.getElem?_eq_getElem (by omega), Option.getD_some] at h ⊢
      simp only [decide_eq_true_eq] at h ⊢
      omega) (fun W i hb hi => by
      obtain ⟨b0, off, x, bb, s, hj, rfl, hb0, hp, hx, hv, c0, c1, c2⟩ := HA.out.get i hi
      have e : (ps.getD i (0, false, ⟨#[]⟩)).1 = x := by rw [List.getD_eq_getElem?_getD, List.getElem?_eq_getElem hj, Option.getD_some, hp]
      rw [e]
      exact at_closure b0 off cap b1 b2 len i x t W hi (C1 W hb) (C2 W hb) (((HB.out.trans (hb.mono HB.out.size)).cell (p := ⟨b0, off + i * 3, none⟩) hb0).trans c0))
  have C1 := Lib.hid C1
  rename_i C1'; clear C1' C2 K1 K2
  refine hS.mono ?_
  clear hS
  rintro e w4 ⟨c, rfl, hc, hlo, hhi, hb⟩
  have HG := Lib.hid (show IsV w4 g 0 false ⟨#[]⟩ from blk_below KG.out hb)
  have cb := C1.out _ hb
  have HB := Lib.hid (HB.out.trans (hb.mono HB.out.size)); clear hb C1 KG
  have HLO := Lib.hid hlo; clear hlo
  have HHI := Lib.hid hhi; clear hhi
  have f0 := HG.out.f 0
  have f1 := HG.out.f 1
  have f2 := HG.out.f 2
  have g0 := HG.out.c0
  have g1 := HG.out.c1
  have g2 := HG.out.c2
  by_cases c0 : c = 0
  · have x0 : ((c : Int) == 0) = true := by simp; omega
    have H0 := Lib.hid c0; clear c0
    go_wp2
    refine bodyPost_ret (res_ct (a := ⟨?g1, 0, none⟩) (v := .agg ?cs1) rfl ?hp1 (load_row (g := ?g1) (cs := ?cs1) (t := ?t1) (fr := ?fr1) ?hrow1 _ _ Try.underlying25 rfl ?hi1)) rfl ?_
    case hp1 => rfl
    case hrow1 => (refine blk_set (blk_set (blk_set HG.out 0 _) 1 _) 2 _ <;> simp only [Go.Deep.nblk_alloc])
    case hi1 => exact (by kernel_rfl)
    refine ⟨0, false, ⟨#[]⟩, false, rfl, .inr ⟨rfl, fun k hk => ?_⟩, below_setc' (below_setc' (below_setc' HB.out (by rw [HBB.out]; exact HGB.out) _) (by rw [HBB.out]; exact HGB.out) _) (by rw [HBB.out]; exact HGB.out) _⟩
    have := HHI.out k (by have := H0.out; omega) (by rw [← HA.out.1]; exact hk)
    rw [List.getD_eq_getElem?_getD, List.getElem?_eq_getElem hk, Option.getD_some] at this
    simpa using this
  · have x0 : ((c : Int) == 0) = false := by simp; omega
    obtain ⟨k, hk⟩ : ∃ k, c - 1 = k := ⟨_, rfl⟩
    have hkl : k < len := by omega
    have e1 : wrap64 ((c : Int) - 1) = (k : Int) := by rw [wrap64_id (by omega) (by omega)]; omega
    have e2 : (c : Int) - 1 = (k : Int) := by omega
    have hck : c = k + 1 := by omega
    obtain ⟨b0, off, x, b, s, hj, rfl, hb0, hp, hx, hv, d0', d1', d2'⟩ := HA.out.get k hkl
    have d0 := (HB.out.cell (p := ⟨b0, off + k * 3, none⟩) hb0).trans d0'
    have d1 := (HB.out.cell (p := ⟨b0, off + k * 3 + 1, none⟩) hb0).trans d1'
    have d2 := (HB.out.cell (p := ⟨b0, off + k * 3 + 2, none⟩) hb0).trans d2'
    have HP := Lib.hid hp
    have HCK := Lib.hid hck
    clear hp d0' d1' d2' hv hx hck hk c0
    go_wp2
    refine bodyPost_ret (res_ct (a := ⟨?g2, 0, none⟩) (v := .agg ?cs2) rfl ?hp2 (load_row (g := ?g2) (cs := ?cs2) (t := ?t2) (fr := ?fr2) ?hrow2 _ _ Try.underlying25 rfl ?hi2)) rfl ?_
    case hp2 => rfl
    case hrow2 => (refine blk_set (blk_set (blk_set HG.out 0 _) 1 _) 2 _ <;> simp only [Go.Deep.nblk_alloc])
    case hi2 => exact (by kernel_rfl)
    refine ⟨x, b, s, true, rfl, .inl ⟨k, hj, by rw [HP.out], ?_, fun j hj' h => ?_⟩, below_setc' (below_setc' (below_setc' HB.out (by rw [HBB.out]; exact HGB.out) _) (by rw [HBB.out]; exact HGB.out) _) (by rw [HBB.out]; exact HGB.out) _⟩
    · have := HLO.out k (by have := HCK.out; omega)
      rw [List.getD_eq_getElem?_getD, List.getElem?_eq_getElem hj, Option.getD_some] at this
      simpa using this
    · have := HHI.out j (by have := HCK.out; omega) (by rw [← HA.out.1]; exact hj')
      rw [List.getD_eq_getElem?_getD, List.getElem?_eq_getElem hj', Option.getD_some] at this
      simpa using this
end Go.Proofs.Ytcnehponkgofiaa.My
