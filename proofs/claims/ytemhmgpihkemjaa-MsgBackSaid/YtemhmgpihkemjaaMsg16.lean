/- isoglossref05.Few; isoglosslaw05.awake. -/
import Derived.Test.YtemhmgpihkemjaaMsg7
namespace Go.Proofs.Ytemhmgpihkemjaa.My
set_option linter.unusedSimpArgs false
set_option linter.unusedVariables false
open Go.RowKit Go.Proofs.YtemhmgpihkemjaaW.PrintWords Go.Proofs.YtemhmgpihkemjaaW.PrintLast Go.Proofs.Ytemhmgpihkemjaa.Pm

theorem few_dummy : True := trivial
theorem wrap_sum {a b : Nat} (ha : a ≤ 281474976710656) (hb : b ≤ 281474976710656) : ∃ c, c = a + b ∧ wrap64 ((a : Int) + (b : Int)) = (c : Int) := ⟨a + b, rfl, (wrap64_id (by omega) (by omega)).trans (by omega)⟩
def smallW (p : WrT) : Bool := decide (p.1.size ≤ 5000) && decide (p.2.2.size ≤ 5000)
def fewB (m : MsgS) : Bool := decide (m.ws.length ≤ 20) && (decide (m.key.size ≤ 5000) && (decide (m.note.size ≤ 5000) && (m.ws.all smallW && decide (m.key.size + m.note.size + m.value.size ≤ 12000))))
def FewM (m : MsgS) : Prop := m.ws.length ≤ 20 ∧ m.key.size ≤ 5000 ∧ m.note.size ≤ 5000 ∧ m.value.size ≤ 12000 ∧ ∀ p ∈ m.ws, p.1.size ≤ 5000 ∧ p.2.2.size ≤ 5000
theorem few_bad {m : MsgS} {p : WrT} (hp : p ∈ m.ws) (h : smallW p = false) : fewB m = false := by
  have : m.ws.all smallW = false := by rw [List.all_eq_false]; exact ⟨p, hp, by rw [h]; decide⟩
  unfold fewB
  rw [this]
  simp
theorem fewB_few {m : MsgS} (h : fewB m = true) : FewM m := by
  unfold fewB at h
  simp only [Bool.and_eq_true, decide_eq_true_eq, List.all_eq_true] at h
  refine ⟨h.1, h.2.1, h.2.2.1, by have := h.2.2.2.2; omega, fun p hp => ?_⟩
  have := h.2.2.2.1 p hp
  unfold smallW at this
  simpa using this
set_option maxRecDepth 100000 in
set_option maxHeartbeats 8000000 in
theorem fewm_any (m : MsgS) (A : Option Addr) (n c : Nat) (w : World) (hw : Wrs w A n m.ws) (hn : n ≤ 140737488351232) (s1 : m.key.size ≤ 140737488351232) (s2 : m.note.size ≤ 140737488351232) (s3 : m.value.size ≤ 140737488351232) :
    Calls Try.prog 9 #[.agg (m.arr A n c)] w fun e w' => e = .returned (.bool (fewB m)) ∧ Below w.heap.size w w' := by
  obtain ⟨ab, hab, w1⟩ := wrap_sum (a := m.key.size) (b := m.note.size) (by omega) (by omega)
  obtain ⟨abc, habc, w2⟩ := wrap_sum (a := ab) (b := m.value.size) (by omega) (by omega)
  have HABC := Lib.hid (show abc = m.key.size + m.note.size + m.value.size by omega)
  have W2 := Lib.hid w2
  clear hab habc s1 s2 s3
  have HLN := Lib.hid hw.1
  have HN := Lib.hid (show m.ws.take n = m.ws from List.take_of_length_le (by rw [hw.1]; exact Nat.le_refl _))
  have HW := Lib.hid hw
  clear hw
  unfold MsgS.arr
  have HB := Lib.hid ((Below.refl w.heap.size w).alloc (Nat.le_refl _) (.cells #[.int .i64 m.kind, .int .i64 m.frm, .int .i64 m.tow, .int .i64 m.node, .int .i64 m.life, .int .i64 m.seq, .int .u64 m.a, .int .u64 m.b, .string m.key, .bool m.found, .int .u64 m.time, .bool m.gone, .string m.value, .slice A n c, .string m.note, .int .u64 m.hint, .int .u64 m.must] 29))
  have HP := Lib.hid (blk_new w (.cells #[.int .i64 m.kind, .int .i64 m.frm, .int .i64 m.tow, .int .i64 m.node, .int .i64 m.life, .int .i64 m.seq, .int .u64 m.a, .int .u64 m.b, .string m.key, .bool m.found, .int .u64 m.time, .bool m.gone, .string m.value, .slice A n c, .string m.note, .int .u64 m.hint, .int .u64 m.must] 29))
  replace HW := Lib.hid (HW.out.below (below_alloc (Below.refl _ w) (.cells #[.int .i64 m.kind, .int .i64 m.frm, .int .i64 m.tow, .int .i64 m.node, .int .i64 m.life, .int .i64 m.seq, .int .u64 m.a, .int .u64 m.b, .string m.key, .bool m.found, .int .u64 m.time, .bool m.gone, .string m.value, .slice A n c, .string m.note, .int .u64 m.hint, .int .u64 m.must] 29)))
  go_enter Try.func9, Try.ntmps9
  go_wp2
  clear w1 w2
  generalize hpp : w.heap.size = pp at HP ⊢
  generalize w.alloc (.cells #[.int .i64 m.kind, .int .i64 m.frm, .int .i64 m.tow, .int .i64 m.node, .int .i64 m.life, .int .i64 m.seq, .int .u64 m.a, .int .u64 m.b, .string m.key, .bool m.found, .int .u64 m.time, .bool m.gone, .string m.value, .slice A n c, .string m.note, .int .u64 m.hint, .int .u64 m.must] 29) = w0 at *
  have p13 : w0.cell? ⟨pp, 13, none⟩ = some (.slice A n c) := (blk_cell HP.out 13).trans rfl
  go_loopw [4] (fun v4 wr => ∃ i : Nat, v4 = .int .i64 i ∧ i ≤ n ∧ i ≤ 50 ∧ Hid (∀ p ∈ m.ws.take i, p.1.size ≤ 5000 ∧ p.2.2.size ≤ 5000) ∧ wr = w0) (fun v4 _ => n - (intOf v4).toNat)
  case atStart => exact ⟨0, rfl, Nat.zero_le _, by decide, Lib.hid (fun p hp => by simp at hp), rfl⟩
  case round =>
    obtain ⟨i, rfl, hi, hi50, HA, rfl⟩ := hrel
    by_cases hlt : i < n
    · have x1 : decide ((i : Int) < (n : Int)) = true := by simp; omega
      have x1n : decide (i < n) = true := by simp; omega
      by_cases h50 : i < 50
      · have x2 : decide ((i : Int) < 50) = true := by simp; omega
        have x2n : decide (i < 50) = true := decide_eq_true h50
        obtain ⟨b0, off, ck, cg, cv, rfl, hbl, hget, d0, d1, d2⟩ := HW.out.cells i hlt
        obtain ⟨hil, hgi⟩ := List.getElem?_eq_some_iff.1 hget
        have HTK := Lib.hid (show m.ws.take (i + 1) = m.ws.take i ++ [(ck, cg, cv)] by rw [List.take_succ_eq_append_getElem hil, hgi])
        have HMEM := Lib.hid (hgi ▸ List.getElem_mem hil)
        clear hget hil hgi hbl
        have hw := succ_w hlt (show n ≤ 140737488351232 by omega)
        have HWW := Lib.hid hw; clear hw
        by_cases hk : 5000 < ck.size
        · have y1 : decide (5000 < (ck.size : Int)) = true := by simp; omega
          have y1n : decide (5000 < ck.size) = true := decide_eq_true hk
          have HR := Lib.hid (show fewB m = false from few_bad HMEM.out (by unfold smallW; rw [decide_eq_false (show ¬ ck.size ≤ 5000 by omega)]; rfl))
          clear hk
          go_wp2
          go_ret
          rw [HR.out]
          exact ⟨rfl, hpp ▸ HB.out⟩
        · have y1 : decide (5000 < (ck.size : Int)) = false := by simp; omega
          have y1n : decide (5000 < ck.size) = false := decide_eq_false hk
          by_cases hv : 5000 < cv.size
          · have y2 : decide (5000 < (cv.size : Int)) = true := by simp; omega
            have y2n : decide (5000 < cv.size) = true := decide_eq_true hv
            have HR := Lib.hid (show fewB m = false from few_bad HMEM.out (by unfold smallW; rw [decide_eq_false (show ¬ cv.size ≤ 5000 by omega), Bool.and_false]))
            clear hk hv
            go_wp2
            go_ret
            rw [HR.out]
            exact ⟨rfl, hpp ▸ HB.out⟩
          · have y2 : decide (5000 < (cv.size : Int)) = false := by simp; omega
            have y2n : decide (5000 < cv.size) = false := decide_eq_false hv
            have HA2 := Lib.hid (show ∀ p ∈ m.ws.take (i + 1), p.1.size ≤ 5000 ∧ p.2.2.size ≤ 5000 from fun p hp => by
              rw [HTK.out] at hp
              rcases List.mem_append.1 hp with hp | hp
              · exact HA.out p hp
              · rw [List.mem_singleton.1 hp]; exact ⟨Nat.le_of_not_lt hk, Nat.le_of_not_lt hv⟩)
            clear hk hv
            have hw := HWW.out
            go_wp2
            go_roundw
            case rel => exact ⟨i + 1, by go_num, hlt, h50, HA2, by first | rfl | trivial⟩
            case measure => first | exact up_w hlt hw | exact up_w2 hlt
      · have x2 : decide ((i : Int) < 50) = false := by simp; omega
        have x2n : decide (i < 50) = false := decide_eq_false h50
        have HQ := Lib.hid (show n ≤ 20 → ∀ p ∈ m.ws, p.1.size ≤ 5000 ∧ p.2.2.size ≤ 5000 from fun h20 => by
          have hin : i = n := by omega
          have := HA.out
          rw [hin, HN.out] at this
          exact this)
        have p8 : wr.cell? ⟨pp, 8, none⟩ = some (.string m.key) := (blk_cell HP.out 8).trans rfl
        have p14 : wr.cell? ⟨pp, 14, none⟩ = some (.string m.note) := (blk_cell HP.out 14).trans rfl
        by_cases h20 : n ≤ 20
        · have z1 : decide ((n : Int) ≤ 20) = true := by simp; omega
          have z1n : decide (n ≤ 20) = true := decide_eq_true h20
          by_cases hk : m.key.size ≤ 5000
          · have z2 : decide ((m.key.size : Int) ≤ 5000) = true := by simp; omega
            have z2n : decide (m.key.size ≤ 5000) = true := decide_eq_true hk
            by_cases hnt : m.note.size ≤ 5000
            · have z3 : decide ((m.note.size : Int) ≤ 5000) = true := by simp; omega
              have z3n : decide (m.note.size ≤ 5000) = true := decide_eq_true hnt
              have hall : m.ws.all smallW = true := List.all_eq_true.2 fun p hp => by
                have := HQ.out h20 p hp
                unfold smallW
                rw [decide_eq_true this.1, decide_eq_true this.2]
                rfl
              have HALL := Lib.hid (show fewB m = decide (abc ≤ 12000) by
                unfold fewB
                rw [HLN.out, decide_eq_true h20, decide_eq_true hk, decide_eq_true hnt, hall, ← HABC.out]
                rfl)
              have HALLI := Lib.hid (show fewB m = decide ((abc : Int) ≤ 12000) by rw [HALL.out, decide_eq_decide]; omega)
              clear h20 hk hnt hall
              go_wp2
              go_ret
              first | (rw [W2.out, HALL.out]; exact ⟨rfl, hpp ▸ HB.out⟩) | (rw [W2.out, HALLI.out]; exact ⟨rfl, hpp ▸ HB.out⟩) | (rw [HALLI.out]; exact ⟨rfl, hpp ▸ HB.out⟩) | (rw [HALL.out]; exact ⟨rfl, hpp ▸ HB.out⟩) | (rw [HALLI.out, ← W2.out]; exact ⟨rfl, hpp ▸ HB.out⟩)
            · have z3 : decide ((m.note.size : Int) ≤ 5000) = false := by simp; omega
              have z3n : decide (m.note.size ≤ 5000) = false := decide_eq_false hnt
              have HR := Lib.hid (show fewB m = false by unfold fewB; rw [decide_eq_false hnt]; simp)
              clear h20 hk hnt
              go_wp2
              go_ret
              rw [HR.out]
              exact ⟨rfl, hpp ▸ HB.out⟩
          · have z2 : decide ((m.key.size : Int) ≤ 5000) = false := by simp; omega
            have z2n : decide (m.key.size ≤ 5000) = false := decide_eq_false hk
            have HR := Lib.hid (show fewB m = false by unfold fewB; rw [decide_eq_false hk]; simp)
            clear h20 hk
            go_wp2
            go_ret
            rw [HR.out]
            exact ⟨rfl, hpp ▸ HB.out⟩
        · have z1 : decide ((n : Int) ≤ 20) = false := by simp; omega
          have z1n : decide (n ≤ 20) = false := decide_eq_false h20
          have HR := Lib.hid (show fewB m = false by unfold fewB; rw [HLN.out, decide_eq_false h20]; rfl)
          clear h20
          go_wp2
          go_ret
          rw [HR.out]
          exact ⟨rfl, hpp ▸ HB.out⟩
    · have x1 : decide ((i : Int) < (n : Int)) = false := by simp; omega
      have x1n : decide (i < n) = false := by simp; omega
      have HQ := Lib.hid (show n ≤ 20 → ∀ p ∈ m.ws, p.1.size ≤ 5000 ∧ p.2.2.size ≤ 5000 from fun h20 => by
        have hin : i = n := by omega
        have := HA.out
        rw [hin, HN.out] at this
        exact this)
      have p8 : wr.cell? ⟨pp, 8, none⟩ = some (.string m.key) := (blk_cell HP.out 8).trans rfl
      have p14 : wr.cell? ⟨pp, 14, none⟩ = some (.string m.note) := (blk_cell HP.out 14).trans rfl
      by_cases h20 : n ≤ 20
      · have z1 : decide ((n : Int) ≤ 20) = true := by simp; omega
        have z1n : decide (n ≤ 20) = true := decide_eq_true h20
        by_cases hk : m.key.size ≤ 5000
        · have z2 : decide ((m.key.size : Int) ≤ 5000) = true := by simp; omega
          have z2n : decide (m.key.size ≤ 5000) = true := decide_eq_true hk
          by_cases hnt : m.note.size ≤ 5000
          · have z3 : decide ((m.note.size : Int) ≤ 5000) = true := by simp; omega
            have z3n : decide (m.note.size ≤ 5000) = true := decide_eq_true hnt
            have hall : m.ws.all smallW = true := List.all_eq_true.2 fun p hp => by
              have := HQ.out h20 p hp
              unfold smallW
              rw [decide_eq_true this.1, decide_eq_true this.2]
              rfl
            have HALL := Lib.hid (show fewB m = decide (abc ≤ 12000) by
              unfold fewB
              rw [HLN.out, decide_eq_true h20, decide_eq_true hk, decide_eq_true hnt, hall, ← HABC.out]
              rfl)
            have HALLI := Lib.hid (show fewB m = decide ((abc : Int) ≤ 12000) by rw [HALL.out, decide_eq_decide]; omega)
            clear h20 hk hnt hall
            go_wp2
            go_ret
            first | (rw [W2.out, HALL.out]; exact ⟨rfl, hpp ▸ HB.out⟩) | (rw [W2.out, HALLI.out]; exact ⟨rfl, hpp ▸ HB.out⟩) | (rw [HALLI.out]; exact ⟨rfl, hpp ▸ HB.out⟩) | (rw [HALL.out]; exact ⟨rfl, hpp ▸ HB.out⟩) | (rw [HALLI.out, ← W2.out]; exact ⟨rfl, hpp ▸ HB.out⟩)
          · have z3 : decide ((m.note.size : Int) ≤ 5000) = false := by simp; omega
            have z3n : decide (m.note.size ≤ 5000) = false := decide_eq_false hnt
            have HR := Lib.hid (show fewB m = false by unfold fewB; rw [decide_eq_false hnt]; simp)
            clear h20 hk hnt
            go_wp2
            go_ret
            rw [HR.out]
            exact ⟨rfl, hpp ▸ HB.out⟩
        · have z2 : decide ((m.key.size : Int) ≤ 5000) = false := by simp; omega
          have z2n : decide (m.key.size ≤ 5000) = false := decide_eq_false hk
          have HR := Lib.hid (show fewB m = false by unfold fewB; rw [decide_eq_false hk]; simp)
          clear h20 hk
          go_wp2
          go_ret
          rw [HR.out]
          exact ⟨rfl, hpp ▸ HB.out⟩
      · have z1 : decide ((n : Int) ≤ 20) = false := by simp; omega
        have z1n : decide (n ≤ 20) = false := decide_eq_false h20
        have HR := Lib.hid (show fewB m = false by unfold fewB; rw [HLN.out, decide_eq_false h20]; rfl)
        clear h20
        go_wp2
        go_ret
        rw [HR.out]
        exact ⟨rfl, hpp ▸ HB.out⟩
def awM : MsgS := ⟨1, 0, 0, 0, 0, 0, 0, 0, ⟨#[97]⟩, false, 0, false, ⟨#[]⟩, [], ⟨#[]⟩, 0, 0⟩
theorem uvS_small {n : Nat} (h : n < 128) : uvS n = ⟨#[UInt8.ofNat n]⟩ := by unfold uvS; rw [uv_small h]; rfl
theorem awM_bytes : bytesN awM 9 = ⟨#[1, 12, 1, 97]⟩ := by
  have g1 : fldB awM 1 = ⟨#[]⟩ := if_neg (by decide)
  have g2 : fldB awM 2 = ⟨#[]⟩ := if_neg (by decide)
  have g3 : fldB awM 3 = ⟨#[]⟩ := if_neg (by decide)
  have g4 : fldB awM 4 = ⟨#[]⟩ := if_neg (by decide)
  have g5 : fldB awM 5 = ⟨#[]⟩ := if_neg (by decide)
  have g7 : fldB awM 7 = ⟨#[]⟩ := if_neg (by decide)
  have g8 : fldB awM 8 = ⟨#[]⟩ := if_neg (by decide)
  have g9 : fldB awM 9 = ⟨#[]⟩ := if_neg (by decide)
  have f6 : fldB awM 6 = ⟨#[12, 1, 97]⟩ := by
    show uvS (headS 6) ++ textS ⟨#[97]⟩ = _
    unfold textS
    rw [show headS 6 = 12 from rfl, uvS_small (by decide), show (⟨#[97]⟩ : ByteArray).size = 1 from rfl, uvS_small (by decide)]
    rfl
  have f0 : uvS awM.kind.toNat = ⟨#[1]⟩ := by rw [show awM.kind.toNat = 1 from rfl, uvS_small (by decide)]; rfl
  simp only [bytesN, f0, f6, g1, g2, g3, g4, g5, g7, g8, g9, app_e]
  rfl
theorem awM_z : awM.Z := ⟨by decide, by decide, by decide, by decide, by decide, by decide, fun p hp => by simp [awM] at hp, by decide, by decide, by decide⟩
end Go.Proofs.Ytemhmgpihkemjaa.My
