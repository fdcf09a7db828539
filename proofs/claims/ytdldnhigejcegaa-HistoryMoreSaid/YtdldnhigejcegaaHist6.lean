/- history.Fault; isoglossref18.Few; isoglosslaw18.awake. -/
import Derived.Test.YtdldnhigejcegaaHist5
import Derived.Great.BuildSlice
namespace Go.Proofs.Ytdldnhigejcegaa.My
set_option linter.unusedSimpArgs false
set_option linter.unusedVariables false
open Go.RowKit Go.Proofs.YtdldnhigejcegaaW.PrintWords Go.Proofs.YtdldnhigejcegaaW.PrintLast Go.Proofs.Ytdldnhigejcegaa.Pm

set_option maxRecDepth 100000 in
set_option maxHeartbeats 4000000 in
theorem faults_any (A : Option Addr) (len cap : Nat) (l : List TxP) (w : World) (hA : Txs w A len l) (hlen : len ≤ 140737488351232) (hcap : len ≤ cap) :
    Calls Try.prog 27 #[.slice A len cap] w fun e w' => ∃ (i : Int) (k : Nat), e = .returned (.tuple #[.int .i64 i, .int .i64 (k : Int)]) ∧ FaultIs l i k ∧ Below w.heap.size w w' := by
  have HL := Lib.hid hA.1.1
  have HF := Lib.hid (fun W hb i hi hj => fault_any A len cap i l W (hA.below hb) hlen hcap hi hj)
  clear hA
  have HB := Lib.hid (Below.refl w.heap.size w)
  go_enter Try.func27, Try.ntmps27
  go_wp2
  go_loopw [8] (fun v wr => ∃ i : Nat, v = .int .i64 i ∧ i ≤ len ∧ Hid (∀ j (h : j < l.length), j < i → faultS l j l[j] = 0) ∧ Below w.heap.size w wr) (fun v _ => len - (intOf v).toNat)
  case atStart => exact ⟨0, rfl, Nat.zero_le _, Lib.hid (fun j _ h => absurd h (Nat.not_lt_zero _)), HB.out⟩
  case round =>
    clear HB
    obtain ⟨i, rfl, hi, HS, hb⟩ := hrel
    have HB := Lib.hid hb; clear hb
    by_cases hlt : i < len
    · have hj : i < l.length := by rw [HL.out]; exact hlt
      have HQ := Lib.hid (HF.out _ HB.out i hlt hj)
      obtain ⟨k, hk⟩ : ∃ k, faultS l i l[i] = k := ⟨_, rfl⟩
      rw [hk] at HQ
      have HK := Lib.hid hk; clear hk
      have hw := next_wrap hlt hlen
      by_cases h0 : k = 0
      · have x1 : ((k : Int) != 0) = false := by simp; omega
        have x2 : ((k : Int) == 0) = true := by simp; omega
        have HX := Lib.hid (show ∀ j (h : j < l.length), j < i + 1 → faultS l j l[j] = 0 from fun j h hji => by
          by_cases e : j = i
          · subst e; exact HK.out.trans h0
          · exact HS.out j h (by omega))
        go_wp2_with fail
        refine HQ.out.mono ?_
        rintro e w1 ⟨rfl, hb⟩
        replace HB := Lib.hid (HB.out.trans (hb.mono HB.out.size)); clear hb
        go_wp2
        go_roundw
        case rel => exact ⟨i + 1, by go_num, hlt, HX, HB.out⟩
        case measure => simp [intOf]; omega
      · have x1 : ((k : Int) != 0) = true := by simp; omega
        have x2 : ((k : Int) == 0) = false := by simp; omega
        go_wp2_with fail
        refine HQ.out.mono ?_
        rintro e w1 ⟨rfl, hb⟩
        replace HB := Lib.hid (HB.out.trans (hb.mono HB.out.size)); clear hb
        go_wp2
        go_ret2
        exact ⟨_, k, rfl, .inr ⟨i, hj, rfl, HK.out.symm, h0, fun m hm hmi => HS.out m hm hmi⟩, HB.out⟩
    · obtain rfl : i = len := by omega
      go_wp2
      go_ret2
      exact ⟨-1, 0, rfl, .inl ⟨rfl, rfl, fun j h => HS.out j h (by rw [← HL.out]; exact h)⟩, HB.out⟩
set_option maxRecDepth 100000 in
set_option maxHeartbeats 8000000 in
theorem few_any (A : Option Addr) (len cap n : Nat) (l : List TxP) (w : World) (hA : Txs w A len l) (hlen : len ≤ 140737488351232) (hn : n ≤ 1000) :
    Calls Try.prog 26 #[.slice A len cap, .int .i64 (n : Int)] w fun e w' => ∃ b : Bool, e = .returned (.bool b) ∧ (b = true → len ≤ n) ∧ w' = w := by
  have HA := Lib.hid hA; clear hA
  go_enter Try.func26, Try.ntmps26
  go_wp2
  go_loopg [5] len (fun g v wr => ∃ i : Nat, i ≤ len ∧ g = len - i ∧ v = .int .i64 i ∧ i ≤ 100 ∧ wr = w)
  case atStart => exact ⟨0, Nat.zero_le _, rfl, rfl, by decide, rfl⟩
  case round =>
    obtain ⟨i, hi, rfl, rfl, hi1, rfl⟩ := hrel
    by_cases hlt : i < len
    · by_cases h1 : i < 100
      · obtain ⟨bb, off, hj, rfl, hbW, hc⟩ := HA.out.1.get i hlt
        have HX := Lib.hid (HA.out.2 _ (List.getElem_mem hj))
        obtain ⟨x, hx⟩ : ∃ x, l[i] = x := ⟨_, rfl⟩
        rw [hx] at HX hc
        clear hx
        have c2 : wr.cell? ⟨bb, off + i * 4 + 2, none⟩ = some (.slice x.rA x.rn x.rc) := hc 2 _ rfl
        have c3 : wr.cell? ⟨bb, off + i * 4 + 3, none⟩ = some (.slice x.wA x.wn x.wc) := hc 3 _ rfl
        clear hc hbW hj
        have hw := next_wrap hlt hlen
        have hwn := HX.out.2.2.2.1
        by_cases h2 : x.rn ≤ 12
        · have x2 : decide (12 < (x.rn : Int)) = false := by simp; omega
          have x2n : decide (12 < x.rn) = false := by simp; omega
          by_cases h3 : x.wn ≤ 12
          · have x3 : decide (12 < (x.wn : Int)) = false := by simp; omega
            have x3n : decide (12 < x.wn) = false := by simp; omega
            go_wp2
            go_loopg [6] x.wn (fun g v wi => ∃ k : Nat, k ≤ x.wn ∧ g = x.wn - k ∧ v = .int .i64 k ∧ wi = wr)
            case atStart => exact ⟨0, Nat.zero_le _, rfl, rfl, rfl⟩
            case round =>
              obtain ⟨k, hk, rfl, rfl, rfl⟩ := hrel
              by_cases hkl : k < x.wn
              · obtain ⟨b2, off2, hj2, hxA, hbW2, hc2⟩ := HX.out.2.1.get k hkl
                obtain ⟨⟨p0, p1, p2⟩, hp⟩ : ∃ p, x.ws[k] = p := ⟨_, rfl⟩
                rw [hp] at hc2
                have d0 : wr.cell? ⟨b2, off2 + k * 3, none⟩ = some (.string p0) := hc2 0 _ rfl
                rw [hxA] at c3
                clear hc2 hbW2 hj2 hp
                have hw2 := next_wrap hkl hwn
                by_cases h4 : p0.size ≤ 300
                · have x4 : decide (300 < (p0.size : Int)) = false := by simp; omega
                  have x4n : decide (300 < p0.size) = false := by simp; omega
                  go_wp2
                  go_roundg (x.wn - (k + 1))
                  case rel => exact ⟨k + 1, hkl, rfl, by go_num, rfl⟩
                  case measure => omega
                · have x4 : decide (300 < (p0.size : Int)) = true := by simp; omega
                  have x4n : decide (300 < p0.size) = true := by simp; omega
                  go_wp2
                  go_ret
                  exact ⟨false, rfl, (fun h => by cases h), rfl⟩
              · obtain rfl : k = x.wn := by omega
                go_wp2
                go_roundg (len - (i + 1))
                case rel => exact ⟨i + 1, hlt, rfl, by go_num, h1, rfl⟩
                case measure => omega
          · have x3 : decide (12 < (x.wn : Int)) = true := by simp; omega
            have x3n : decide (12 < x.wn) = true := by simp; omega
            go_wp2
            go_ret
            exact ⟨false, rfl, (fun h => by cases h), rfl⟩
        · have x2 : decide (12 < (x.rn : Int)) = true := by simp; omega
          have x2n : decide (12 < x.rn) = true := by simp; omega
          go_wp2
          go_ret
          exact ⟨false, rfl, (fun h => by cases h), rfl⟩
      · obtain rfl : i = 100 := by omega
        go_wp2
        go_ret
        exact ⟨_, rfl, (fun h => by simp at h; omega), rfl⟩
    · obtain rfl : i = len := by omega
      go_wp2
      go_ret
      exact ⟨_, rfl, (fun h => by simp at h; omega), rfl⟩
def wokeT (g : Nat) : TxP := ⟨2, 1, [], none, 0, 0, [(⟨#[107]⟩, false, ⟨#[]⟩)], some ⟨g, 0, none⟩, 1, 1⟩
theorem woke_fault (g : Nat) {i : Int} {k : Nat} (h : FaultIs [wokeT g] i k) : i = 0 ∧ k = 1 := by
  have e : ∀ l j, faultS l j (wokeT g) = 1 := fun l j => by
    unfold faultS
    rw [if_pos (by simp [wokeT])]
  rcases h with ⟨_, _, h⟩ | ⟨j, hj, h1, h2, _, _⟩
  · have := h 0 (by simp)
    rw [List.getElem_cons_zero, e] at this
    cases this
  · simp at hj
    subst hj
    rw [List.getElem_cons_zero, e] at h2
    exact ⟨h1, h2⟩
theorem range_row {w : World} {g t : Nat} {cs : Array Value} {l : List Value} (h : w.heap[g]? = some (.cells cs t (0, 0))) (e : cs.toList = l) : w.rangeAt g 0 l := fun j v hj => by
  rw [← e] at hj
  rw [Nat.zero_add]
  exact (blk_cell h j).trans (by simpa using hj)
set_option maxRecDepth 100000 in
set_option maxHeartbeats 4000000 in
theorem awake18 (w : World) : Calls Try.prog 25 #[] w fun e w' => e = .returned (.bool true) ∧ Below w.heap.size w w' := by
  have HB := Lib.hid (show Below w.heap.size w ((w.alloc (.cells #[.string ⟨#[107]⟩, .bool false, .string ⟨#[]⟩] 75)).alloc (.cells #[.int .u64 2, .int .u64 1, .slice none 0 0, .slice (some ⟨w.heap.size, 0, none⟩) 1 1] 68)) from below_alloc (below_alloc (Below.refl _ w) _) _)
  have K1 : ((w.alloc (.cells #[.string ⟨#[107]⟩, .bool false, .string ⟨#[]⟩] 75)).alloc (.cells #[.int .u64 2, .int .u64 1, .slice none 0 0, .slice (some ⟨w.heap.size, 0, none⟩) 1 1] 68)).heap[w.heap.size]? = some (.cells #[.string ⟨#[107]⟩, .bool false, .string ⟨#[]⟩] 75 (0, 0)) := blk_alloc (blk_new w _) _
  have K2 : ((w.alloc (.cells #[.string ⟨#[107]⟩, .bool false, .string ⟨#[]⟩] 75)).alloc (.cells #[.int .u64 2, .int .u64 1, .slice none 0 0, .slice (some ⟨w.heap.size, 0, none⟩) 1 1] 68)).heap[w.heap.size + 1]? = some (.cells #[.int .u64 2, .int .u64 1, .slice none 0 0, .slice (some ⟨w.heap.size, 0, none⟩) 1 1] 68 (0, 0)) := row_new (w.alloc (.cells #[.string ⟨#[107]⟩, .bool false, .string ⟨#[]⟩] 75)) _ (by simp)
  have hT : Txs ((w.alloc (.cells #[.string ⟨#[107]⟩, .bool false, .string ⟨#[]⟩] 75)).alloc (.cells #[.int .u64 2, .int .u64 1, .slice none 0 0, .slice (some ⟨w.heap.size, 0, none⟩) 1 1] 68)) (some ⟨w.heap.size + 1, 0, none⟩) 1 [wokeT w.heap.size] := ⟨⟨rfl, fun _ => ⟨_, 0, rfl, blk_lt K2, fun j hj => by
    obtain rfl : j = 0 := by simpa using hj
    exact range_row K2 rfl⟩⟩, fun p hp => by
    obtain rfl := List.mem_singleton.1 hp
    exact ⟨RowF.nil _ _ _, ⟨rfl, fun _ => ⟨_, 0, rfl, blk_lt K1, fun j hj => by
      obtain rfl : j = 0 := by simpa [wokeT] using hj
      exact range_row K1 rfl⟩⟩, by simp [wokeT], by simp [wokeT], by simp [wokeT], by simp [wokeT], fun x hx => by
      obtain rfl := List.mem_singleton.1 hx
      decide⟩⟩
  have HQ := Lib.hid (faults_any _ 1 1 _ _ hT (by decide) (by decide))
  clear K1 K2 hT
  go_enter Try.func25, Try.ntmps25
  go_wp2_with fail
  refine HQ.out.mono ?_
  rintro e w1 ⟨i, k, rfl, hk, hb⟩
  obtain ⟨rfl, rfl⟩ := woke_fault _ hk
  replace HB := Lib.hid (HB.out.trans (hb.mono HB.out.size)); clear hb hk
  go_wp2
  go_ret
  exact ⟨rfl, HB.out⟩
end Go.Proofs.Ytdldnhigejcegaa.My
