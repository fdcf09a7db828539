/- slices.ContainsFunc, at the three types that histories have. -/
import Derived.Test.YtdldnhigejcegaaHist
namespace Go.Proofs.Ytdldnhigejcegaa.My
set_option linter.unusedSimpArgs false
set_option linter.unusedVariables false
open Go.RowKit Go.Proofs.YtdldnhigejcegaaW.PrintWords Go.Proofs.YtdldnhigejcegaaW.PrintLast Go.Proofs.Ytdldnhigejcegaa.Pm
set_option maxRecDepth 100000 in
set_option maxHeartbeats 4000000 in
theorem wr_index (A : Option Addr) (len cap kb : Nat) (l : List WrT) (p : WrT → Bool) (w : World) (hA : RowF w 3 wrC A len l) (hlen : len ≤ 140737488351232)
    (hf : ∀ W j (h : j < l.length), Below w.heap.size w W → Calls Try.prog 52 #[.agg (wrC l[j]).toArray, .pointer (some ⟨kb, 0, none⟩)] W fun e w' => e = .returned (.bool (p l[j])) ∧ Below W.heap.size W w') :
    Calls Try.prog 67 #[.slice A len cap, .func (.func 52) #[] #[.pointer (some ⟨kb, 0, none⟩)]] w fun e w' => ∃ z : Int, e = .returned (.int .i64 z) ∧ decide (0 ≤ z) = l.any p ∧ Below w.heap.size w w' := by
  have HA := Lib.hid hA; clear hA
  have HF := Lib.hid hf; clear hf
  have HB := Lib.hid (Below.refl w.heap.size w)
  go_enter Try.func67, Try.ntmps67
  go_wp2
  go_loopw [8] (fun v wr => ∃ i : Nat, v = .int .i64 i ∧ i ≤ len ∧ Hid (∀ j (h : j < l.length), j < i → p l[j] = false) ∧ Below w.heap.size w wr) (fun v _ => len - (intOf v).toNat)
  case atStart => exact ⟨0, rfl, Nat.zero_le _, Lib.hid (fun j _ h => absurd h (Nat.not_lt_zero _)), HB.out⟩
  case round =>
    clear HB
    obtain ⟨i, rfl, hi, HS, hb⟩ := hrel
    have HB := Lib.hid hb; clear hb
    by_cases hlt : i < len
    · obtain ⟨b, off, hj, rfl, hbW, hc⟩ := HA.out.get i hlt
      have hc1 := range_below hc HB.out hbW
      have hsz : (wrC l[i]).length = 3 := rfl
      have HC := Lib.hid (fun W hb => HF.out W i hj hb)
      have HP := Lib.hid (show p l[i] = p l[i] from rfl)
      obtain ⟨arr, harr⟩ : ∃ arr, (wrC l[i]).toArray = arr := ⟨_, rfl⟩
      have hc2 : wr.rangeAt b (off + i * 3) arr.toList := by rw [← harr]; exact hc1
      have hs : (Try.prog.info? 75).map (·.size) = some arr.size := by rw [← harr, List.size_toArray, hsz]; kernel_rfl
      rw [harr] at HC
      clear hc hc1 hsz hbW harr
      cases hpi : p l[i] with
      | true =>
        rw [hpi] at HC
        have HX := Lib.hid hpi; clear hpi
        go_wp2_with (first | refine wpList_load_part rfl 75 _ rfl b (off + i * 3) rfl arr _ hc2 Try.underlying75 rfl hs ?_ | fail)
        refine (HC.out _ HB.out).mono ?_
        rintro e w1 ⟨rfl, hb⟩
        have HB := Lib.hid (HB.out.trans (hb.mono HB.out.size)); clear hb
        go_wp2
        go_ret
        exact ⟨_, rfl, by rw [any_first hj HX.out]; simp, HB.out⟩
      | false =>
        rw [hpi] at HC
        have HX := Lib.hid (show ∀ j (h : j < l.length), j < i + 1 → p l[j] = false from fun j h hji => by
          by_cases e : j = i
          · subst e; exact hpi
          · exact HS.out j h (by omega))
        clear hpi
        have hw := next_wrap hlt hlen
        go_wp2_with (first | refine wpList_load_part rfl 75 _ rfl b (off + i * 3) rfl arr _ hc2 Try.underlying75 rfl hs ?_ | fail)
        refine (HC.out _ HB.out).mono ?_
        rintro e w1 ⟨rfl, hb⟩
        have HB := Lib.hid (HB.out.trans (hb.mono HB.out.size)); clear hb
        go_wp2
        go_roundw
        case rel => exact ⟨i + 1, by go_num, hlt, HX, HB.out⟩
        case measure => simp [intOf]; omega
    · obtain rfl : i = len := by omega
      go_wp2
      go_ret
      exact ⟨-1, rfl, by rw [any_none (fun j hj => HS.out j hj (by rw [← HA.out.1]; exact hj))]; decide, HB.out⟩
set_option maxRecDepth 100000 in
theorem wr_contains (A : Option Addr) (len cap kb : Nat) (l : List WrT) (p : WrT → Bool) (w : World) (hA : RowF w 3 wrC A len l) (hlen : len ≤ 140737488351232)
    (hf : ∀ W j (h : j < l.length), Below w.heap.size w W → Calls Try.prog 52 #[.agg (wrC l[j]).toArray, .pointer (some ⟨kb, 0, none⟩)] W fun e w' => e = .returned (.bool (p l[j])) ∧ Below W.heap.size W w') :
    Calls Try.prog 51 #[.slice A len cap, .func (.func 52) #[] #[.pointer (some ⟨kb, 0, none⟩)]] w fun e w' => e = .returned (.bool (l.any p)) ∧ Below w.heap.size w w' := by
  have H := Lib.hid (wr_index A len cap kb l p w hA hlen hf)
  clear hA hf
  go_enter Try.func51, Try.ntmps51
  go_wp2_with fail
  refine H.out.mono ?_
  rintro e w1 ⟨z, rfl, hz, hb⟩
  have HB := Lib.hid hb; clear hb
  have HZ := Lib.hid hz; clear hz
  go_wp2
  go_ret
  rw [HZ.out]
  exact ⟨rfl, HB.out⟩
set_option maxRecDepth 100000 in
set_option maxHeartbeats 4000000 in
theorem tx_index (A : Option Addr) (len cap xb : Nat) (l : List TxP) (p : TxP → Bool) (w : World) (hA : RowF w 4 txC A len l) (hlen : len ≤ 140737488351232)
    (hf : ∀ W j (h : j < l.length), Below w.heap.size w W → Calls Try.prog 63 #[.agg (txC l[j]).toArray, .pointer (some ⟨xb, 0, none⟩)] W fun e w' => e = .returned (.bool (p l[j])) ∧ Below W.heap.size W w') :
    Calls Try.prog 76 #[.slice A len cap, .func (.func 63) #[] #[.pointer (some ⟨xb, 0, none⟩)]] w fun e w' => ∃ z : Int, e = .returned (.int .i64 z) ∧ decide (0 ≤ z) = l.any p ∧ Below w.heap.size w w' := by
  have HA := Lib.hid hA; clear hA
  have HF := Lib.hid hf; clear hf
  have HB := Lib.hid (Below.refl w.heap.size w)
  go_enter Try.func76, Try.ntmps76
  go_wp2
  go_loopw [8] (fun v wr => ∃ i : Nat, v = .int .i64 i ∧ i ≤ len ∧ Hid (∀ j (h : j < l.length), j < i → p l[j] = false) ∧ Below w.heap.size w wr) (fun v _ => len - (intOf v).toNat)
  case atStart => exact ⟨0, rfl, Nat.zero_le _, Lib.hid (fun j _ h => absurd h (Nat.not_lt_zero _)), HB.out⟩
  case round =>
    clear HB
    obtain ⟨i, rfl, hi, HS, hb⟩ := hrel
    have HB := Lib.hid hb; clear hb
    by_cases hlt : i < len
    · obtain ⟨b, off, hj, rfl, hbW, hc⟩ := HA.out.get i hlt
      have hc1 := range_below hc HB.out hbW
      have hsz : (txC l[i]).length = 4 := rfl
      have HC := Lib.hid (fun W hb => HF.out W i hj hb)
      have HP := Lib.hid (show p l[i] = p l[i] from rfl)
      obtain ⟨arr, harr⟩ : ∃ arr, (txC l[i]).toArray = arr := ⟨_, rfl⟩
      have hc2 : wr.rangeAt b (off + i * 4) arr.toList := by rw [← harr]; exact hc1
      have hs : (Try.prog.info? 68).map (·.size) = some arr.size := by rw [← harr, List.size_toArray, hsz]; kernel_rfl
      rw [harr] at HC
      clear hc hc1 hsz hbW harr
      cases hpi : p l[i] with
      | true =>
        rw [hpi] at HC
        have HX := Lib.hid hpi; clear hpi
        go_wp2_with (first | refine wpList_load_part rfl 68 _ rfl b (off + i * 4) rfl arr _ hc2 Try.underlying68 rfl hs ?_ | fail)
        refine (HC.out _ HB.out).mono ?_
        rintro e w1 ⟨rfl, hb⟩
        have HB := Lib.hid (HB.out.trans (hb.mono HB.out.size)); clear hb
        go_wp2
        go_ret
        exact ⟨_, rfl, by rw [any_first hj HX.out]; simp, HB.out⟩
      | false =>
        rw [hpi] at HC
        have HX := Lib.hid (show ∀ j (h : j < l.length), j < i + 1 → p l[j] = false from fun j h hji => by
          by_cases e : j = i
          · subst e; exact hpi
          · exact HS.out j h (by omega))
        clear hpi
        have hw := next_wrap hlt hlen
        go_wp2_with (first | refine wpList_load_part rfl 68 _ rfl b (off + i * 4) rfl arr _ hc2 Try.underlying68 rfl hs ?_ | fail)
        refine (HC.out _ HB.out).mono ?_
        rintro e w1 ⟨rfl, hb⟩
        have HB := Lib.hid (HB.out.trans (hb.mono HB.out.size)); clear hb
        go_wp2
        go_roundw
        case rel => exact ⟨i + 1, by go_num, hlt, HX, HB.out⟩
        case measure => simp [intOf]; omega
    · obtain rfl : i = len := by omega
      go_wp2
      go_ret
      exact ⟨-1, rfl, by rw [any_none (fun j hj => HS.out j hj (by rw [← HA.out.1]; exact hj))]; decide, HB.out⟩
set_option maxRecDepth 100000 in
theorem tx_contains (A : Option Addr) (len cap xb : Nat) (l : List TxP) (p : TxP → Bool) (w : World) (hA : RowF w 4 txC A len l) (hlen : len ≤ 140737488351232)
    (hf : ∀ W j (h : j < l.length), Below w.heap.size w W → Calls Try.prog 63 #[.agg (txC l[j]).toArray, .pointer (some ⟨xb, 0, none⟩)] W fun e w' => e = .returned (.bool (p l[j])) ∧ Below W.heap.size W w') :
    Calls Try.prog 62 #[.slice A len cap, .func (.func 63) #[] #[.pointer (some ⟨xb, 0, none⟩)]] w fun e w' => e = .returned (.bool (l.any p)) ∧ Below w.heap.size w w' := by
  have H := Lib.hid (tx_index A len cap xb l p w hA hlen hf)
  clear hA hf
  go_enter Try.func62, Try.ntmps62
  go_wp2_with fail
  refine H.out.mono ?_
  rintro e w1 ⟨z, rfl, hz, hb⟩
  have HB := Lib.hid hb; clear hb
  have HZ := Lib.hid hz; clear hz
  go_wp2
  go_ret
  rw [HZ.out]
  exact ⟨rfl, HB.out⟩
set_option maxRecDepth 100000 in
set_option maxHeartbeats 4000000 in
theorem rd_index (A : Option Addr) (len cap lb xb : Nat) (l : List RdT) (p : RdT → Bool) (w : World) (hA : RowF w 5 rdC A len l) (hlen : len ≤ 140737488351232)
    (hf : ∀ W j (h : j < l.length), Below w.heap.size w W → Calls Try.prog 65 #[.agg (rdC l[j]).toArray, .pointer (some ⟨lb, 0, none⟩), .pointer (some ⟨xb, 0, none⟩)] W fun e w' => e = .returned (.bool (p l[j])) ∧ Below W.heap.size W w') :
    Calls Try.prog 77 #[.slice A len cap, .func (.func 65) #[] #[.pointer (some ⟨lb, 0, none⟩), .pointer (some ⟨xb, 0, none⟩)]] w fun e w' => ∃ z : Int, e = .returned (.int .i64 z) ∧ decide (0 ≤ z) = l.any p ∧ Below w.heap.size w w' := by
  have HA := Lib.hid hA; clear hA
  have HF := Lib.hid hf; clear hf
  have HB := Lib.hid (Below.refl w.heap.size w)
  go_enter Try.func77, Try.ntmps77
  go_wp2
  go_loopw [8] (fun v wr => ∃ i : Nat, v = .int .i64 i ∧ i ≤ len ∧ Hid (∀ j (h : j < l.length), j < i → p l[j] = false) ∧ Below w.heap.size w wr) (fun v _ => len - (intOf v).toNat)
  case atStart => exact ⟨0, rfl, Nat.zero_le _, Lib.hid (fun j _ h => absurd h (Nat.not_lt_zero _)), HB.out⟩
  case round =>
    clear HB
    obtain ⟨i, rfl, hi, HS, hb⟩ := hrel
    have HB := Lib.hid hb; clear hb
    by_cases hlt : i < len
    · obtain ⟨b, off, hj, rfl, hbW, hc⟩ := HA.out.get i hlt
      have hc1 := range_below hc HB.out hbW
      have hsz : (rdC l[i]).length = 5 := rfl
      have HC := Lib.hid (fun W hb => HF.out W i hj hb)
      have HP := Lib.hid (show p l[i] = p l[i] from rfl)
      obtain ⟨arr, harr⟩ : ∃ arr, (rdC l[i]).toArray = arr := ⟨_, rfl⟩
      have hc2 : wr.rangeAt b (off + i * 5) arr.toList := by rw [← harr]; exact hc1
      have hs : (Try.prog.info? 43).map (·.size) = some arr.size := by rw [← harr, List.size_toArray, hsz]; kernel_rfl
      rw [harr] at HC
      clear hc hc1 hsz hbW harr
      cases hpi : p l[i] with
      | true =>
        rw [hpi] at HC
        have HX := Lib.hid hpi; clear hpi
        go_wp2_with (first | refine wpList_load_part rfl 43 _ rfl b (off + i * 5) rfl arr _ hc2 Try.underlying43 rfl hs ?_ | fail)
        refine (HC.out _ HB.out).mono ?_
        rintro e w1 ⟨rfl, hb⟩
        have HB := Lib.hid (HB.out.trans (hb.mono HB.out.size)); clear hb
        go_wp2
        go_ret
        exact ⟨_, rfl, by rw [any_first hj HX.out]; simp, HB.out⟩
      | false =>
        rw [hpi] at HC
        have HX := Lib.hid (show ∀ j (h : j < l.length), j < i + 1 → p l[j] = false from fun j h hji => by
          by_cases e : j = i
          · subst e; exact hpi
          · exact HS.out j h (by omega))
        clear hpi
        have hw := next_wrap hlt hlen
        go_wp2_with (first | refine wpList_load_part rfl 43 _ rfl b (off + i * 5) rfl arr _ hc2 Try.underlying43 rfl hs ?_ | fail)
        refine (HC.out _ HB.out).mono ?_
        rintro e w1 ⟨rfl, hb⟩
        have HB := Lib.hid (HB.out.trans (hb.mono HB.out.size)); clear hb
        go_wp2
        go_roundw
        case rel => exact ⟨i + 1, by go_num, hlt, HX, HB.out⟩
        case measure => simp [intOf]; omega
    · obtain rfl : i = len := by omega
      go_wp2
      go_ret
      exact ⟨-1, rfl, by rw [any_none (fun j hj => HS.out j hj (by rw [← HA.out.1]; exact hj))]; decide, HB.out⟩
set_option maxRecDepth 100000 in
theorem rd_contains (A : Option Addr) (len cap lb xb : Nat) (l : List RdT) (p : RdT → Bool) (w : World) (hA : RowF w 5 rdC A len l) (hlen : len ≤ 140737488351232)
    (hf : ∀ W j (h : j < l.length), Below w.heap.size w W → Calls Try.prog 65 #[.agg (rdC l[j]).toArray, .pointer (some ⟨lb, 0, none⟩), .pointer (some ⟨xb, 0, none⟩)] W fun e w' => e = .returned (.bool (p l[j])) ∧ Below W.heap.size W w') :
    Calls Try.prog 64 #[.slice A len cap, .func (.func 65) #[] #[.pointer (some ⟨lb, 0, none⟩), .pointer (some ⟨xb, 0, none⟩)]] w fun e w' => e = .returned (.bool (l.any p)) ∧ Below w.heap.size w w' := by
  have H := Lib.hid (rd_index A len cap lb xb l p w hA hlen hf)
  clear hA hf
  go_enter Try.func64, Try.ntmps64
  go_wp2_with fail
  refine H.out.mono ?_
  rintro e w1 ⟨z, rfl, hz, hb⟩
  have HB := Lib.hid hb; clear hb
  have HZ := Lib.hid hz; clear hz
  go_wp2
  go_ret
  rw [HZ.out]
  exact ⟨rfl, HB.out⟩
end Go.Proofs.Ytdldnhigejcegaa.My
