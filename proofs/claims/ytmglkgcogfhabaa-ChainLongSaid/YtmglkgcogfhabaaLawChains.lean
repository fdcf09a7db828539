/- The laws ChainBack, ChainDecodes walked. -/
import Derived.Test.YtmglkgcogfhabaaRefBytes
import Derived.Test.YtmglkgcogfhabaaSame9
import Derived.Test.YtmglkgcogfhabaaLawAt
namespace Go.Proofs.Ytmglkgcogfhabaa.My
set_option linter.unusedSimpArgs false
set_option linter.unusedVariables false
open Go.RowKit Go.Proofs.YtmglkgcogfhabaaW.PrintWords Go.Proofs.YtmglkgcogfhabaaW.PrintLast Go.Proofs.Ytmglkgcogfhabaa.Pm

theorem verB_size (base : ByteArray) (last : Nat) (p : VerT) (hb : base.size < 18446744073709551616) (hv : p.2.2.size < 18446744073709551616) : (verB base last p).size ≤ p.2.2.size + 41 := by
  have h1 := uvS_le' (tdiff_lt p.1 last)
  unfold verB
  split
  · rw [ByteArray.size_append]
    show _ + 1 ≤ _
    omega
  · have hl := sameN_le (bl base) (bl p.2.2)
    rw [bl_length, bl_length] at hl
    have hn : sameB base p.2.2 ≤ base.size ∧ sameB base p.2.2 ≤ p.2.2.size := hl
    have hm := endsB_eq base p.2.2 _ hn.1 hn.2
    generalize sameB base p.2.2 = n at *
    generalize endsB (base.extract n base.size) (p.2.2.extract n p.2.2.size) = m at *
    have h2 := uvS_le' (n := n) (by omega)
    have h3 := uvS_le' (n := m) (by omega)
    have hms := mid_size p.2.2 n m
    have h4 := textS_le (s := midS p.2.2 n m) (by omega)
    simp only [ByteArray.size_append, show (⟨#[0]⟩ : ByteArray).size = 1 from rfl]
    omega
theorem bodyB_size (V : Nat) (hV : V < 18446744073709551616) : ∀ (ps : List VerT) (base : ByteArray) (last : Nat), (∀ p ∈ ps, p.2.2.size ≤ V) → base.size ≤ V → (bodyB ps base last).size ≤ ps.length * (V + 41)
  | [], _, _, _, _ => Nat.zero_le _
  | p :: ps, base, last, h, hb => by
    have h0 := h p List.mem_cons_self
    have h1 := verB_size base last p (by omega) (by omega)
    have h2 := bodyB_size V hV ps (if p.2.1 = true then base else p.2.2) p.1 (fun q hq => h q (List.mem_cons_of_mem _ hq)) (by split; exact hb; exact h0)
    rw [bodyB, ByteArray.size_append, List.length_cons, Nat.succ_mul]
    omega
theorem chainS_size (V : Nat) (hV : V < 18446744073709551616) (ps : List VerT) (hl : ps.length < 18446744073709551616) (h : ∀ p ∈ ps, p.2.2.size ≤ V) : (chainS ps).size ≤ 10 + ps.length * (V + 41) := by
  rw [chainS_eq, ByteArray.size_append]
  have h1 := uvS_le' hl
  have h2 := bodyB_size V hV ps ⟨#[]⟩ 0 h (Nat.zero_le _)
  omega
theorem sumV_le (V : Nat) : ∀ ps : List VerT, (∀ p ∈ ps, p.2.2.size ≤ V) → sumV ps ≤ ps.length * V
  | [], _ => Nat.zero_le _
  | p :: ps, h => by
    have h0 := h p List.mem_cons_self
    have h2 := sumV_le V ps (fun q hq => h q (List.mem_cons_of_mem _ hq))
    simp only [sumV, List.map_cons, List.sum_cons] at h2 ⊢
    rw [List.length_cons, Nat.succ_mul]
    omega
theorem decode_ok (b : ByteArray) (ps : List VerT) (w : World) (hb : b.size ≤ 1000000) (h : decS b = (ps, 0)) :
    Calls Try.prog 17 #[.string b] w fun e w' => ∃ A c, e = .returned (.tuple #[.slice A ps.length c, .int .i64 0]) ∧ ps.length ≤ c ∧ Vs w' w.heap.size (.slice A ps.length c) ps ∧ ArgVers w' A ps.length ps ∧ Below w.heap.size w w' := by
  have hok := decS_ok b (by rw [h])
  rw [h] at hok
  refine (decode_any b w hb).mono ?_
  rintro e w' ⟨v, rfl, hv, hbl⟩
  rw [h] at hv ⊢
  obtain ⟨A, c, rfl, hc, ha⟩ := hv.arg (fun p hp => ⟨(hok.2.2 p hp).1, Nat.le_trans (hok.2.2 p hp).2 (Nat.le_trans hb (by decide))⟩)
  exact ⟨A, c, rfl, hc, hv, ha, hbl⟩
theorem decode_err (b : ByteArray) (k : Nat) (w : World) (hb : b.size ≤ 1000000) (h : (decS b).2 = k) (hk : k ≠ 0) :
    Calls Try.prog 17 #[.string b] w fun e w' => ∃ A c, e = .returned (.tuple #[.slice A 0 c, .int .i64 k]) ∧ Below w.heap.size w w' := by
  have he := decS_err b (by rw [h]; exact hk)
  refine (decode_any b w hb).mono ?_
  rintro e w' ⟨v, rfl, hv, hbl⟩
  rw [he.1] at hv
  obtain ⟨A, c, rfl⟩ := hv.slice_
  exact ⟨A, c, by rw [h]; rfl, hbl⟩
theorem encode_bad (A : Option Addr) (len cap : Nat) (ps : List VerT) (w : World) (hA : ArgVers w A len ps) (hlen : len ≤ 1000) (hR : ¬ rightV ps) :
    Calls Try.prog 15 #[.slice A len cap] w fun e w' => e = .returned (.tuple #[.string ⟨#[]⟩, .int .i64 1]) ∧ Below w.heap.size w w' := by
  have HA := Lib.hid hA; clear hA
  have HR := Lib.hid hR; clear hR
  have HB := Lib.hid (Below.refl w.heap.size w)
  go_enter Try.func15, Try.ntmps15
  go_wp2_with fail
  refine (right_any A len cap ps _ HA.out (by omega)).mono ?_
  rintro e w1 ⟨b, rfl, hb, hbl⟩
  cases b with
  | true => exact absurd (hb.1 rfl) HR.out
  | false =>
    have HB := Lib.hid (HB.out.trans (hbl.mono HB.out.size)); clear hbl hb
    go_wp2
    go_ret2
    exact ⟨rfl, HB.out⟩
set_option maxRecDepth 100000 in
set_option maxHeartbeats 8000000 in
theorem decodes_law (b : ByteArray) (w : World) (hb : b.size ≤ 140737488351232) :
    Calls Try.prog 5 #[.string b] w fun e w' => e = .returned (.bool true) ∧ Below w.heap.size w w' := by
  have HB := Lib.hid (Below.refl w.heap.size w)
  by_cases h1000 : 1000 < b.size
  · have x1 : decide ((1000 : Int) < (b.size : Int)) = true := by simp; omega
    have x1n : decide (1000 < b.size) = true := by simp; omega
    go_enter Try.func5, Try.ntmps5
    go_wp2_with fail
    refine (awake09 _).mono ?_
    rintro e wq1 ⟨rfl, hb⟩
    have HB := Lib.hid (HB.out.trans (hb.mono HB.out.size)); clear hb
    go_wp2_with fail
    refine (awake09 _).mono ?_
    rintro e wq2 ⟨rfl, hb⟩
    have HB := Lib.hid (HB.out.trans (hb.mono HB.out.size)); clear hb
    go_wp2
    go_ret
    exact ⟨rfl, HB.out⟩
  have x1 : decide ((1000 : Int) < (b.size : Int)) = false := by simp; omega
  have x1n : decide (1000 < b.size) = false := by simp; omega
  by_cases hk : (decS b).2 = 0
  · have hok := decS_ok b hk
    have hps : decS b = ((decS b).1, 0) := by rw [← hk]
    generalize (decS b).1 = ps at *
    have hlen := hok.1.2
    have HOK := Lib.hid hok; clear hok
    have DO := Lib.hid (fun w => decode_ok b ps w (by omega) hps)
    clear hps hk
    go_enter Try.func5, Try.ntmps5
    go_wp2_with fail
    refine (awake09 _).mono ?_
    rintro e wq3 ⟨rfl, hb⟩
    have HB := Lib.hid (HB.out.trans (hb.mono HB.out.size)); clear hb
    go_wp2_with fail
    refine (DO.out _).mono ?_
    rintro e w2 ⟨A, c, rfl, hc, hv, ha, hbl⟩
    have HA := Lib.hid ha
    have HB := Lib.hid (HB.out.trans (hbl.mono HB.out.size))
    clear ha hbl hv DO
    go_wp2_with fail
    refine (rright_any A ps.length c ps _ HA.out (by omega)).mono ?_
    rintro e w3 ⟨br, rfl, hbr, hbl⟩
    obtain rfl : br = true := hbr.2 HOK.out.1
    have HA := Lib.hid (HA.out.below hbl)
    have HB := Lib.hid (HB.out.trans (hbl.mono HB.out.size))
    clear hbl hbr
    go_wp2_with fail
    refine (rbytes_any A ps.length c ps _ HA.out (by omega) (fun p hp => Nat.le_trans (HOK.out.2.2 p hp).2 (by omega))).mono ?_
    rintro e w4 ⟨rfl, hbl⟩
    have HB := Lib.hid (HB.out.trans (hbl.mono HB.out.size))
    clear hbl
    rw [HOK.out.2.1]
    go_wp2
    go_ret
    exact ⟨rfl, HB.out⟩
  · have he := (decS_err b hk).2
    have DE := Lib.hid (fun k (h : (decS b).2 = k) (h0 : k ≠ 0) w => decode_err b k w (by omega) h h0)
    rcases he with h | h
    · have DE := Lib.hid (DE.out 2 h (by decide))
      clear h hk
      go_enter Try.func5, Try.ntmps5
      go_wp2_with fail
      refine (awake09 _).mono ?_
      rintro e wq4 ⟨rfl, hb⟩
      have HB := Lib.hid (HB.out.trans (hb.mono HB.out.size)); clear hb
      go_wp2_with fail
      refine (DE.out _).mono ?_
      rintro e w2 ⟨A, c, rfl, hbl⟩
      have HB := Lib.hid (HB.out.trans (hbl.mono HB.out.size))
      clear hbl
      go_wp2
      go_ret
      exact ⟨rfl, HB.out⟩
    · have DE := Lib.hid (DE.out 3 h (by decide))
      clear h hk
      go_enter Try.func5, Try.ntmps5
      go_wp2_with fail
      refine (awake09 _).mono ?_
      rintro e wq5 ⟨rfl, hb⟩
      have HB := Lib.hid (HB.out.trans (hb.mono HB.out.size)); clear hb
      go_wp2_with fail
      refine (DE.out _).mono ?_
      rintro e w2 ⟨A, c, rfl, hbl⟩
      have HB := Lib.hid (HB.out.trans (hbl.mono HB.out.size))
      clear hbl
      go_wp2
      go_ret
      exact ⟨rfl, HB.out⟩
set_option maxRecDepth 100000 in
set_option maxHeartbeats 8000000 in
theorem back_law (A : Option Addr) (len cap : Nat) (ps : List VerT) (w : World) (hA : ArgVers w A len ps) (hlen : len ≤ 140737488351232) (hcap : len ≤ cap) :
    Calls Try.prog 4 #[.slice A len cap] w fun e w' => e = .returned (.bool true) ∧ Below w.heap.size w w' := by
  have HA := Lib.hid hA; clear hA
  have HB := Lib.hid (Below.refl w.heap.size w)
  go_enter Try.func4, Try.ntmps4
  go_wp2_with fail
  refine (awake09 _).mono ?_
  rintro e wq6 ⟨rfl, hb⟩
  have HB := Lib.hid (HB.out.trans (hb.mono HB.out.size)); clear hb
  go_wp2_with fail
  refine (rfew_any A len cap 60 ps _ (HA.out.below HB.out) hlen (by decide)).mono ?_
  rintro e w4 ⟨bf, rfl, hf, rfl⟩
  cases bf with
  | false =>
    go_wp2_with fail
    refine (awake09 _).mono ?_
    rintro e wq7 ⟨rfl, hb⟩
    have HB := Lib.hid (HB.out.trans (hb.mono HB.out.size)); clear hb
    go_wp2
    go_ret
    exact ⟨rfl, HB.out⟩
  | true =>
    have hf2 := hf.1 rfl
    clear hf
    have hl60 : len ≤ 60 := by rw [← HA.out.1]; exact hf2.2
    have hs : ∀ p ∈ ps, p.1 < 18446744073709551616 ∧ p.2.2.size ≤ 500 := fun p hp => by
      obtain ⟨j, hj, rfl⟩ := List.getElem_of_mem hp
      exact ⟨(HA.out.2.1 _ (List.getElem_mem hj)).1, hf2.1 j hj (by have := hf2.2; omega)⟩
    have HS := Lib.hid hs; clear hs hf2
    by_cases hR : rightV ps
    · have HR := Lib.hid hR; clear hR
      go_wp2_with fail
      refine (encode_ok A len cap ps _ (HA.out.below HB.out) (by omega) (fun p hp => Nat.le_trans (HS.out p hp).2 (by decide)) HR.out).mono ?_
      rintro e w2 ⟨rfl, hbl⟩
      have HB := Lib.hid (HB.out.trans (hbl.mono HB.out.size)); clear hbl
      have hlps := HA.out.1
      have hsz := chainS_size 500 (by decide) ps (by omega) (fun p hp => (HS.out p hp).2)
      have hsum := sumV_le 500 ps (fun p hp => (HS.out p hp).2)
      have hdec := decS_back ps HR.out (fun p hp => ⟨(HS.out p hp).1, Nat.lt_of_le_of_lt (HS.out p hp).2 (by decide)⟩)
      rw [if_pos (by omega)] at hdec
      have DO := Lib.hid (fun w => decode_ok (chainS ps) ps w (by omega) hdec)
      have RB := Lib.hid (fun w hA => rbytes_any A len cap ps w hA (by omega) (fun p hp => Nat.le_trans (HS.out p hp).2 (by decide)))
      generalize chainS ps = s at *
      clear hsz hsum hdec
      rw [hlps] at DO
      clear hlps
      go_wp2_with fail
      refine (right_any A len cap ps _ (HA.out.below HB.out) hlen).mono ?_
      rintro e w3 ⟨b1, rfl, hb1, hbl⟩
      obtain rfl : b1 = true := hb1.2 HR.out
      have HB := Lib.hid (HB.out.trans (hbl.mono HB.out.size)); clear hbl hb1
      go_wp2_with fail
      refine (rright_any A len cap ps _ (HA.out.below HB.out) hlen).mono ?_
      rintro e w4 ⟨b1, rfl, hb1, hbl⟩
      obtain rfl : b1 = true := hb1.2 HR.out
      have HB := Lib.hid (HB.out.trans (hbl.mono HB.out.size)); clear hbl hb1
      go_wp2_with fail
      refine (rright_any A len cap ps _ (HA.out.below HB.out) hlen).mono ?_
      rintro e w5 ⟨b1, rfl, hb1, hbl⟩
      obtain rfl : b1 = true := hb1.2 HR.out
      have HB := Lib.hid (HB.out.trans (hbl.mono HB.out.size)); clear hbl hb1
      go_wp2_with fail
      refine (DO.out _).mono ?_
      rintro e w6 ⟨A2, c2, rfl, hc2, hv, ha, hbl⟩
      have HA2 := Lib.hid ha
      have HB := Lib.hid (HB.out.trans (hbl.mono HB.out.size)); clear hbl ha hv DO
      go_wp2_with fail
      refine (RB.out _ (HA.out.below HB.out)).mono ?_
      rintro e w7 ⟨rfl, hbl⟩
      have HA2 := Lib.hid (HA2.out.below hbl)
      have HB := Lib.hid (HB.out.trans (hbl.mono HB.out.size)); clear hbl RB
      go_wp2_with fail
      refine (rsame_any A2 A len c2 cap ps _ HA2.out (HA.out.below HB.out) hlen hc2 hcap).mono ?_
      rintro e w8 ⟨rfl, hbl⟩
      have HB := Lib.hid (HB.out.trans (hbl.mono HB.out.size)); clear hbl
      go_wp2
      go_ret
      exact ⟨rfl, HB.out⟩
    · have HR := Lib.hid hR; clear hR
      go_wp2_with fail
      refine (encode_bad A len cap ps _ (HA.out.below HB.out) (by omega) HR.out).mono ?_
      rintro e w2 ⟨rfl, hbl⟩
      have HB := Lib.hid (HB.out.trans (hbl.mono HB.out.size)); clear hbl
      go_wp2_with fail
      refine (right_any A len cap ps _ (HA.out.below HB.out) hlen).mono ?_
      rintro e w3 ⟨b1, rfl, hb1, hbl⟩
      obtain rfl : b1 = false := by cases b1; rfl; exact absurd (hb1.1 rfl) HR.out
      have HB := Lib.hid (HB.out.trans (hbl.mono HB.out.size)); clear hbl hb1
      go_wp2_with fail
      refine (rright_any A len cap ps _ (HA.out.below HB.out) hlen).mono ?_
      rintro e w4 ⟨b1, rfl, hb1, hbl⟩
      obtain rfl : b1 = false := by cases b1; rfl; exact absurd (hb1.1 rfl) HR.out
      have HB := Lib.hid (HB.out.trans (hbl.mono HB.out.size)); clear hbl hb1
      go_wp2_with fail
      refine (rright_any A len cap ps _ (HA.out.below HB.out) hlen).mono ?_
      rintro e w5 ⟨b1, rfl, hb1, hbl⟩
      obtain rfl : b1 = false := by cases b1; rfl; exact absurd (hb1.1 rfl) HR.out
      have HB := Lib.hid (HB.out.trans (hbl.mono HB.out.size)); clear hbl hb1
      go_wp2
      go_ret
      exact ⟨rfl, HB.out⟩
theorem chain_back_walk (A : Option Addr) (len cap : Nat) (l : List VerT) (W : World) (hc : len ≤ cap) (hb : len * Try.prog.bytesOf 30 ≤ 140737488351232)
    (hl : RowSays W (Try.prog.cellsOf 30) (fun p cs => (p.1 < 18446744073709551616 ∧ p.2.2.size ≤ 140737488351232) ∧ cs = [.int .u64 p.1, .bool p.2.1, .string p.2.2]) A len l) :
    Calls Try.prog 4 #[.slice A len cap] W fun e w' => e = .returned (.bool true) ∧ Below W.heap.size W w' := by
  have e : Try.prog.bytesOf 30 = 32 := by kernel_rfl
  rw [e] at hb
  exact back_law A len cap l W (argvers_of hl) (by omega) hc
end Go.Proofs.Ytmglkgcogfhabaa.My
