/- The law ChainAt walked. -/
import Derived.Test.YtmglkgcogfhabaaChainAt
import Derived.Test.YtmglkgcogfhabaaAwake09
import Derived.Test.YtmglkgcogfhabaaArr2
namespace Go.Proofs.Ytmglkgcogfhabaa.My
set_option linter.unusedSimpArgs false
set_option linter.unusedVariables false
open Go.RowKit Go.Proofs.YtmglkgcogfhabaaW.PrintWords Go.Proofs.YtmglkgcogfhabaaW.PrintLast Go.Proofs.Ytmglkgcogfhabaa.Pm

theorem rightV_mono {ps : List VerT} (h : rightV ps) : ∀ (b a : Nat) (ha : a < ps.length) (hb : b < ps.length), a ≤ b → ps[a].1 ≤ ps[b].1
  | 0, a, ha, hb, hab => by
    obtain rfl : a = 0 := by omega
    exact Nat.le_refl _
  | b + 1, a, ha, hb, hab => by
    by_cases e : a = b + 1
    · subst e; exact Nat.le_refl _
    · have h1 := rightV_mono h b a ha (by omega) (by omega)
      have h2 := (h.1 (b + 1) hb).2.1 (by omega)
      simp only [Nat.add_sub_cancel] at h2
      omega
theorem u64_some (x : Int) : ∃ m : Nat, IntKind.u64.wrap x = (m : Int) := by
  refine ⟨(IntKind.u64.wrap x).toNat, ?_⟩
  have : 0 ≤ IntKind.u64.wrap x := by simp only [IntKind.wrap_u64]; omega
  omega
theorem u8_some (x : Int) : ∃ m : Nat, IntKind.u8.wrap x = (m : Int) ∧ m < 256 := by
  have h : 0 ≤ IntKind.u8.wrap x ∧ IntKind.u8.wrap x < 256 := by simp only [IntKind.wrap_u8]; omega
  exact ⟨(IntKind.u8.wrap x).toNat, by omega, by omega⟩
set_option maxRecDepth 100000 in
set_option maxHeartbeats 8000000 in
theorem chain_at_law (A : Option Addr) (len cap tm : Nat) (a b : Int) (ps : List VerT) (w : World) (hA : ArgVers w A len ps) (hlen : len ≤ 140737488351232) :
    Calls Try.prog 3 #[.slice A len cap, .int .u64 tm, .agg #[.int .i8 a, .int .i8 b]] w fun e w' => e = .returned (.bool true) ∧ Below w.heap.size w w' := by
  have HA := Lib.hid hA; clear hA
  obtain ⟨nr, hnr, hnr2⟩ := u8_some a
  go_enter Try.func3, Try.ntmps3
  go_wp2
  have K := blk_new w (.cells #[.int .i8 a, .int .i8 b] 25)
  have HB := Lib.hid (below_alloc (Below.refl w.heap.size w) (.cells #[.int .i8 a, .int .i8 b] 25))
  have k0 := (blk_cell K 0).trans rfl
  have k1 := (blk_cell K 1).trans rfl
  generalize w.alloc (.cells #[.int .i8 a, .int .i8 b] 25) = w1 at *
  clear K
  go_quiet (fail)
  have HB := Lib.hid (pw_below_drewN HB.out nq)
  generalize w1.drewN nq = w2 at *
  clear k0 k1
  go_wp2_with fail
  refine (awake09 _).mono ?_
  rintro e w3 ⟨rfl, hb⟩
  have HB := Lib.hid (HB.out.trans (hb.mono HB.out.size)); clear hb
  go_wp2_with fail
  refine (rfew_any A len cap 60 ps _ (HA.out.below HB.out) hlen (by decide)).mono ?_
  rintro e w4 ⟨bf, rfl, hf, rfl⟩
  cases bf with
  | false =>
    go_wp2_with fail
    refine (awake09 _).mono ?_
    rintro e w3 ⟨rfl, hb⟩
    have HB := Lib.hid (HB.out.trans (hb.mono HB.out.size)); clear hb
    go_wp2
    go_ret
    exact ⟨rfl, HB.out⟩
  | true =>
    have hlen60 : len ≤ 60 := by have := (hf.1 rfl).2; rw [HA.out.1] at this; exact this
    clear hf
    go_wp2_with fail
    refine (rright_any A len cap ps _ (HA.out.below HB.out) hlen).mono ?_
    rintro e w4 ⟨br, rfl, hr, hb⟩
    have HB := Lib.hid (HB.out.trans (hb.mono HB.out.size)); clear hb
    cases br with
    | false =>
      go_wp2_with fail
      refine (awake09 _).mono ?_
      rintro e w3 ⟨rfl, hb⟩
      have HB := Lib.hid (HB.out.trans (hb.mono HB.out.size)); clear hb
      go_wp2
      go_ret
      exact ⟨rfl, HB.out⟩
    | true =>
      have HR := Lib.hid (rightV_mono (hr.1 rfl)); clear hr
      by_cases hl0 : 0 < len
      · have y0 : decide (0 < (len : Int)) = true := by simp; omega
        by_cases hn2 : nr < 200
        · have y1 : decide ((nr : Int) < 200) = true := by simp; omega
          obtain ⟨k, hk⟩ : ∃ k, nr % len = k := ⟨_, rfl⟩
          have hkl : k < len := hk ▸ Nat.mod_lt nr hl0
          have e1 : (nr : Int) % (len : Int) = (k : Int) := by rw [← hk]; exact (Int.natCast_emod nr len).symm
          have e2 : Int.tmod (nr : Int) (len : Int) = (k : Int) := by rw [Int.tmod_eq_emod_of_nonneg (by omega)]; exact e1
          have e3 : ((len : Int) == 0) = false := by simp; omega
          obtain ⟨b0, off, t, gg, v, hj, rfl, hb0, hp, ht, hv, c0, c1, c2⟩ := (HA.out.below HB.out).get k hkl
          obtain ⟨t2, ht2⟩ := u64_some ((t : Int) + IntKind.u64.wrap (wrap64 b))
          clear hp hv ht hj c1 c2 hk hb0
          go_wp2_with fail
          refine (at_any _ len cap t2 ps _ (HA.out.below HB.out) hlen (fun a b ha hb h => HR.out b a ha hb h)).mono ?_
          rintro e w5 ⟨x, bb, s, ok, rfl, hat, hb⟩
          have HB := Lib.hid (HB.out.trans (hb.mono HB.out.size)); clear hb
          have HAT := Lib.hid hat; clear hat y0 hnr
          clear c0 e1 e2 e3 ht2 y1 hkl
          go_wp2_with fail
          have K := blk_new w5 (.cells #[.int .u64 (x : Int), .bool bb, .string s] 30)
          have HB := Lib.hid (below_alloc HB.out (.cells #[.int .u64 (x : Int), .bool bb, .string s] 30))
          generalize w5.alloc (.cells #[.int .u64 (x : Int), .bool bb, .string s] 30) = w6 at *
          generalize w5.heap.size = g at *
          refine (rat_any _ len cap t2 ps _ (HA.out.below HB.out) hlen).mono ?_
          rintro e w7 ⟨x', bb', s', ok', rfl, hat', hb⟩
          have hx := AtIs.one HAT.out hat'
          simp only [Prod.mk.injEq] at hx
          obtain ⟨⟨rfl, rfl, rfl⟩, rfl⟩ := hx
          have K := blk_below K hb
          have HB := Lib.hid (HB.out.trans (hb.mono HB.out.size)); clear hb hat'
          have K2 := blk_alloc K (.cells #[.int .u64 (x : Int), .bool bb, .string s] 30)
          have N2 := blk_new w7 (.cells #[.int .u64 (x : Int), .bool bb, .string s] 30)
          have k0 := (blk_cell K2 0).trans rfl
          have k1 := (blk_cell K2 1).trans rfl
          have k2 := (blk_cell K2 2).trans rfl
          have m0 := (blk_cell N2 0).trans rfl
          have m1 := (blk_cell N2 1).trans rfl
          have m2 := (blk_cell N2 2).trans rfl
          clear K K2 N2
          go_wp2
          go_ret
          exact ⟨rfl, below_alloc HB.out _⟩
        · have y1 : decide ((nr : Int) < 200) = false := by simp; omega
          go_wp2_with fail
          refine (at_any A len cap tm ps _ (HA.out.below HB.out) hlen (fun a b ha hb h => HR.out b a ha hb h)).mono ?_
          rintro e w5 ⟨x, bb, s, ok, rfl, hat, hb⟩
          have HB := Lib.hid (HB.out.trans (hb.mono HB.out.size)); clear hb
          have HAT := Lib.hid hat; clear hat y0 hnr
          clear y1
          go_wp2_with fail
          have K := blk_new w5 (.cells #[.int .u64 (x : Int), .bool bb, .string s] 30)
          have HB := Lib.hid (below_alloc HB.out (.cells #[.int .u64 (x : Int), .bool bb, .string s] 30))
          generalize w5.alloc (.cells #[.int .u64 (x : Int), .bool bb, .string s] 30) = w6 at *
          generalize w5.heap.size = g at *
          refine (rat_any A len cap tm ps _ (HA.out.below HB.out) hlen).mono ?_
          rintro e w7 ⟨x', bb', s', ok', rfl, hat', hb⟩
          have hx := AtIs.one HAT.out hat'
          simp only [Prod.mk.injEq] at hx
          obtain ⟨⟨rfl, rfl, rfl⟩, rfl⟩ := hx
          have K := blk_below K hb
          have HB := Lib.hid (HB.out.trans (hb.mono HB.out.size)); clear hb hat'
          have K2 := blk_alloc K (.cells #[.int .u64 (x : Int), .bool bb, .string s] 30)
          have N2 := blk_new w7 (.cells #[.int .u64 (x : Int), .bool bb, .string s] 30)
          have k0 := (blk_cell K2 0).trans rfl
          have k1 := (blk_cell K2 1).trans rfl
          have k2 := (blk_cell K2 2).trans rfl
          have m0 := (blk_cell N2 0).trans rfl
          have m1 := (blk_cell N2 1).trans rfl
          have m2 := (blk_cell N2 2).trans rfl
          clear K K2 N2
          go_wp2
          go_ret
          exact ⟨rfl, below_alloc HB.out _⟩
      · have y0 : decide (0 < (len : Int)) = false := by simp; omega
        go_wp2_with fail
        refine (at_any A len cap tm ps _ (HA.out.below HB.out) hlen (fun a b ha hb h => HR.out b a ha hb h)).mono ?_
        rintro e w5 ⟨x, bb, s, ok, rfl, hat, hb⟩
        have HB := Lib.hid (HB.out.trans (hb.mono HB.out.size)); clear hb
        have HAT := Lib.hid hat; clear hat y0 hnr
        skip
        go_wp2_with fail
        have K := blk_new w5 (.cells #[.int .u64 (x : Int), .bool bb, .string s] 30)
        have HB := Lib.hid (below_alloc HB.out (.cells #[.int .u64 (x : Int), .bool bb, .string s] 30))
        generalize w5.alloc (.cells #[.int .u64 (x : Int), .bool bb, .string s] 30) = w6 at *
        generalize w5.heap.size = g at *
        refine (rat_any A len cap tm ps _ (HA.out.below HB.out) hlen).mono ?_
        rintro e w7 ⟨x', bb', s', ok', rfl, hat', hb⟩
        have hx := AtIs.one HAT.out hat'
        simp only [Prod.mk.injEq] at hx
        obtain ⟨⟨rfl, rfl, rfl⟩, rfl⟩ := hx
        have K := blk_below K hb
        have HB := Lib.hid (HB.out.trans (hb.mono HB.out.size)); clear hb hat'
        have K2 := blk_alloc K (.cells #[.int .u64 (x : Int), .bool bb, .string s] 30)
        have N2 := blk_new w7 (.cells #[.int .u64 (x : Int), .bool bb, .string s] 30)
        have k0 := (blk_cell K2 0).trans rfl
        have k1 := (blk_cell K2 1).trans rfl
        have k2 := (blk_cell K2 2).trans rfl
        have m0 := (blk_cell N2 0).trans rfl
        have m1 := (blk_cell N2 1).trans rfl
        have m2 := (blk_cell N2 2).trans rfl
        clear K K2 N2
        go_wp2
        go_ret
        exact ⟨rfl, below_alloc HB.out _⟩
theorem ver_opens {H : Type} {enc : TypeId × Value → H} {w : World} {base : Nat} {spare : Nat → Bool} {held : Bool} :
    Opens enc Try.prog w base spare held 30 fun (p : VerT) cs => (p.1 < 18446744073709551616 ∧ p.2.2.size ≤ 140737488351232) ∧ cs = [.int .u64 p.1, .bool p.2.1, .string p.2.2] :=
  (opens_struct3 Try.underlying30 (opens_int Try.underlying23) (opens_bool Try.underlying4) (opens_string Try.underlying9)).imp fun p cs ⟨hl, ⟨h0, hs⟩, h2, h4, h5⟩ => by
    have z := wf_u64 hs
    have e : Try.prog.cellsOf 30 = 3 := by kernel_rfl
    have e1 : Try.prog.cellsOf 9 = 1 := by kernel_rfl
    have e2 : Try.prog.cellsOf 23 = 1 := by kernel_rfl
    have e3 : Try.prog.cellsOf 4 = 1 := by kernel_rfl
    obtain ⟨a, b, c⟩ := p
    obtain ⟨a, rfl⟩ := Int.eq_ofNat_of_zero_le z.1
    rw [e] at hl
    simp only [e2] at h0
    simp only [e3] at h2
    simp only [e1] at h4
    refine ⟨(a, b, c), ⟨(by have := z.2; simp only at this; show a < 18446744073709551616; omega), h5⟩, ?_⟩
    match cs, hl with
    | [x, y, z], _ => simp at h0 h2 h4; rw [h0, h2, h4]
theorem vers_opens {H : Type} {enc : TypeId × Value → H} {w : World} {base : Nat} {spare : Nat → Bool} {held : Bool} :
    Opens enc Try.prog w base spare held 22 fun (l : List VerT) cs => ∃ A len cap, cs = [.slice A len cap] ∧ len ≤ cap ∧ cap ≤ maxLen ∧ len * Try.prog.bytesOf 30 ≤ 140737488351232 ∧ RowSays w (Try.prog.cellsOf 30) (fun p cs => (p.1 < 18446744073709551616 ∧ p.2.2.size ≤ 140737488351232) ∧ cs = [.int .u64 p.1, .bool p.2.1, .string p.2.2]) A len l :=
  opens_slice Try.underlying22 (by decide +kernel) ver_opens
theorem argvers_of {W : World} {A : Option Addr} {len : Nat} {l : List VerT} (hl : RowSays W (Try.prog.cellsOf 30) (fun p cs => (p.1 < 18446744073709551616 ∧ p.2.2.size ≤ 140737488351232) ∧ cs = [.int .u64 p.1, .bool p.2.1, .string p.2.2]) A len l) : ArgVers W A len l := by
  have e1 : Try.prog.cellsOf 30 = 3 := by kernel_rfl
  rw [e1] at hl
  refine ⟨hl.1, fun p hp => ?_, fun h => ?_⟩
  · obtain ⟨j, hj, rfl⟩ := List.getElem_of_mem hp
    obtain ⟨b, off, a, c, _, _, h2, _, h3, _⟩ := hl.get j (by rw [← hl.1]; exact hj)
    rw [List.getElem?_eq_getElem hj] at h2
    obtain rfl : l[j] = a := by simpa using h2
    exact h3.1
  · obtain ⟨b, off, rfl, hlt, hc⟩ := hl.2 h
    refine ⟨b, off, rfl, hlt, fun j hj => ?_⟩
    obtain ⟨c, _, ⟨_, rfl⟩, h4⟩ := hc j hj
    exact ⟨h4 0 _ rfl, h4 1 _ rfl, h4 2 _ rfl⟩
theorem chain_at_walk (A : Option Addr) (len cap : Nat) (l : List VerT) (a1 a2 x2 : Int) (W : World) (_ : len ≤ cap) (hb : len * Try.prog.bytesOf 30 ≤ 140737488351232)
    (hl : RowSays W (Try.prog.cellsOf 30) (fun p cs => (p.1 < 18446744073709551616 ∧ p.2.2.size ≤ 140737488351232) ∧ cs = [.int .u64 p.1, .bool p.2.1, .string p.2.2]) A len l) (h1 : (Lit.int .u64 a1).wf = true) (_ : (Lit.int .i8 a2).wf = true) (_ : (Lit.int .i8 x2).wf = true) :
    Calls Try.prog 3 #[.slice A len cap, .int .u64 a1, .agg #[.int .i8 a2, .int .i8 x2]] W fun e w' => e = .returned (.bool true) ∧ Below W.heap.size W w' := by
  have z1 := wf_u64 h1
  obtain ⟨n, rfl⟩ := Int.eq_ofNat_of_zero_le z1.1
  have e : Try.prog.bytesOf 30 = 32 := by kernel_rfl
  rw [e] at hb
  exact chain_at_law A len cap n a2 x2 l W (argvers_of hl) (by omega)
end Go.Proofs.Ytmglkgcogfhabaa.My
