/- Rows of versions of the call's own; chain.Decode. -/
import Derived.Test.YtmglkgcogfhabaaDec3
import Derived.Test.YtmglkgcogfhabaaChainP
namespace Go.Proofs.Ytmglkgcogfhabaa.My
set_option linter.unusedSimpArgs false
set_option linter.unusedVariables false
open Go.RowKit Go.Proofs.YtmglkgcogfhabaaW.PrintWords Go.Proofs.YtmglkgcogfhabaaW.PrintLast Go.Proofs.Ytmglkgcogfhabaa.Pm

theorem takeU_lt' : ∀ (l : List UInt8) (i n m k : Nat), n < 2 ^ (7 * i) → i ≤ 10 → takeU i n l = some (m, k) → m < 18446744073709551616
  | [], i, n, m, k, _, _, h => by simp [takeU] at h
  | b :: r, i, n, m, k, hn, hi, h => by
    unfold takeU at h
    split at h
    · cases h
    · rename_i hc
      have hb : b.toNat % 128 < 128 := by omega
      split at h
      · simp only [Option.some.injEq, Prod.mk.injEq] at h
        obtain ⟨rfl, -⟩ := h
        exact uint_fits hn hb (by omega) (by omega)
      · exact takeU_lt' r _ _ _ _ (uint_lt hn hb) (by omega) h
/-- A version's cells. -/
def kV : Kd VerT := Kd.iso (Kd.pair (Kd.int .u64) (Kd.pair Kd.bool Kd.string)) (fun p => ((p.1 : Int), p.2.1, p.2.2))
theorem kV_mkM (w : World) (base : Nat) (ok : Nat → Prop) (p : VerT) : kV.M w base ok p [.int .u64 (p.1 : Int), .bool p.2.1, .string p.2.2] := ⟨[.int .u64 (p.1 : Int)], [.bool p.2.1, .string p.2.2], rfl, rfl, ⟨[.bool p.2.1], [.string p.2.2], rfl, rfl, rfl⟩⟩
theorem kV_open {w : World} {p : VerT} {cs : List Value} (h : kV.K w p cs) : cs = [.int .u64 (p.1 : Int), .bool p.2.1, .string p.2.2] := by
  obtain ⟨c0, c1, rfl, h0, c2, c3, rfl, h1, h2⟩ := h
  rw [show c0 = _ from h0, show c2 = _ from h1, show c3 = _ from h2]
  rfl
/-- A slice of versions of the call's own. -/
def Vs (w : World) (base : Nat) (v : Value) (ps : List VerT) : Prop := kV.R 30 w base (fun _ => True) v ps
theorem Vs.below {w w1 : World} {base : Nat} {v : Value} {ps : List VerT} (h : Vs w base v ps) (hb : Below w.heap.size w w1) : Vs w1 base v ps := Kd.R_below h hb
theorem Vs.lower {w : World} {base b' : Nat} {v : Value} {ps : List VerT} (h : Vs w base v ps) (hb : b' ≤ base) : Vs w b' v ps := Kd.R_lower h hb
theorem Vs.nil (w : World) (base : Nat) : Vs w base (.slice none 0 0) [] := Kd.R_nil _ _ _ _ _
theorem Vs.slice_ {w : World} {base : Nat} {v : Value} {ps : List VerT} (h : Vs w base v ps) : ∃ A c, v = .slice A ps.length c := Kd.R_slice h
theorem Vs.slice3 {w : World} {base : Nat} {v : Value} {ps : List VerT} (h : Vs w base v ps) : ∃ A m c, v = .slice A m c := by
  obtain ⟨A, c, e⟩ := Kd.R_slice h
  exact ⟨A, _, c, e⟩
theorem kV_E : kV.E = [] := rfl
/-- A store, or a call, that turns a block of another type. -/
theorem Vs.types {ok : Nat → Prop} {w : World} {base g t : Nat} {v : Value} {ps : List VerT} {cs : Array Value} (h : kV.R 30 w base ok v ps) (hg : w.heap[g]? = some (.cells cs t (0, 0))) (ht : 30 ≠ t) : kV.R 30 w base (fun k => ok k ∧ k ≠ g) v ps :=
  Kd.R_types h hg (fun q hq => by rw [kV_E] at hq; rw [List.mem_singleton.1 hq]; exact ht)
theorem Vs.set {w : World} {base g t : Nat} {v : Value} {ps : List VerT} {cs : Array Value} (h : Vs w base v ps) (hg : w.heap[g]? = some (.cells cs t (0, 0))) (ht : 30 ≠ t) (j : Nat) (u : Value) : Vs (w.setCell ⟨g, j, none⟩ u) base v ps :=
  Kd.R_set h hg (fun q hq => by rw [kV_E] at hq; rw [List.mem_singleton.1 hq]; exact ht) j u
theorem Vs.arg {w : World} {base : Nat} {v : Value} {ps : List VerT} (h : Vs w base v ps) (hs : ∀ p ∈ ps, p.1 < 18446744073709551616 ∧ p.2.2.size ≤ 140737488351232) : ∃ A c, v = .slice A ps.length c ∧ ps.length ≤ c ∧ ArgVers w A ps.length ps := by
  obtain ⟨A, c, rfl, hc, hr⟩ := Kd.R_reads h
  refine ⟨A, c, rfl, hc, rfl, hs, fun h0 => ?_⟩
  obtain ⟨g, cap, e, _, hlt, _⟩ := Kd.R_form h h0
  cases e
  refine ⟨g, 0, rfl, hlt, fun j hj => ?_⟩
  obtain ⟨ad, cs, e, hl, hk, hcell⟩ := hr.get_ (0, false, ⟨#[]⟩) (j : Int) (by omega) (by omega)
  cases e
  rw [Int.toNat_natCast, List.getD_eq_getElem?_getD, List.getElem?_eq_getElem hj, Option.getD_some] at hk
  rw [Int.toNat_natCast] at hcell
  have e := kV_open hk
  subst e
  have hadd : ∀ k, (⟨g, 0, none⟩ : Addr).add k = ⟨g, 0 + k, none⟩ := fun k => Go.WideShapes.add_plain _ _ _
  have h0 := hcell 0 _ rfl
  have h1 := hcell 1 _ rfl
  have h2 := hcell 2 _ rfl
  rw [hadd] at h0 h1 h2
  exact ⟨h0, h1, h2⟩
theorem info_ver : (Try.prog.info? 30).map (fun i => (i.zero, i.size, i.bytes)) = some (some (.agg #[.int .u64 0, .bool false, .string ⟨#[]⟩]), 3, 32) := by kernel_rfl
theorem app_v {ops : Array Oper} {rest : List Oper} {o : Oper} {a : Act} {Q : Exit → Act → World → Prop} {w0 W : World} (base : Nat) (hgd : o.guard = none) (s x : Operand) (v : Value) (xs : List VerT) (p : VerT)
    (ho : o.op = .call { callee := .builtin .append, args := #[s, x], argTypes := #[22, 22] }) (hs : a.eval s = v) (hx : a.eval x = .slice (some ⟨W.heap.size, 0, none⟩) 1 1)
    (HO : Vs W base v xs) (HB : Below base w0 W) (hbase : base ≤ W.heap.size) (hl : (xs.length + 1) * 32 ≤ 140737488355328)
    (h : ∀ v1 w1, Hid (Vs w1 base v1 (xs ++ [p])) → Hid (Below base w0 w1) → Hid (W.grownBy w1 v.ownBlock) → wpList Try.prog ops Q rest (a.put o.dst v1) w1) :
    wpList Try.prog ops Q (o :: rest) a (W.alloc (.cells #[.int .u64 (p.1 : Int), .bool p.2.1, .string p.2.2] 30)) :=
  Kd.R_append kV base hgd s x 22 30 (.agg #[.int .u64 0, .bool false, .string ⟨#[]⟩]) 32 ho Try.underlying22 info_ver rfl (by decide) (by omega) v xs p [.int .u64 (p.1 : Int), .bool p.2.1, .string p.2.2] (fun _ => True) (fun _ => False) hs hx (kV_mkM _ _ _ p) (fun _ hk => hk.elim) (fun _ _ => trivial) HO HB hbase hl
    (fun v1 w1 h1 h2 h3 _ => h v1 w1 h1 h2 h3)
theorem Vs.two {w w1 : World} {base h g : Nat} {v : Value} {ps : List VerT} {s : RdS} (hq : Vs w base v ps) (k : RdR w h g s) (hk : Keeps (Two h g) w w1) : Vs w1 base v ps :=
  Kd.R_mono (Kd.R_step (Vs.types (Vs.types hq k.rd (by decide)) k.cur (by decide)) (fun j hj hlt => hk.block j hlt (by rintro (e | e); exact hj.1.2 e; exact hj.2 e))) (fun _ _ => trivial)
theorem Rd.grown {w w1 : World} {base h g : Nat} {v : Value} {ps : List VerT} {s : RdS} (k : RdR w h g s) (hq : Vs w base v ps) (hg : w.grownBy w1 v.ownBlock) : RdR w1 h g s :=
  ⟨blk_grown k.rd hg (Kd.R_ne hq k.rd (by decide)), blk_grown k.cur hg (Kd.R_ne hq k.cur (by decide)), k.ne⟩
theorem vers_stop {n : Nat} {s : RdS} {out : List VerT} (h : n = 0 ∨ s.bad = true ∨ s.long = true) : versS n s out = (s, out) := by
  cases n with
  | zero => rfl
  | succ k => rw [versS, if_pos (h.resolve_left (by omega))]
theorem vers_step {k : Nat} {s : RdS} {out : List VerT} (h1 : s.bad = false) (h2 : s.long = false) : versS (k + 1) s out = versS k (verS s).2 (out ++ [(verS s).1]) := by
  rw [versS, if_neg (by rw [h1, h2]; decide)]
theorem endS_good {b : ByteArray} {s : RdS} {out : List VerT} (h1 : s.bad = false) (h2 : s.long = false) (h3 : s.cb = false) (h4 : s.r.size = 0) (h5 : chainS out = b) : endS b (s, out) = (out, 0) := by
  unfold endS
  rw [if_neg (by rw [h1]; decide), if_neg (by rw [h2]; decide), if_pos ⟨h3, h4, h5⟩]
theorem endS_off {b : ByteArray} {s : RdS} {out : List VerT} (h1 : s.bad = false) (h2 : s.long = false) (h3 : s.cb = false → s.r.size = 0 → chainS out ≠ b) : endS b (s, out) = ([], 2) := by
  unfold endS
  rw [if_neg (by rw [h1]; decide), if_neg (by rw [h2]; decide), if_neg (fun h => h3 h.1 h.2.1 h.2.2)]
theorem dec_wrap (k : Nat) (h : k < 18446744073709551616) : IntKind.u64.wrap (((k + 1 : Nat) : Int) - 1) = (k : Int) := by
  rw [show (((k + 1 : Nat) : Int) - 1) = (k : Int) by omega]
  exact wrap_u64_nat h
theorem curUint_lt (s : ByteArray) (b : Bool) : (curUint s b).1 < 18446744073709551616 := by
  unfold curUint
  split
  · show (0 : Nat) < _; decide
  · split
    · rename_i n k h
      exact takeU_lt' _ 0 0 n k (by decide) (by decide) h
    · show (0 : Nat) < _; decide
set_option maxRecDepth 100000 in
set_option maxHeartbeats 8000000 in
theorem decode_any (b : ByteArray) (w : World) (hb : b.size ≤ 1000000) :
    Calls Try.prog 17 #[.string b] w fun e w' => ∃ v, e = .returned (.tuple #[v, .int .i64 ((decS b).2 : Nat)]) ∧ Vs w' w.heap.size v (decS b).1 ∧ Below w.heap.size w w' := by
  have hu := curUint_size b false
  have hul := curUint_lt b false
  have HT1 := Lib.hid (fun g w hc => cur_uint b false g w hc (Nat.le_trans hb (by decide)))
  unfold decS
  generalize curUint b false = u at *
  obtain ⟨N, r, cb⟩ := u
  simp only at *
  obtain ⟨V, hV⟩ : ∃ V, versS N (startS (N, r, cb)) [] = V := ⟨_, rfl⟩
  rw [hV]
  have HVV := Lib.hid hV; clear hV
  have HS0 := Lib.hid (show (startS (N, r, cb)).bad = true ∨ N ≤ 200 by
    simp only [startS]
    by_cases h : 200 < N
    · simp [h]
    · exact .inr (by omega))
  have HB := Lib.hid (Below.refl w.heap.size w)
  go_enter Try.func17, Try.ntmps17
  go_wp2_with fail
  refine (cur_new b _).mono ?_
  rintro e w1 ⟨rfl, hc, hbl⟩
  have HB := Lib.hid (HB.out.trans hbl); clear hbl
  have HC := Lib.hid hc; clear hc
  have hgl := HC.out.lt
  generalize hg : w.heap.size = g at *
  have HG := Lib.hid hg; clear hg
  go_wp2_with fail
  have HU := Lib.hid (show Rd (w1.alloc (.cells #[.pointer (some ⟨g, 0, none⟩), .string ⟨#[]⟩, .int .u64 0, .int .i64 0, .bool false, .bool false] 74)) w1.heap.size g b false ⟨#[]⟩ 0 0 false false from ⟨blk_new w1 _, blk_alloc HC.out _, by omega⟩)
  have HB := Lib.hid (show Below g w (w1.alloc (.cells #[.pointer (some ⟨g, 0, none⟩), .string ⟨#[]⟩, .int .u64 0, .int .i64 0, .bool false, .bool false] 74)) from HB.out.alloc (Nat.le_of_lt hgl) _)
  have hgh : g ≤ w1.heap.size := Nat.le_of_lt hgl
  generalize w1.alloc (.cells #[.pointer (some ⟨g, 0, none⟩), .string ⟨#[]⟩, .int .u64 0, .int .i64 0, .bool false, .bool false] 74) = w2 at *
  generalize w1.heap.size = h at *
  refine (HT1.out g _ HU.out.cur).mono ?_
  rintro e w3 ⟨rfl, hc, hk⟩
  have HB := Lib.hid (HB.out.trans (hk.to_below (Nat.le_trans (Nat.le_of_eq HG.out.symm) HB.out.size) (fun i hi => by cases hi; exact Nat.le_refl _)))
  have HU := Lib.hid (HU.out.cur_ hc hk)
  clear hk hc HT1 HC hgl
  have c0 := HU.out.rd.c0
  have c5 := HU.out.rd.c5
  have f5 := HU.out.rd.f 5
  have HBB := Lib.hid hb; clear hb
  cases cb with
  | true =>
    have HDD := Lib.hid (show (true || decide (200 < N)) = true from rfl)
    go_wp2_with fail
    refine (cur_bad _ _ _ _ HU.out.cur).mono ?_
    rintro e wq ⟨rfl, rfl⟩
    go_wp2
    have HU := Lib.hid (HU.out.set5 true)
    have HB := Lib.hid (below_setc (p := ⟨h, 5, none⟩) HB.out hgh (.bool true))
    generalize w3.setCell ⟨h, 5, none⟩ (Value.bool true) = w4 at *
    clear c0 c5 f5
    go_loopw [5, 6] (fun v5 v6 wr => ∃ (n : Nat) (s : RdS) (out : List VerT), v5 = .int .u64 n ∧ n < 18446744073709551616 ∧ Hid (Vs wr g v6 out) ∧ Hid (RdR wr h g s) ∧ Hid (Below g w wr) ∧ Hid (versS n s out = V) ∧ Hid (out.length + n ≤ N ∧ (s.bad = true ∨ N ≤ 200) ∧ s.base.size + s.r.size ≤ 1000000 ∧ s.size ≤ out.length * 1000000 ∧ ∀ p ∈ out, p.1 < 18446744073709551616 ∧ p.2.2.size ≤ 1000000)) (fun v5 _ _ => (intOf v5).toNat)
    case atStart => exact ⟨N, ⟨r, true, ⟨#[]⟩, 0, 0, false, true⟩, [], rfl, hul, Lib.hid (Vs.nil _ _), Lib.hid HU.out, HB, Lib.hid (by rw [← HVV.out]; simp only [startS]; rw [HDD.out]), Lib.hid ⟨by simp, by have := HS0.out; simp only [startS] at this; rw [HDD.out] at this; exact this, by show 0 + r.size ≤ _; have := HBB.out; omega, Nat.zero_le _, fun p hp => absurd hp (by simp)⟩⟩
    case round =>
      clear HU HB
      obtain ⟨n, s, out, rfl, hnl, HQ, HU, HB, HV, HP⟩ := hrel
      obtain ⟨r, cb, base, last, size, long, bad⟩ := s
      have HU := Lib.hid (show Rd wr h g r cb base last size long bad from HU.out)
      have c4 := HU.out.rd.c4
      have c5 := HU.out.rd.c5
      have c0 := HU.out.rd.c0
      obtain ⟨A6, m6, rfl⟩ := HQ.out.slice_
      cases bad with
      | true =>
        have HE := Lib.hid (show endS b V = ([], 2) by rw [← HV.out, vers_stop (.inr (.inl rfl))]; rfl)
        cases long with
        | true =>
          by_cases hn0 : n = 0
          · have x0 : decide (0 < (n : Int)) = false := by simp; omega
            have x0n : decide (0 < n) = false := by simp; omega
            clear hn0
            go_wp2
            go_ret2
            rw [HE.out]
            exact ⟨.slice none 0 0, rfl, Vs.nil _ _, by rw [HG.out]; exact HB.out⟩
          · have x0 : decide (0 < (n : Int)) = true := by simp; omega
            have x0n : decide (0 < n) = true := by simp; omega
            clear hn0
            go_wp2
            go_ret2
            rw [HE.out]
            exact ⟨.slice none 0 0, rfl, Vs.nil _ _, by rw [HG.out]; exact HB.out⟩
        | false =>
          by_cases hn0 : n = 0
          · have x0 : decide (0 < (n : Int)) = false := by simp; omega
            have x0n : decide (0 < n) = false := by simp; omega
            clear hn0
            go_wp2
            go_ret2
            rw [HE.out]
            exact ⟨.slice none 0 0, rfl, Vs.nil _ _, by rw [HG.out]; exact HB.out⟩
          · have x0 : decide (0 < (n : Int)) = true := by simp; omega
            have x0n : decide (0 < n) = true := by simp; omega
            clear hn0
            go_wp2
            go_ret2
            rw [HE.out]
            exact ⟨.slice none 0 0, rfl, Vs.nil _ _, by rw [HG.out]; exact HB.out⟩
      | false =>
        cases long with
        | true =>
          have HE := Lib.hid (show endS b V = ([], 3) by rw [← HV.out, vers_stop (.inr (.inr rfl))]; rfl)
          by_cases hn0 : n = 0
          · have x0 : decide (0 < (n : Int)) = false := by simp; omega
            have x0n : decide (0 < n) = false := by simp; omega
            clear hn0
            go_wp2
            go_ret2
            rw [HE.out]
            exact ⟨.slice none 0 0, rfl, Vs.nil _ _, by rw [HG.out]; exact HB.out⟩
          · have x0 : decide (0 < (n : Int)) = true := by simp; omega
            have x0n : decide (0 < n) = true := by simp; omega
            clear hn0
            go_wp2
            go_ret2
            rw [HE.out]
            exact ⟨.slice none 0 0, rfl, Vs.nil _ _, by rw [HG.out]; exact HB.out⟩
        | false =>
          by_cases hn0 : n = 0
          · have x0 : decide (0 < (n : Int)) = false := by simp; omega
            have x0n : decide (0 < n) = false := by simp; omega
            have HV2 := Lib.hid (show V = (⟨r, cb, base, last, size, false, false⟩, out) by rw [← HV.out, vers_stop (.inl hn0)])
            clear hn0
            have hdn := str_none r
            cases cb with
            | true =>
              have HE := Lib.hid (show endS b V = ([], 2) by rw [HV2.out]; rfl)
              go_wp2_with fail
              refine (cur_done _ _ _ _ HU.out.cur).mono ?_
              rintro e wq ⟨rfl, rfl⟩
              go_wp2
              go_ret2
              rw [HE.out]
              exact ⟨.slice none 0 0, rfl, Vs.nil _ _, by rw [HG.out]; exact HB.out⟩
            | false =>
              by_cases hr0 : r.size = 0
              · rw [decide_eq_true hr0] at hdn
                have HR0 := Lib.hid hr0; clear hr0
                have hA0 : ∀ p ∈ out, p.1 < 18446744073709551616 ∧ p.2.2.size ≤ 140737488351232 := fun p hp => ⟨(HP.out.2.2.2.2 p hp).1, Nat.le_trans (HP.out.2.2.2.2 p hp).2 (by decide)⟩
                obtain ⟨A, c, eA, hc, hA⟩ := Vs.arg HQ.out hA0
                clear hA0
                cases eA
                have HA := Lib.hid hA; clear hA
                have HO := Lib.hid (show out.length ≤ 1000 from by have h1 := HP.out.1; have h2 := HP.out.2.1; simp at h2; omega)
                have CB := Lib.hid (fun w hA => chain_bytes_any A6 out.length m6 out w hA HO.out (fun p hp => (HP.out.2.2.2.2 p hp).2))
                by_cases hcb : chainS out = b
                · have HE := Lib.hid (show endS b V = (out, 0) by rw [HV2.out]; exact endS_good rfl rfl rfl HR0.out hcb)
                  rw [hcb] at CB
                  clear hcb
                  go_wp2_with fail
                  refine (cur_done _ _ _ _ HU.out.cur).mono ?_
                  rintro e wq ⟨rfl, rfl⟩
                  go_wp2_with fail
                  refine (CB.out _ HA.out).mono ?_
                  rintro e w5 ⟨rfl, -, hbl⟩
                  have HQ := Lib.hid (HQ.out.below hbl)
                  have HB := Lib.hid (HB.out.trans (hbl.mono (Nat.le_trans (Nat.le_of_eq HG.out.symm) HB.out.size))); clear hbl
                  go_wp2
                  go_ret2
                  rw [HE.out]
                  exact ⟨_, rfl, by rw [HG.out]; exact HQ.out, by rw [HG.out]; exact HB.out⟩
                · have HE := Lib.hid (show endS b V = ([], 2) by rw [HV2.out]; exact endS_off rfl rfl (fun _ _ => hcb))
                  have x1 : ((chainS out).toList == b.toList) = false := by rw [tl, tl]; simpa using fun h => hcb (bl_ext h)
                  have x2 : ¬ (chainS out).toList = b.toList := by rw [tl, tl]; exact fun h => hcb (bl_ext h)
                  clear hcb
                  generalize chainS out = cs at *
                  go_wp2_with fail
                  refine (cur_done _ _ _ _ HU.out.cur).mono ?_
                  rintro e wq ⟨rfl, rfl⟩
                  go_wp2_with fail
                  refine (CB.out _ HA.out).mono ?_
                  rintro e w5 ⟨rfl, -, hbl⟩
                  have HB := Lib.hid (HB.out.trans (hbl.mono (Nat.le_trans (Nat.le_of_eq HG.out.symm) HB.out.size))); clear hbl
                  go_wp2
                  go_ret2
                  rw [HE.out]
                  exact ⟨.slice none 0 0, rfl, Vs.nil _ _, by rw [HG.out]; exact HB.out⟩
              · rw [decide_eq_false hr0] at hdn
                have HE := Lib.hid (show endS b V = ([], 2) by rw [HV2.out]; exact endS_off rfl rfl (fun _ h => absurd h hr0))
                clear hr0
                go_wp2_with fail
                refine (cur_done _ _ _ _ HU.out.cur).mono ?_
                rintro e wq ⟨rfl, rfl⟩
                go_wp2
                go_ret2
                rw [HE.out]
                exact ⟨.slice none 0 0, rfl, Vs.nil _ _, by rw [HG.out]; exact HB.out⟩
          · have x0 : decide (0 < (n : Int)) = true := by simp; omega
            have x0n : decide (0 < n) = true := by simp; omega
            obtain ⟨k, rfl⟩ : ∃ k, n = k + 1 := ⟨n - 1, by omega⟩
            have hw := dec_wrap k (by omega)
            have HV2 := Lib.hid (show versS k (verS ⟨r, cb, base, last, size, false, false⟩).2 (out ++ [(verS ⟨r, cb, base, last, size, false, false⟩).1]) = V by rw [← HV.out, vers_step rfl rfl])
            have hsz := verS_size ⟨r, cb, base, last, size, false, false⟩
            have hp := HP.out
            have ho : out.length + 1 ≤ 200 := by have h1 := hp.1; have h2 := hp.2.1; simp at h2; omega
            have RV := Lib.hid (fun w H => rd_version w h g ⟨r, cb, base, last, size, false, false⟩ H (by have := hp.2.2.1; simp only at this ⊢; omega) (by have := hp.2.2.2.1; simp only at this ⊢; omega) rfl)
            generalize verS ⟨r, cb, base, last, size, false, false⟩ = VS at *
            obtain ⟨pp, s2⟩ := VS
            have HP2 := Lib.hid (show (out ++ [pp]).length + k ≤ N ∧ (s2.bad = true ∨ N ≤ 200) ∧ s2.base.size + s2.r.size ≤ 1000000 ∧ s2.size ≤ (out ++ [pp]).length * 1000000 ∧ ∀ p ∈ out ++ [pp], p.1 < 18446744073709551616 ∧ p.2.2.size ≤ 1000000 from by
              obtain ⟨h1, h2, h3, h4, h5⟩ := hp
              simp only at h1 h2 h3 h4 h5 hsz
              refine ⟨by rw [List.length_append, List.length_singleton]; omega, .inr (by simpa using h2), by omega, by rw [List.length_append, List.length_singleton]; omega, fun p hp => ?_⟩
              rcases List.mem_append.1 hp with h | h
              · exact h5 p h
              · rw [List.mem_singleton.1 h]; exact ⟨hsz.2.2.2.2, by omega⟩)
            have hl32 : (out.length + 1) * 32 ≤ 140737488355328 := by omega
            clear hsz hp ho HP HV
            go_wp2_with fail
            refine (RV.out _ HU.out).mono ?_
            rintro e w5 ⟨rfl, hu, hk⟩
            have HQ := Lib.hid (HQ.out.two (s := ⟨r, cb, base, last, size, false, false⟩) HU.out hk)
            have HB := Lib.hid (HB.out.trans (hk.to_below (Nat.le_trans (Nat.le_of_eq HG.out.symm) HB.out.size) (fun i hi => by rcases hi with rfl | rfl; exact hgh; exact Nat.le_refl _)))
            have HU := Lib.hid hu
            have hbs : g ≤ w5.heap.size := Nat.le_trans (Nat.le_of_eq HG.out.symm) HB.out.size
            clear hu hk RV c0 c4 c5
            go_wp2_with (at_builtin; refine app_v (w0 := w) g rfl (.tmp 46) (.tmp 49) _ out pp rfl rfl rfl HQ.out HB.out hbs hl32 ?_; intro v1 w6 HQ1 HB1 HG1; have HU1 := Lib.hid (Rd.grown HU.out HQ.out HG1.out); obtain ⟨A1, m1, c1, rfl⟩ := HQ1.out.slice3)
            go_roundw
            case rel => exact ⟨k, s2, out ++ [pp], rfl, by omega, HQ1, HU1, HB1, HV2, HP2⟩
            case measure => simp [intOf]
  | false =>
    by_cases h2 : 200 < N
    · have x2 : decide (200 < (N : Int)) = true := by simp; omega
      have HDD := Lib.hid (show (false || decide (200 < N)) = true by simp [h2])
      clear h2
      go_wp2_with fail
      refine (cur_bad _ _ _ _ HU.out.cur).mono ?_
      rintro e wq ⟨rfl, rfl⟩
      go_wp2
      have HU := Lib.hid (HU.out.set5 true)
      have HB := Lib.hid (below_setc (p := ⟨h, 5, none⟩) HB.out hgh (.bool true))
      generalize w3.setCell ⟨h, 5, none⟩ (Value.bool true) = w4 at *
      clear c0 c5 f5
      go_loopw [5, 6] (fun v5 v6 wr => ∃ (n : Nat) (s : RdS) (out : List VerT), v5 = .int .u64 n ∧ n < 18446744073709551616 ∧ Hid (Vs wr g v6 out) ∧ Hid (RdR wr h g s) ∧ Hid (Below g w wr) ∧ Hid (versS n s out = V) ∧ Hid (out.length + n ≤ N ∧ (s.bad = true ∨ N ≤ 200) ∧ s.base.size + s.r.size ≤ 1000000 ∧ s.size ≤ out.length * 1000000 ∧ ∀ p ∈ out, p.1 < 18446744073709551616 ∧ p.2.2.size ≤ 1000000)) (fun v5 _ _ => (intOf v5).toNat)
      case atStart => exact ⟨N, ⟨r, false, ⟨#[]⟩, 0, 0, false, true⟩, [], rfl, hul, Lib.hid (Vs.nil _ _), Lib.hid HU.out, HB, Lib.hid (by rw [← HVV.out]; simp only [startS]; rw [HDD.out]), Lib.hid ⟨by simp, by have := HS0.out; simp only [startS] at this; rw [HDD.out] at this; exact this, by show 0 + r.size ≤ _; have := HBB.out; omega, Nat.zero_le _, fun p hp => absurd hp (by simp)⟩⟩
      case round =>
        clear HU HB
        obtain ⟨n, s, out, rfl, hnl, HQ, HU, HB, HV, HP⟩ := hrel
        obtain ⟨r, cb, base, last, size, long, bad⟩ := s
        have HU := Lib.hid (show Rd wr h g r cb base last size long bad from HU.out)
        have c4 := HU.out.rd.c4
        have c5 := HU.out.rd.c5
        have c0 := HU.out.rd.c0
        obtain ⟨A6, m6, rfl⟩ := HQ.out.slice_
        cases bad with
        | true =>
          have HE := Lib.hid (show endS b V = ([], 2) by rw [← HV.out, vers_stop (.inr (.inl rfl))]; rfl)
          cases long with
          | true =>
            by_cases hn0 : n = 0
            · have x0 : decide (0 < (n : Int)) = false := by simp; omega
              have x0n : decide (0 < n) = false := by simp; omega
              clear hn0
              go_wp2
              go_ret2
              rw [HE.out]
              exact ⟨.slice none 0 0, rfl, Vs.nil _ _, by rw [HG.out]; exact HB.out⟩
            · have x0 : decide (0 < (n : Int)) = true := by simp; omega
              have x0n : decide (0 < n) = true := by simp; omega
              clear hn0
              go_wp2
              go_ret2
              rw [HE.out]
              exact ⟨.slice none 0 0, rfl, Vs.nil _ _, by rw [HG.out]; exact HB.out⟩
          | false =>
            by_cases hn0 : n = 0
            · have x0 : decide (0 < (n : Int)) = false := by simp; omega
              have x0n : decide (0 < n) = false := by simp; omega
              clear hn0
              go_wp2
              go_ret2
              rw [HE.out]
              exact ⟨.slice none 0 0, rfl, Vs.nil _ _, by rw [HG.out]; exact HB.out⟩
            · have x0 : decide (0 < (n : Int)) = true := by simp; omega
              have x0n : decide (0 < n) = true := by simp; omega
              clear hn0
              go_wp2
              go_ret2
              rw [HE.out]
              exact ⟨.slice none 0 0, rfl, Vs.nil _ _, by rw [HG.out]; exact HB.out⟩
        | false =>
          cases long with
          | true =>
            have HE := Lib.hid (show endS b V = ([], 3) by rw [← HV.out, vers_stop (.inr (.inr rfl))]; rfl)
            by_cases hn0 : n = 0
            · have x0 : decide (0 < (n : Int)) = false := by simp; omega
              have x0n : decide (0 < n) = false := by simp; omega
              clear hn0
              go_wp2
              go_ret2
              rw [HE.out]
              exact ⟨.slice none 0 0, rfl, Vs.nil _ _, by rw [HG.out]; exact HB.out⟩
            · have x0 : decide (0 < (n : Int)) = true := by simp; omega
              have x0n : decide (0 < n) = true := by simp; omega
              clear hn0
              go_wp2
              go_ret2
              rw [HE.out]
              exact ⟨.slice none 0 0, rfl, Vs.nil _ _, by rw [HG.out]; exact HB.out⟩
          | false =>
            by_cases hn0 : n = 0
            · have x0 : decide (0 < (n : Int)) = false := by simp; omega
              have x0n : decide (0 < n) = false := by simp; omega
              have HV2 := Lib.hid (show V = (⟨r, cb, base, last, size, false, false⟩, out) by rw [← HV.out, vers_stop (.inl hn0)])
              clear hn0
              have hdn := str_none r
              cases cb with
              | true =>
                have HE := Lib.hid (show endS b V = ([], 2) by rw [HV2.out]; rfl)
                go_wp2_with fail
                refine (cur_done _ _ _ _ HU.out.cur).mono ?_
                rintro e wq ⟨rfl, rfl⟩
                go_wp2
                go_ret2
                rw [HE.out]
                exact ⟨.slice none 0 0, rfl, Vs.nil _ _, by rw [HG.out]; exact HB.out⟩
              | false =>
                by_cases hr0 : r.size = 0
                · rw [decide_eq_true hr0] at hdn
                  have HR0 := Lib.hid hr0; clear hr0
                  have hA0 : ∀ p ∈ out, p.1 < 18446744073709551616 ∧ p.2.2.size ≤ 140737488351232 := fun p hp => ⟨(HP.out.2.2.2.2 p hp).1, Nat.le_trans (HP.out.2.2.2.2 p hp).2 (by decide)⟩
                  obtain ⟨A, c, eA, hc, hA⟩ := Vs.arg HQ.out hA0
                  clear hA0
                  cases eA
                  have HA := Lib.hid hA; clear hA
                  have HO := Lib.hid (show out.length ≤ 1000 from by have h1 := HP.out.1; have h2 := HP.out.2.1; simp at h2; omega)
                  have CB := Lib.hid (fun w hA => chain_bytes_any A6 out.length m6 out w hA HO.out (fun p hp => (HP.out.2.2.2.2 p hp).2))
                  by_cases hcb : chainS out = b
                  · have HE := Lib.hid (show endS b V = (out, 0) by rw [HV2.out]; exact endS_good rfl rfl rfl HR0.out hcb)
                    rw [hcb] at CB
                    clear hcb
                    go_wp2_with fail
                    refine (cur_done _ _ _ _ HU.out.cur).mono ?_
                    rintro e wq ⟨rfl, rfl⟩
                    go_wp2_with fail
                    refine (CB.out _ HA.out).mono ?_
                    rintro e w5 ⟨rfl, -, hbl⟩
                    have HQ := Lib.hid (HQ.out.below hbl)
                    have HB := Lib.hid (HB.out.trans (hbl.mono (Nat.le_trans (Nat.le_of_eq HG.out.symm) HB.out.size))); clear hbl
                    go_wp2
                    go_ret2
                    rw [HE.out]
                    exact ⟨_, rfl, by rw [HG.out]; exact HQ.out, by rw [HG.out]; exact HB.out⟩
                  · have HE := Lib.hid (show endS b V = ([], 2) by rw [HV2.out]; exact endS_off rfl rfl (fun _ _ => hcb))
                    have x1 : ((chainS out).toList == b.toList) = false := by rw [tl, tl]; simpa using fun h => hcb (bl_ext h)
                    have x2 : ¬ (chainS out).toList = b.toList := by rw [tl, tl]; exact fun h => hcb (bl_ext h)
                    clear hcb
                    generalize chainS out = cs at *
                    go_wp2_with fail
                    refine (cur_done _ _ _ _ HU.out.cur).mono ?_
                    rintro e wq ⟨rfl, rfl⟩
                    go_wp2_with fail
                    refine (CB.out _ HA.out).mono ?_
                    rintro e w5 ⟨rfl, -, hbl⟩
                    have HB := Lib.hid (HB.out.trans (hbl.mono (Nat.le_trans (Nat.le_of_eq HG.out.symm) HB.out.size))); clear hbl
                    go_wp2
                    go_ret2
                    rw [HE.out]
                    exact ⟨.slice none 0 0, rfl, Vs.nil _ _, by rw [HG.out]; exact HB.out⟩
                · rw [decide_eq_false hr0] at hdn
                  have HE := Lib.hid (show endS b V = ([], 2) by rw [HV2.out]; exact endS_off rfl rfl (fun _ h => absurd h hr0))
                  clear hr0
                  go_wp2_with fail
                  refine (cur_done _ _ _ _ HU.out.cur).mono ?_
                  rintro e wq ⟨rfl, rfl⟩
                  go_wp2
                  go_ret2
                  rw [HE.out]
                  exact ⟨.slice none 0 0, rfl, Vs.nil _ _, by rw [HG.out]; exact HB.out⟩
            · have x0 : decide (0 < (n : Int)) = true := by simp; omega
              have x0n : decide (0 < n) = true := by simp; omega
              obtain ⟨k, rfl⟩ : ∃ k, n = k + 1 := ⟨n - 1, by omega⟩
              have hw := dec_wrap k (by omega)
              have HV2 := Lib.hid (show versS k (verS ⟨r, cb, base, last, size, false, false⟩).2 (out ++ [(verS ⟨r, cb, base, last, size, false, false⟩).1]) = V by rw [← HV.out, vers_step rfl rfl])
              have hsz := verS_size ⟨r, cb, base, last, size, false, false⟩
              have hp := HP.out
              have ho : out.length + 1 ≤ 200 := by have h1 := hp.1; have h2 := hp.2.1; simp at h2; omega
              have RV := Lib.hid (fun w H => rd_version w h g ⟨r, cb, base, last, size, false, false⟩ H (by have := hp.2.2.1; simp only at this ⊢; omega) (by have := hp.2.2.2.1; simp only at this ⊢; omega) rfl)
              generalize verS ⟨r, cb, base, last, size, false, false⟩ = VS at *
              obtain ⟨pp, s2⟩ := VS
              have HP2 := Lib.hid (show (out ++ [pp]).length + k ≤ N ∧ (s2.bad = true ∨ N ≤ 200) ∧ s2.base.size + s2.r.size ≤ 1000000 ∧ s2.size ≤ (out ++ [pp]).length * 1000000 ∧ ∀ p ∈ out ++ [pp], p.1 < 18446744073709551616 ∧ p.2.2.size ≤ 1000000 from by
                obtain ⟨h1, h2, h3, h4, h5⟩ := hp
                simp only at h1 h2 h3 h4 h5 hsz
                refine ⟨by rw [List.length_append, List.length_singleton]; omega, .inr (by simpa using h2), by omega, by rw [List.length_append, List.length_singleton]; omega, fun p hp => ?_⟩
                rcases List.mem_append.1 hp with h | h
                · exact h5 p h
                · rw [List.mem_singleton.1 h]; exact ⟨hsz.2.2.2.2, by omega⟩)
              have hl32 : (out.length + 1) * 32 ≤ 140737488355328 := by omega
              clear hsz hp ho HP HV
              go_wp2_with fail
              refine (RV.out _ HU.out).mono ?_
              rintro e w5 ⟨rfl, hu, hk⟩
              have HQ := Lib.hid (HQ.out.two (s := ⟨r, cb, base, last, size, false, false⟩) HU.out hk)
              have HB := Lib.hid (HB.out.trans (hk.to_below (Nat.le_trans (Nat.le_of_eq HG.out.symm) HB.out.size) (fun i hi => by rcases hi with rfl | rfl; exact hgh; exact Nat.le_refl _)))
              have HU := Lib.hid hu
              have hbs : g ≤ w5.heap.size := Nat.le_trans (Nat.le_of_eq HG.out.symm) HB.out.size
              clear hu hk RV c0 c4 c5
              go_wp2_with (at_builtin; refine app_v (w0 := w) g rfl (.tmp 46) (.tmp 49) _ out pp rfl rfl rfl HQ.out HB.out hbs hl32 ?_; intro v1 w6 HQ1 HB1 HG1; have HU1 := Lib.hid (Rd.grown HU.out HQ.out HG1.out); obtain ⟨A1, m1, c1, rfl⟩ := HQ1.out.slice3)
              go_roundw
              case rel => exact ⟨k, s2, out ++ [pp], rfl, by omega, HQ1, HU1, HB1, HV2, HP2⟩
              case measure => simp [intOf]
    · have x2 : decide (200 < (N : Int)) = false := by simp; omega
      have HDD := Lib.hid (show (false || decide (200 < N)) = false by simp; omega)
      clear h2
      go_wp2_with fail
      refine (cur_bad _ _ _ _ HU.out.cur).mono ?_
      rintro e wq ⟨rfl, rfl⟩
      go_wp2
      have HU := Lib.hid (HU.out.set5 false)
      have HB := Lib.hid (below_setc (p := ⟨h, 5, none⟩) HB.out hgh (.bool false))
      generalize w3.setCell ⟨h, 5, none⟩ (Value.bool false) = w4 at *
      clear c0 c5 f5
      go_loopw [5, 6] (fun v5 v6 wr => ∃ (n : Nat) (s : RdS) (out : List VerT), v5 = .int .u64 n ∧ n < 18446744073709551616 ∧ Hid (Vs wr g v6 out) ∧ Hid (RdR wr h g s) ∧ Hid (Below g w wr) ∧ Hid (versS n s out = V) ∧ Hid (out.length + n ≤ N ∧ (s.bad = true ∨ N ≤ 200) ∧ s.base.size + s.r.size ≤ 1000000 ∧ s.size ≤ out.length * 1000000 ∧ ∀ p ∈ out, p.1 < 18446744073709551616 ∧ p.2.2.size ≤ 1000000)) (fun v5 _ _ => (intOf v5).toNat)
      case atStart => exact ⟨N, ⟨r, false, ⟨#[]⟩, 0, 0, false, false⟩, [], rfl, hul, Lib.hid (Vs.nil _ _), Lib.hid HU.out, HB, Lib.hid (by rw [← HVV.out]; simp only [startS]; rw [HDD.out]), Lib.hid ⟨by simp, by have := HS0.out; simp only [startS] at this; rw [HDD.out] at this; exact this, by show 0 + r.size ≤ _; have := HBB.out; omega, Nat.zero_le _, fun p hp => absurd hp (by simp)⟩⟩
      case round =>
        clear HU HB
        obtain ⟨n, s, out, rfl, hnl, HQ, HU, HB, HV, HP⟩ := hrel
        obtain ⟨r, cb, base, last, size, long, bad⟩ := s
        have HU := Lib.hid (show Rd wr h g r cb base last size long bad from HU.out)
        have c4 := HU.out.rd.c4
        have c5 := HU.out.rd.c5
        have c0 := HU.out.rd.c0
        obtain ⟨A6, m6, rfl⟩ := HQ.out.slice_
        cases bad with
        | true =>
          have HE := Lib.hid (show endS b V = ([], 2) by rw [← HV.out, vers_stop (.inr (.inl rfl))]; rfl)
          cases long with
          | true =>
            by_cases hn0 : n = 0
            · have x0 : decide (0 < (n : Int)) = false := by simp; omega
              have x0n : decide (0 < n) = false := by simp; omega
              clear hn0
              go_wp2
              go_ret2
              rw [HE.out]
              exact ⟨.slice none 0 0, rfl, Vs.nil _ _, by rw [HG.out]; exact HB.out⟩
            · have x0 : decide (0 < (n : Int)) = true := by simp; omega
              have x0n : decide (0 < n) = true := by simp; omega
              clear hn0
              go_wp2
              go_ret2
              rw [HE.out]
              exact ⟨.slice none 0 0, rfl, Vs.nil _ _, by rw [HG.out]; exact HB.out⟩
          | false =>
            by_cases hn0 : n = 0
            · have x0 : decide (0 < (n : Int)) = false := by simp; omega
              have x0n : decide (0 < n) = false := by simp; omega
              clear hn0
              go_wp2
              go_ret2
              rw [HE.out]
              exact ⟨.slice none 0 0, rfl, Vs.nil _ _, by rw [HG.out]; exact HB.out⟩
            · have x0 : decide (0 < (n : Int)) = true := by simp; omega
              have x0n : decide (0 < n) = true := by simp; omega
              clear hn0
              go_wp2
              go_ret2
              rw [HE.out]
              exact ⟨.slice none 0 0, rfl, Vs.nil _ _, by rw [HG.out]; exact HB.out⟩
        | false =>
          cases long with
          | true =>
            have HE := Lib.hid (show endS b V = ([], 3) by rw [← HV.out, vers_stop (.inr (.inr rfl))]; rfl)
            by_cases hn0 : n = 0
            · have x0 : decide (0 < (n : Int)) = false := by simp; omega
              have x0n : decide (0 < n) = false := by simp; omega
              clear hn0
              go_wp2
              go_ret2
              rw [HE.out]
              exact ⟨.slice none 0 0, rfl, Vs.nil _ _, by rw [HG.out]; exact HB.out⟩
            · have x0 : decide (0 < (n : Int)) = true := by simp; omega
              have x0n : decide (0 < n) = true := by simp; omega
              clear hn0
              go_wp2
              go_ret2
              rw [HE.out]
              exact ⟨.slice none 0 0, rfl, Vs.nil _ _, by rw [HG.out]; exact HB.out⟩
          | false =>
            by_cases hn0 : n = 0
            · have x0 : decide (0 < (n : Int)) = false := by simp; omega
              have x0n : decide (0 < n) = false := by simp; omega
              have HV2 := Lib.hid (show V = (⟨r, cb, base, last, size, false, false⟩, out) by rw [← HV.out, vers_stop (.inl hn0)])
              clear hn0
              have hdn := str_none r
              cases cb with
              | true =>
                have HE := Lib.hid (show endS b V = ([], 2) by rw [HV2.out]; rfl)
                go_wp2_with fail
                refine (cur_done _ _ _ _ HU.out.cur).mono ?_
                rintro e wq ⟨rfl, rfl⟩
                go_wp2
                go_ret2
                rw [HE.out]
                exact ⟨.slice none 0 0, rfl, Vs.nil _ _, by rw [HG.out]; exact HB.out⟩
              | false =>
                by_cases hr0 : r.size = 0
                · rw [decide_eq_true hr0] at hdn
                  have HR0 := Lib.hid hr0; clear hr0
                  have hA0 : ∀ p ∈ out, p.1 < 18446744073709551616 ∧ p.2.2.size ≤ 140737488351232 := fun p hp => ⟨(HP.out.2.2.2.2 p hp).1, Nat.le_trans (HP.out.2.2.2.2 p hp).2 (by decide)⟩
                  obtain ⟨A, c, eA, hc, hA⟩ := Vs.arg HQ.out hA0
                  clear hA0
                  cases eA
                  have HA := Lib.hid hA; clear hA
                  have HO := Lib.hid (show out.length ≤ 1000 from by have h1 := HP.out.1; have h2 := HP.out.2.1; simp at h2; omega)
                  have CB := Lib.hid (fun w hA => chain_bytes_any A6 out.length m6 out w hA HO.out (fun p hp => (HP.out.2.2.2.2 p hp).2))
                  by_cases hcb : chainS out = b
                  · have HE := Lib.hid (show endS b V = (out, 0) by rw [HV2.out]; exact endS_good rfl rfl rfl HR0.out hcb)
                    rw [hcb] at CB
                    clear hcb
                    go_wp2_with fail
                    refine (cur_done _ _ _ _ HU.out.cur).mono ?_
                    rintro e wq ⟨rfl, rfl⟩
                    go_wp2_with fail
                    refine (CB.out _ HA.out).mono ?_
                    rintro e w5 ⟨rfl, -, hbl⟩
                    have HQ := Lib.hid (HQ.out.below hbl)
                    have HB := Lib.hid (HB.out.trans (hbl.mono (Nat.le_trans (Nat.le_of_eq HG.out.symm) HB.out.size))); clear hbl
                    go_wp2
                    go_ret2
                    rw [HE.out]
                    exact ⟨_, rfl, by rw [HG.out]; exact HQ.out, by rw [HG.out]; exact HB.out⟩
                  · have HE := Lib.hid (show endS b V = ([], 2) by rw [HV2.out]; exact endS_off rfl rfl (fun _ _ => hcb))
                    have x1 : ((chainS out).toList == b.toList) = false := by rw [tl, tl]; simpa using fun h => hcb (bl_ext h)
                    have x2 : ¬ (chainS out).toList = b.toList := by rw [tl, tl]; exact fun h => hcb (bl_ext h)
                    clear hcb
                    generalize chainS out = cs at *
                    go_wp2_with fail
                    refine (cur_done _ _ _ _ HU.out.cur).mono ?_
                    rintro e wq ⟨rfl, rfl⟩
                    go_wp2_with fail
                    refine (CB.out _ HA.out).mono ?_
                    rintro e w5 ⟨rfl, -, hbl⟩
                    have HB := Lib.hid (HB.out.trans (hbl.mono (Nat.le_trans (Nat.le_of_eq HG.out.symm) HB.out.size))); clear hbl
                    go_wp2
                    go_ret2
                    rw [HE.out]
                    exact ⟨.slice none 0 0, rfl, Vs.nil _ _, by rw [HG.out]; exact HB.out⟩
                · rw [decide_eq_false hr0] at hdn
                  have HE := Lib.hid (show endS b V = ([], 2) by rw [HV2.out]; exact endS_off rfl rfl (fun _ h => absurd h hr0))
                  clear hr0
                  go_wp2_with fail
                  refine (cur_done _ _ _ _ HU.out.cur).mono ?_
                  rintro e wq ⟨rfl, rfl⟩
                  go_wp2
                  go_ret2
                  rw [HE.out]
                  exact ⟨.slice none 0 0, rfl, Vs.nil _ _, by rw [HG.out]; exact HB.out⟩
            · have x0 : decide (0 < (n : Int)) = true := by simp; omega
              have x0n : decide (0 < n) = true := by simp; omega
              obtain ⟨k, rfl⟩ : ∃ k, n = k + 1 := ⟨n - 1, by omega⟩
              have hw := dec_wrap k (by omega)
              have HV2 := Lib.hid (show versS k (verS ⟨r, cb, base, last, size, false, false⟩).2 (out ++ [(verS ⟨r, cb, base, last, size, false, false⟩).1]) = V by rw [← HV.out, vers_step rfl rfl])
              have hsz := verS_size ⟨r, cb, base, last, size, false, false⟩
              have hp := HP.out
              have ho : out.length + 1 ≤ 200 := by have h1 := hp.1; have h2 := hp.2.1; simp at h2; omega
              have RV := Lib.hid (fun w H => rd_version w h g ⟨r, cb, base, last, size, false, false⟩ H (by have := hp.2.2.1; simp only at this ⊢; omega) (by have := hp.2.2.2.1; simp only at this ⊢; omega) rfl)
              generalize verS ⟨r, cb, base, last, size, false, false⟩ = VS at *
              obtain ⟨pp, s2⟩ := VS
              have HP2 := Lib.hid (show (out ++ [pp]).length + k ≤ N ∧ (s2.bad = true ∨ N ≤ 200) ∧ s2.base.size + s2.r.size ≤ 1000000 ∧ s2.size ≤ (out ++ [pp]).length * 1000000 ∧ ∀ p ∈ out ++ [pp], p.1 < 18446744073709551616 ∧ p.2.2.size ≤ 1000000 from by
                obtain ⟨h1, h2, h3, h4, h5⟩ := hp
                simp only at h1 h2 h3 h4 h5 hsz
                refine ⟨by rw [List.length_append, List.length_singleton]; omega, .inr (by simpa using h2), by omega, by rw [List.length_append, List.length_singleton]; omega, fun p hp => ?_⟩
                rcases List.mem_append.1 hp with h | h
                · exact h5 p h
                · rw [List.mem_singleton.1 h]; exact ⟨hsz.2.2.2.2, by omega⟩)
              have hl32 : (out.length + 1) * 32 ≤ 140737488355328 := by omega
              clear hsz hp ho HP HV
              go_wp2_with fail
              refine (RV.out _ HU.out).mono ?_
              rintro e w5 ⟨rfl, hu, hk⟩
              have HQ := Lib.hid (HQ.out.two (s := ⟨r, cb, base, last, size, false, false⟩) HU.out hk)
              have HB := Lib.hid (HB.out.trans (hk.to_below (Nat.le_trans (Nat.le_of_eq HG.out.symm) HB.out.size) (fun i hi => by rcases hi with rfl | rfl; exact hgh; exact Nat.le_refl _)))
              have HU := Lib.hid hu
              have hbs : g ≤ w5.heap.size := Nat.le_trans (Nat.le_of_eq HG.out.symm) HB.out.size
              clear hu hk RV c0 c4 c5
              go_wp2_with (at_builtin; refine app_v (w0 := w) g rfl (.tmp 46) (.tmp 49) _ out pp rfl rfl rfl HQ.out HB.out hbs hl32 ?_; intro v1 w6 HQ1 HB1 HG1; have HU1 := Lib.hid (Rd.grown HU.out HQ.out HG1.out); obtain ⟨A1, m1, c1, rfl⟩ := HQ1.out.slice3)
              go_roundw
              case rel => exact ⟨k, s2, out ++ [pp], rfl, by omega, HQ1, HU1, HB1, HV2, HP2⟩
              case measure => simp [intOf]
end Go.Proofs.Ytmglkgcogfhabaa.My
