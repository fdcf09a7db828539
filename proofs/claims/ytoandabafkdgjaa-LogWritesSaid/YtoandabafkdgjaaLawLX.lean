/- The law LogWrites walked: the law. -/
import Derived.Test.YtoandabafkdgjaaLawLW
namespace Go.Proofs.Ytoandabafkdgjaa.My
set_option linter.unusedSimpArgs false
set_option linter.unusedVariables false
open Go.RowKit Go.Proofs.YtoandabafkdgjaaW.PrintWords Go.Proofs.YtoandabafkdgjaaW.PrintLast Go.Proofs.Ytoandabafkdgjaa.Pm

theorem run_mkz {o : Oper} {a : Act} {W : World} {m : Nat} {X : Int} (x y : Operand) (ho : o.op = .makeSlice 30 x y) (hx : a.eval x = .int .i64 X) (hy : a.eval y = .int .i64 X) (hX : X = (m : Int)) (hm : m ≤ 1000000) :
    (execOp a.eval o).run Try.prog W = .ok (.value (.slice (some ⟨W.heap.size, 0, none⟩) m m)) (W.alloc (.cells (madeCells #[Value.int .u8 0] m) 5)) := by
  subst hX
  have h := run_make_row' (P := Try.prog) 30 5 (.int .u8 0) 1 Try.underlying30 info_u8 rfl .i64 .i64 m (by omega) (by omega) W
  unfold execOp
  simp only [ho, hx, hy, Sem.run_bind, h, Result.andThen_ok, Sem.run_pure]
theorem zstr {W : World} {g m : Nat} (hg : W.heap[g]? = some (.cells (madeCells #[Value.int .u8 0] m) 5 (0, 0))) : (convert 30 9 (.slice (some ⟨g, 0, none⟩) m m)).run Try.prog W = .ok (.string ⟨(List.replicate m (0 : UInt8)).toArray⟩) W := by
  have h := (zero_row hg).str m
  rw [List.length_replicate] at h
  exact h
set_option maxRecDepth 100000 in
set_option maxHeartbeats 16000000 in
theorem log_writes_walk (a0 : Nat) (A : Option Addr) (n c : Nat) (l : List ByteArray) (w : World) (ha0 : a0 < 256) (hA : RowF w 1 strC A n l) (hn : n ≤ 140737488351232) :
    Calls Try.prog 6 #[.int .u8 (a0 : Int), .slice A n c] w fun e w' => e = .returned (.bool true) ∧ Below w.heap.size w w' := by
  have AW := Lib.hid awake08
  have LF := Lib.hid (fun (w1 : World) (hb : Below w.heap.size w w1) => (show Calls Try.prog 22 #[.slice A n c, .int .i64 20, .int .i64 200] w1 (fun e w' => ∃ b : Bool, e = .returned (.bool b) ∧ (b = true → n ≤ 20 ∧ ∀ x ∈ l, x.size ≤ 200) ∧ w' = w1) from rfew08_any A n c l 20 200 w1 (hA.below hb) hn (by decide) (by decide)))
  obtain ⟨N, hN⟩ : ∃ N, a0 % 41 = N := ⟨_, rfl⟩
  have x1 : (a0 : Int) % 41 = (N : Int) := by omega
  have x2 : Int.tmod (a0 : Int) 41 = (N : Int) := by rw [Int.tmod_eq_emod_of_nonneg (by omega)]; exact x1
  have hN40 : N ≤ 40 := by omega
  have hNN : newN (N : Int) = N := by unfold newN; omega
  obtain ⟨n1, n2, n3, n4, n5, n6⟩ := new_opened (N : Int)
  rw [hNN] at n4 n6
  have HNE := Lib.hid (new_open (N : Int))
  have DN := Lib.hid (fun w => dk_new (N : Int) w)
  have OPN := Lib.hid (fun (w : World) (base h : Nat) (V W : Value) (k : Dk w base h V W (newS (N : Int))) (hb : base ≤ w.heap.size) => open_any k (newS_ok _) rfl rfl (Nat.zero_le _) hb)
  rw [HNE.out.1, HNE.out.2] at OPN
  have HS := Lib.hid (And.intro n1 (And.intro n2 (And.intro n3 (And.intro n4 (And.intro n5 n6)))))
  clear n1 n2 n3 n4 n5 n6 hN ha0 HNE hNN
  generalize openS (newS (N : Int)) = d0 at *
  generalize newS (N : Int) = ds at *
  have CM := Lib.hid crc_make
  have hi1 : (Try.prog.info? 53).map (·.size) = some tab.size := by unfold tab; rw [tabTo_size]; kernel_rfl
  have h0 : (tabTo 0).size = tab.size := by unfold tab; rw [tabTo_size, tabTo_size]
  have h1 : tab.all (·.oneCell') = true := tabTo_one 256
  have hz := zeroTable
  have HI := Lib.hid hi1; clear hi1
  have H0 := Lib.hid h0; clear h0
  have H1 := Lib.hid h1; clear h1
  have LE := Lib.hid (fun (w : World) (g h : Nat) (e : Int) (k : IsLg tab w g h e false) => lg_end k)
  have LO := Lib.hid (fun (w : World) (g h : Nat) (e : Int) (k : IsLg tab w g h e false) => lg_over k)
  have AP0 := Lib.hid (fun (w : World) (g h e : Nat) (k : IsLg tab w g h e false) (r : ByteArray) hr => append_long k r hr)
  have AP1 := Lib.hid (fun (w : World) (base g h e : Nat) (V W : Value) (d : DkS) (k : Dk w base h V W d) (l : IsLg tab w g h e false) ho (r : ByteArray) hr he hf => append_full k l ho r hr he hf)
  have AP2 := Lib.hid (fun (w : World) (base g h e : Nat) (V W : Value) (d : DkS) (k : Dk w base h V W d) (l : IsLg tab w g h e false) ho hgo hf hl hbw hgb (r : ByteArray) hr hful => append_ok k l ho hgo hf hl hbw hgb r hr hful)
  have OP2 := Lib.hid (fun (w : World) (base h : Nat) (V W : Value) (d : DkS) (k : Dk w base h V W d) ho hg hf hl hbw => open_any k ho hg hf hl hbw)
  have JAP := Lib.hid (fun w wr wx h gt g N B0 i V wv W' W2 all r want d' d2 j k hd hV hgt hr hfit k2 hu hwl hl hy hb => @LwJ.appended w wr wx h gt g N B0 i V wv W' W2 all r want d' d2 j k hd hV hgt hr hfit k2 hu hwl hl hy hb)
  have HA := Lib.hid (fun (w1 : World) (hb : Below w.heap.size w w1) => hA.below hb)
  have HLN := Lib.hid hA.1
  clear hA
  generalize tab = T at *
  generalize tabTo 0 = T0 at *
  go_enter Try.func6, Try.ntmps6
  go_wp2_with fail
  refine (AW.out _).mono ?_
  rintro e w1 ⟨rfl, hb⟩
  have HB := Lib.hid hb; clear hb
  go_wp2_with fail
  refine (LF.out _ HB.out).mono ?_
  rintro e w2 ⟨b, rfl, hfit, rfl⟩
  cases b with
  | false =>
    clear hfit
    go_wp2_with fail
    refine (AW.out _).mono ?_
    rintro e w3 ⟨rfl, hb⟩
    replace HB := Lib.hid (HB.out.trans (hb.mono HB.out.size))
    go_wp2
    go_ret
    exact ⟨rfl, HB.out⟩
  | true =>
    have HFT := Lib.hid (hfit rfl); clear hfit
    go_wp2_with fail
    refine (DN.out _).mono ?_
    rintro e w3 ⟨h, V, W, rfl, hk, hb⟩
    have HK := Lib.hid (hk.lower HB.out.size)
    replace HB := Lib.hid (HB.out.trans (hb.mono HB.out.size)); clear hb hk
    go_wp2_with fail
    refine (CM.out _).mono ?_
    rintro e w4 ⟨rfl, hb⟩
    replace HK := Lib.hid (HK.out.below hb)
    replace HB := Lib.hid (HB.out.trans (hb.mono HB.out.size)); clear hb
    have b0 := blk_new w4 (.cells T0 53)
    have B0 := Lib.hid b0; clear b0
    have KT := Lib.hid (blk_new w4 (.cells T 53))
    have hba := below_alloc (Below.refl _ w4) (.cells T 53)
    replace HK := Lib.hid (HK.out.below hba)
    have HGT := Lib.hid (blk_lt KT.out)
    have HB5 := Lib.hid (HB.out.trans (hba.mono HB.out.size)); clear hba
    go_wp2_with (first | (refine wpList_store_row rfl 53 _ _ rfl w4.heap.size T rfl rfl 53 T0 B0.out HI.out H0.out H1.out ?_; rw [World.setRow_alloc_new]) | refine wpList_load_row rfl 53 _ rfl w4.heap.size rfl 53 T (0, 0) _ KT.out Try.underlying53 rfl HI.out ?_ | fail)
    generalize w4.alloc (.cells T 53) = w5 at *
    obtain ⟨gt, hgt⟩ : ∃ gt, w4.heap.size = gt := ⟨_, rfl⟩
    rw [hgt] at KT HGT ⊢
    clear hgt HB B0
    have HB := HB5
    refine (OPN.out _ _ _ _ _ HK.out HB5.out.size).mono ?_
    rintro e w6 ⟨⟨g, v, rfl, hlg, hgg, hsl, hk⟩, hby, hb⟩
    obtain ⟨Av, cv, rfl⟩ := Kd.R_slice hsl
    have HVL := Lib.hid HK.out.vlt
    have HGG := Lib.hid (show gt ≠ g from fun e => by have := HGT.out; omega)
    have HGB := Lib.hid (Nat.le_trans HB5.out.size hgg)
    obtain ⟨n1, n2, n3, n4, n5, n6⟩ := HS.out
    have HJ := Lib.hid (show LwJ T w h V gt g N w5.heap.size 0 ⟨#[]⟩ [] (.slice none 0 0) w6 from ⟨⟨_, d0, hk, n1, n2, n3, n4, n6, by rw [n5]; exact Nat.le_refl _⟩, Nat.zero_le _, rfl, (fun r hr => (by cases hr)), hlg, Kd.R_nil _ _ _ _ _, Nat.le_refl _, hby.rowD HK.out KT.out (by decide) (by decide) (by decide), HB5.out.trans hb, hby.1⟩)
    have HLG := Lib.hid hlg
    have HB50 := Lib.hid HB5.out.size
    clear hlg hgg hsl hk hby hb n1 n2 n3 n4 n5 n6 HK KT HGT HB HB5 hz
    go_wp2_with fail
    refine (LE.out _ _ _ _ HLG.out).mono ?_
    rintro e w7 ⟨rfl, rfl⟩
    clear HLG
    go_wp2
    go_loopw [11, 12, 13] (fun v11 v12 v13 wr => ∃ (i : Nat) (all : ByteArray) (want : List ByteArray), v11 = .string all ∧ v13 = .int .i64 (i : Int) ∧ i ≤ n ∧ Hid (LwJ T w h V gt g N w5.heap.size i all want v12 wr)) (fun _ _ v13 _ => n - (intOf v13).toNat)
    case atStart => exact ⟨0, ⟨#[]⟩, [], rfl, rfl, Nat.zero_le _, HJ⟩
    case round =>
      clear HJ
      obtain ⟨i, all, want, rfl, rfl, hi, HJ⟩ := hrel
      by_cases hlt : i < n
      · have y1 : decide ((i : Int) < (n : Int)) = true := decide_eq_true (by omega)
        obtain ⟨bb, off, hj, rfl, hbW, hc⟩ := str_cell (HA.out w (Below.refl _ _)) hlt
        have hr200 := HFT.out.2 _ (List.getElem_mem hj)
        obtain ⟨r, hr⟩ : ∃ r, l[i] = r := ⟨_, rfl⟩
        rw [hr] at hc hr200
        have HC := Lib.hid (fun (wx : World) (hb : Below w.heap.size w wx) => show wx.cell? ⟨bb, off + i, none⟩ = some (.string r) from (hb.cell (p := ⟨bb, _, none⟩) hbW).trans hc)
        have RM := Lib.hid (fun w => rmade_any r w (by omega))
        have hrs := recS_size r
        have c0 := HC.out _ HJ.out.bel
        have HW := Lib.hid (succ_w hlt (show n ≤ 140737488351232 by omega))
        have hi20 : i < 20 := by have := HFT.out.1; omega
        have HLT := Lib.hid hlt
        clear hj hbW hc hr
        by_cases hr0 : r.size = 0
        · have AP := Lib.hid (AP0.out wr g h _ HJ.out.lg r (.inl (by omega)))
          have he : r.toList.isEmpty = true := by rw [str_e]; exact decide_eq_true hr0
          clear hr0 hr200
          generalize recS r = R at *
          go_wp2_with fail
          refine AP.out.mono ?_
          rintro e wx ⟨rfl, rfl⟩
          go_wp2_with fail
          refine (RM.out _).mono ?_
          rintro e wy ⟨rfl, hb⟩
          have HJ2 := Lib.hid (HJ.out.below hb); clear hb c0
          have c0 := HC.out _ HJ2.out.bel
          have LE2 := Lib.hid (LE.out _ _ _ _ HJ2.out.lg)
          go_wp2_with fail
          refine LE2.out.mono ?_
          rintro e wz ⟨rfl, rfl⟩
          have hw := HW.out
          go_wp2
          go_roundw
          case rel => exact ⟨i + 1, all, want, rfl, by go_num, HLT.out, Lib.hid HJ2.out.next⟩
          case measure => first | exact up_w HLT.out hw | exact up_w2 HLT.out
        have he : r.toList.isEmpty = false := by rw [str_e]; exact decide_eq_false hr0
        obtain ⟨W', d', hk, o1, o2, o3, o4, o5, o6⟩ := HJ.out.dk
        have hfitA := HJ.out.fit
        by_cases hful : 64 * N - all.size < 6 + r.size
        · have AP := Lib.hid (AP1.out wr w.heap.size g h all.size V W' d' hk HJ.out.lg o1 r (by omega) (by rw [o4]; exact hfitA) (by rw [o4]; exact hful))
          obtain ⟨R, hR⟩ : ∃ R, recS r = R := ⟨_, rfl⟩
          rw [hR] at RM hrs
          have ball : all.size ≤ 2560 := by omega
          have bR : R.size ≤ 206 := by omega
          have y3 : decide (64 * (N : Int) < (all.size : Int) + (R.size : Int)) = true := decide_eq_true (by omega)
          have y3n : decide (64 * N < all.size + R.size) = true := decide_eq_true (by omega)
          have HF := Lib.hid (And.intro hful hfitA)
          have YY := Lib.hid (And.intro y3 y3n)
          clear hful hfitA hR hr200 hr0 o1 o2 o3 o4 o5 o6 hk y3 y3n hrs
          go_wp2_with fail
          refine AP.out.mono ?_
          rintro e wx ⟨rfl, hb⟩
          have HJ1 := Lib.hid (HJ.out.below hb); clear hb c0
          have c0 := HC.out _ HJ1.out.bel
          go_wp2_with fail
          refine (RM.out _).mono ?_
          rintro e wy ⟨rfl, hb⟩
          have HJ2 := Lib.hid (HJ1.out.below hb); clear hb c0
          have c0 := HC.out _ HJ2.out.bel
          have LE2 := Lib.hid (LE.out _ _ _ _ HJ2.out.lg)
          obtain ⟨y3, y3n⟩ := YY.out
          go_wp2_with fail
          refine LE2.out.mono ?_
          rintro e wz ⟨rfl, rfl⟩
          have hw := HW.out
          go_wp2
          go_roundw
          case rel => exact ⟨i + 1, all, want, rfl, by go_num, HLT.out, Lib.hid HJ2.out.next⟩
          case measure => first | exact up_w HLT.out hw | exact up_w2 HLT.out
        · have hgo := o3
          have AP := Lib.hid (AP2.out wr w.heap.size g h all.size V W' d' hk HJ.out.lg o1 o3 o2 (by omega) HJ.out.bel.size HGB.out r (by omega) (by rw [o4]; omega))
          have JN := Lib.hid (fun (wx : World) (W2 : Value) (d2 : DkS) (k2 : Dk wx w.heap.size h V W2 d2) hu hwl hl hy hb => JAP.out w wr wx h gt g N w5.heap.size i V u12 W' W2 all r want d' d2 HJ.out hk ⟨o4, o5, o6⟩ HVL.out HGG.out (by omega) (by omega) k2 hu hwl hl hy hb)
          obtain ⟨R, hR⟩ : ∃ R, recS r = R := ⟨_, rfl⟩
          rw [hR] at RM hrs AP JN
          have ball : all.size ≤ 2560 := by omega
          have bR : R.size ≤ 206 := by omega
          have hn0 : 64 * N < all.size + R.size ↔ False := ⟨fun h => by omega, fun h => h.elim⟩
          have y3 : decide (64 * (N : Int) < (all.size : Int) + (R.size : Int)) = false := decide_eq_false (by omega)
          have y3n : decide (64 * N < all.size + R.size) = false := decide_eq_false (by omega)
          clear hn0
          have zz : ¬ 9223372036854775807 < all.size + R.size := by omega
          have hzz : all.size + R.size ≤ 140737488351232 := by omega
          have HWT := Lib.hid HJ.out.len
          clear hful hfitA hr0 o1 o2 o3 o4 o5 o6 hk hrs hgo hR
          go_wp2_with fail
          refine AP.out.mono ?_
          rintro e wx ⟨rfl, ⟨W2, d2, hk2, hu2, hwl2⟩, hl2, hy2, hb2⟩
          obtain ⟨jd, jf, jr, jo, jl, js, jt, jb, jg⟩ := JN.out wx W2 d2 hk2 hu2 hwl2 hl2 hy2 hb2
          have JD := Lib.hid jd; have JF := Lib.hid jf; have JR := Lib.hid jr; have JO := Lib.hid jo; have JL := Lib.hid jl; have JS := Lib.hid js; have JT := Lib.hid jt; have JB := Lib.hid jb; have JG := Lib.hid jg
          clear jd jf jr jo jl js jt jb jg hk2 hu2 hwl2 hl2 hy2 hb2 c0 AP JN
          have c0 := HC.out _ JB.out
          go_wp2_with fail
          refine (RM.out _).mono ?_
          rintro e wy ⟨rfl, hb⟩
          replace JD := Lib.hid (show ∃ W' d', Dk wy w.heap.size h V W' d' ∧ d'.Ok ∧ d'.fuse = -1 ∧ d'.gone = false ∧ d'.sure.length = N ∧ allL d' N = bl (all ++ R) ++ List.replicate (64 * N - (all ++ R).size) 0 ∧ d'.waits.length ≤ 100 * (i + 1) from by obtain ⟨W', d', k, q⟩ := JD.out; exact ⟨W', d', k.below hb, q⟩)
          replace JL := Lib.hid (JL.out.below hb)
          replace JS := Lib.hid (Kd.R_below JS.out hb)
          replace JT := Lib.hid (blk_below JT.out hb)
          replace JB := Lib.hid (JB.out.trans (hb.mono JB.out.size))
          replace JG := Lib.hid (Nat.le_trans JG.out hb.size)
          clear hb c0
          have c0 := HC.out _ JB.out
          have HBS := JG
          obtain ⟨Aw, mw, cw, hv12⟩ := sl_slice JS.out
          subst hv12
          have GA := Lib.hid (fun (w1 : World) (hg : wy.grownBy w1 (Value.slice Aw mw cw).ownBlock) => grown_all (w1 := w1) (L := bl (all ++ R) ++ List.replicate (64 * N - (all ++ R).size) 0) (i := i) (N := N) JS.out HVL.out HB50.out JD.out JL.out JT.out JB.out hg)
          clear JD JL JT JB
          go_wp2_with (at_builtin; refine app_s (w0 := wy) w5.heap.size rfl (.tmp 72) (.tmp 77) _ want r rfl rfl rfl JS.out (Below.refl _ _) HBS.out (by have := HWT.out; omega) ?_; intro v1 w1 HS1 HB1 HGR1; obtain ⟨jd, jl, jt, jb⟩ := GA.out w1 HGR1.out; have JD := Lib.hid jd; have JL := Lib.hid jl; have JT := Lib.hid jt; have JB := Lib.hid jb; clear jd jl jt jb; have c0 := HC.out _ JB.out; obtain ⟨A1, m1, c1, rfl⟩ := sl_slice HS1.out)
          have LE2 := Lib.hid (LE.out _ _ _ _ JL.out)
          go_wp2_with fail
          refine LE2.out.mono ?_
          rintro e wz ⟨rfl, rfl⟩
          have hw := HW.out
          go_wp2
          go_roundw
          case rel => exact ⟨i + 1, all ++ R, want ++ [r], rfl, by go_num, HLT.out, Lib.hid ⟨JD.out, JF.out, JR.out, JO.out, JL.out, HS1.out, by rw [List.length_append, List.length_singleton]; exact Nat.succ_le_succ HWT.out, JT.out, JB.out, Nat.le_trans HBS.out HB1.out.size⟩⟩
          case measure => first | exact up_w HLT.out hw | exact up_w2 HLT.out
      · obtain rfl : i = n := by omega
        have y1 : decide ((i : Int) < (i : Int)) = false := decide_eq_false (by omega)
        obtain ⟨W', d', hk, o1, o2, o3, o4, o5, o6⟩ := HJ.out.dk
        have hi20 : i ≤ 20 := HFT.out.1
        have hrc := open_recs (d := d') (want := want) (m := 64 * N - all.size) HJ.out.ok (by rw [o4, o5, HJ.out.recs])
        rw [← HJ.out.recs, bl_length] at hrc
        have hop := open_plain o1 o2 o3 (by rw [hrc.2, o4]; exact HJ.out.fit)
        rw [hrc.2, o4, o5, List.take_append_of_le_length (by rw [bl_length]; exact Nat.le_refl _), List.take_of_length_le (by rw [bl_length]; exact Nat.le_refl _)] at hop
        obtain ⟨p1, p2, p3, p4, p5, p6⟩ := hop
        have OP := Lib.hid (OP2.out wr w.heap.size h V W' d' hk o1 o3 o2 (by omega) HJ.out.bel.size)
        rw [hrc.1, hrc.2] at OP
        have HWL := Lib.hid (show want.length ≤ 1000000 by have := HJ.out.len; omega)
        have BY := Lib.hid (fun (wx : World) (k : Dk wx w.heap.size h V (.slice none 0 0) (openS d')) => bytes_any k p1 p3 (by rw [p5]; exact Nat.zero_le _))
        rw [p4, p6] at BY
        have hfit := HJ.out.fit
        have KT := Lib.hid HJ.out.tb
        obtain ⟨Aw, mw, cw, hv12⟩ := sl_slice HJ.out.sl
        subst hv12
        have hmw : mw = want.length := by obtain ⟨A', c', e⟩ := Kd.R_slice HJ.out.sl; injection e
        have HKD := Lib.hid hk
        clear o1 o2 o3 o4 o5 o6 p1 p2 p3 p4 p5 p6 hrc hk
        generalize openS d' = dz at *
        go_wp2_with (first | refine wpList_load_row rfl 53 _ rfl gt rfl 53 T (0, 0) _ KT.out Try.underlying53 rfl HI.out ?_ | fail)
        refine OP.out.mono ?_
        rintro e w9 ⟨⟨g2, v2, rfl, hlg2, hgg2, hsl2, hk2⟩, hby2, hb2⟩
        obtain ⟨A2, c2, rfl⟩ := Kd.R_slice hsl2
        have L1 := Lib.hid (IsLg.bys HJ.out.lg HKD.out hby2)
        have L2 := Lib.hid hlg2
        have R1 := Lib.hid (sls_row (hby2.sls HKD.out HJ.out.sl HVL.out))
        have R2 := Lib.hid (sls_row hsl2)
        have K9 := Lib.hid hk2
        have HB9 := Lib.hid (HJ.out.bel.trans hb2)
        have HFIN := Lib.hid (show (⟨(bl all ++ List.replicate (64 * N - all.size) 0).toArray⟩ : ByteArray) = all ++ ⟨(List.replicate (64 * N - all.size) (0 : UInt8)).toArray⟩ from bl_ext (by rw [bl_append]))
        rw [HFIN.out] at BY
        subst hmw
        clear hlg2 hgg2 hsl2 hk2 hby2 hb2 OP HKD HFIN
        obtain ⟨m, hm⟩ : ∃ m, 64 * N - all.size = m := ⟨_, rfl⟩
        rw [hm] at BY
        have Q2 := Lib.hid (show wrap64 (wrap64 (64 * (N : Int)) - (all.size : Int)) = (m : Int) by rw [show wrap64 (64 * (N : Int)) = ((64 * N : Nat) : Int) from (wrap64_id (by omega) (by omega)).trans (by omega)]; exact (wrap64_id (by omega) (by omega)).trans (by omega))
        have ball : all.size ≤ 2560 := by omega
        have hm25 : m ≤ 2560 := by omega
        have QM := Lib.hid (show 64 * (N : Int) - (all.size : Int) = (m : Int) by omega)
        obtain ⟨z, hz⟩ : ∃ z, (⟨(List.replicate m (0 : UInt8)).toArray⟩ : ByteArray) = z := ⟨_, rfl⟩
        have hzs : z.size = m := by rw [← hz]; exact List.size_toArray.trans List.length_replicate
        have ZS := Lib.hid (fun (W : World) (g : Nat) (hg : W.heap[g]? = some (.cells (madeCells #[Value.int .u8 0] m) 5 (0, 0))) => (show (convert 30 9 (.slice (some ⟨g, 0, none⟩) m m)).run Try.prog W = .ok (.string z) W by rw [← hz]; exact zstr hg))
        rw [hz] at BY
        have b1 : (9223372036854775807 < all.size + z.size) = False := eq_false (by omega)
        clear hz hzs
        have b2 : (9223372036854775807 < all.size + m) = False := eq_false (by omega)
        have HMK := Lib.hid (fun W : World => run_make_row' (P := Try.prog) 30 5 (.int .u8 0) 1 Try.underlying30 info_u8 rfl .i64 .i64 m (by omega) (by omega) W)
        clear hfit hi20 y1
        have RS := Lib.hid (fun (W : World) (hb : Below w9.heap.size w9 W) => (show Calls Try.prog 29 #[.slice A2 want.length c2, .slice Aw want.length cw] W (fun e w' => e = .returned (.bool true) ∧ Below W.heap.size W w') by have h := rsame_any A2 Aw want.length c2 want.length cw want want W (R2.out.below hb) (R1.out.below hb) HWL.out HWL.out; rw [decide_eq_true rfl] at h; exact h))
        have E2 := Lib.hid (fun (W : World) (hb : Below w9.heap.size w9 W) => LE.out W g2 h _ (L2.out.below hb))
        have O1 := Lib.hid (fun (W : World) (hb : Below w9.heap.size w9 W) => LO.out W g h _ (L1.out.below hb))
        have BY9 := Lib.hid (fun (W : World) (hb : Below w9.heap.size w9 W) => BY.out W (K9.out.below hb))
        have q2 := Q2.out
        have qm := QM.out
        go_wp2
        refine start_ (n := 34) (S := fun w' => Below w9.heap.size w9 w') (ds := []) #[false, false, false, false, false, false, false, false, false, false, false, false, false, false, false, false, false, false, false, false, false, false, false, false, false, false, false, false, false, false, false, false, false, false] (by kernel_rfl) rfl rfl ((below_drew (Below.refl _ _))) (fun hHeld => ?_)
        refine pure_ (i := 0) (N := some 112) (v := ?_) (a' := ?_) #[true, false, false, false, false, false, false, false, false, false, false, false, false, false, false, false, false, false, false, false, false, false, false, false, false, false, false, false, false, false, false, false, false, false] rfl rfl (by kernel_rfl) (fun _ _ _ h => h) (Or.inl ⟨by rfl, ?_⟩) ?_ ?_
        rotate_left
        · intro w'
          go_simp
          with_reducible rfl
        rotate_left
        · simp only [Act.put, List.setIfInBounds_toArray, List.set_cons_zero, List.set_cons_succ, i64_w, i32_w]
          rfl
        refine pure_ (i := 2) (N := some 114) (v := ?_) (a' := ?_) #[true, false, true, false, false, false, false, false, false, false, false, false, false, false, false, false, false, false, false, false, false, false, false, false, false, false, false, false, false, false, false, false, false, false] rfl rfl (by kernel_rfl) (fun _ _ _ h => h) (Or.inl ⟨by rfl, ?_⟩) ?_ ?_
        rotate_left
        · intro w'
          go_simp
          with_reducible rfl
        rotate_left
        · simp only [Act.put, List.setIfInBounds_toArray, List.set_cons_zero, List.set_cons_succ, i64_w, i32_w]
          rfl
        refine pure_ (i := 3) (N := some 115) (v := ?_) (a' := ?_) #[true, false, true, true, false, false, false, false, false, false, false, false, false, false, false, false, false, false, false, false, false, false, false, false, false, false, false, false, false, false, false, false, false, false] rfl rfl (by kernel_rfl) (fun _ _ _ h => h) (Or.inl ⟨by rfl, ?_⟩) ?_ ?_
        rotate_left
        · intro w'
          go_simp
          with_reducible rfl
        rotate_left
        · simp only [Act.put, List.setIfInBounds_toArray, List.set_cons_zero, List.set_cons_succ, i64_w, i32_w]
          rfl
        refine pure_ (i := 4) (N := some 116) (v := ?_) (a' := ?_) #[true, false, true, true, true, false, false, false, false, false, false, false, false, false, false, false, false, false, false, false, false, false, false, false, false, false, false, false, false, false, false, false, false, false] rfl rfl (by kernel_rfl) (fun _ _ _ h => h) (Or.inl ⟨by rfl, ?_⟩) ?_ ?_
        rotate_left
        · intro w'
          go_simp
          with_reducible rfl
        rotate_left
        · simp only [Act.put, List.setIfInBounds_toArray, List.set_cons_zero, List.set_cons_succ, i64_w, i32_w]
          rfl
        refine pure_ (i := 5) (N := some 117) (v := ?_) (a' := ?_) #[true, false, true, true, true, true, false, false, false, false, false, false, false, false, false, false, false, false, false, false, false, false, false, false, false, false, false, false, false, false, false, false, false, false] rfl rfl (by kernel_rfl) (fun _ _ _ h => h) (Or.inl ⟨by rfl, ?_⟩) ?_ ?_
        rotate_left
        · intro w'
          go_simp
          with_reducible rfl
        rotate_left
        · simp only [Act.put, List.setIfInBounds_toArray, List.set_cons_zero, List.set_cons_succ, i64_w, i32_w]
          rfl
        refine pure_ (i := 6) (N := some 118) (v := ?_) (a' := ?_) #[true, false, true, true, true, true, true, false, false, false, false, false, false, false, false, false, false, false, false, false, false, false, false, false, false, false, false, false, false, false, false, false, false, false] rfl rfl (by kernel_rfl) (fun _ _ _ h => h) (Or.inl ⟨by rfl, ?_⟩) ?_ ?_
        rotate_left
        · intro w'
          go_simp
          with_reducible rfl
        rotate_left
        · simp only [Act.put, List.setIfInBounds_toArray, List.set_cons_zero, List.set_cons_succ, i64_w, i32_w]
          rfl
        refine pure_ (i := 7) (N := some 119) (v := ?_) (a' := ?_) #[true, false, true, true, true, true, true, true, false, false, false, false, false, false, false, false, false, false, false, false, false, false, false, false, false, false, false, false, false, false, false, false, false, false] rfl rfl (by kernel_rfl) (fun _ _ _ h => h) (Or.inl ⟨by rfl, ?_⟩) ?_ ?_
        rotate_left
        · intro w'
          go_simp
          with_reducible rfl
        rotate_left
        · simp only [Act.put, List.setIfInBounds_toArray, List.set_cons_zero, List.set_cons_succ, i64_w, i32_w]
          rfl
        refine join_ (σ := Nat) 23 #[true, true, true, true, true, true, true, true, true, true, true, false, false, false, false, false, false, false, false, false, false, false, false, false, false, false, false, false, false, false, false, false, false, false] (fun s => [(113, .string (all ++ z)), (120, .slice (some ⟨s, 0, none⟩) m m), (121, .string z), (122, .string (all ++ z))]) (fun s w' => Below w9.heap.size w9 w') ?_ ?_
        rotate_left
        · intro hCont
          refine two_ (i := 1) (j := 8) (Ni := some 113) (Nj := some 120) #[true, true, true, true, true, true, true, true, false, false, false, false, false, false, false, false, false, false, false, false, false, false, false, false, false, false, false, false, false, false, false, false, false, false] #[true, false, true, true, true, true, true, true, true, false, false, false, false, false, false, false, false, false, false, false, false, false, false, false, false, false, false, false, false, false, false, false, false, false] rfl rfl rfl rfl (by kernel_rfl) (by decide) (by decide) (fun K hK => ?_) (fun K hK => ?_)
          · skip
            refine goes_ Try.func28 (by kernel_rfl) rfl #[.pointer (some ⟨h, 0, none⟩)] (by rfl) rfl rfl (by (try simp only [List.map_toArray, List.map_cons, List.map_nil]); first | done | rfl) ?_
            with_reducible refine ((BY9.out _ hHeld)).mono ?_
            rintro e w5x ⟨rfl, hb5⟩
            refine ⟨_, rfl, ?_⟩
            have HN := Lib.hid (hHeld.trans (hb5.mono hHeld.size))
            refine hK.out _ _ (HN.out) (fun hHeld => ?_)
            clear hK K
            refine norm_ (a' := ?_) ?_ ?_
            rotate_left
            · show Act.put _ (some 113) _ = _
              simp only [Act.put, List.setIfInBounds_toArray, List.set_cons_zero, List.set_cons_succ, i64_w, i32_w]
              rfl
            refine one_ (i := 8) (N := some 120) #[true, true, true, true, true, true, true, true, true, false, false, false, false, false, false, false, false, false, false, false, false, false, false, false, false, false, false, false, false, false, false, false, false, false] rfl rfl (by kernel_rfl) (by decide) (fun K hK => ?_)
            refine value_ (v := .slice (some ⟨_, 0, none⟩) m m) (by rfl) rfl (run_mkz (m := m) (.tmp 119) (.tmp 119) rfl rfl rfl (by first | exact q2 | exact qm) (by omega)) ?_
            have H8 := Lib.hid (blk_new w5x (.cells (madeCells #[Value.int .u8 0] m) 5))
            refine hK.out _ _ (below_alloc hHeld _) (fun hHeld => ?_)
            clear hK K
            refine norm_ (a' := ?_) ?_ ?_
            rotate_left
            · show Act.put _ (some 120) _ = _
              simp only [Act.put, List.setIfInBounds_toArray, List.set_cons_zero, List.set_cons_succ, i64_w, i32_w]
              rfl
            refine one_ (i := 9) (N := some 121) #[true, true, true, true, true, true, true, true, true, true, false, false, false, false, false, false, false, false, false, false, false, false, false, false, false, false, false, false, false, false, false, false, false, false] rfl rfl (by kernel_rfl) (by decide) (fun K hK => ?_)
            refine value_ (v := .string z) (by rfl) rfl (run_conv 30 9 (.tmp 120) rfl _ _ rfl (ZS.out _ _ H8.out)) ?_
            refine hK.out _ _ (hHeld) (fun hHeld => ?_)
            clear hK K
            refine norm_ (a' := ?_) ?_ ?_
            rotate_left
            · show Act.put _ (some 121) _ = _
              simp only [Act.put, List.setIfInBounds_toArray, List.set_cons_zero, List.set_cons_succ, i64_w, i32_w]
              rfl
            refine pure_ (i := 10) (N := some 122) (v := ?_) (a' := ?_) #[true, true, true, true, true, true, true, true, true, true, true, false, false, false, false, false, false, false, false, false, false, false, false, false, false, false, false, false, false, false, false, false, false, false] rfl rfl (by kernel_rfl) (fun _ _ _ h => h) (Or.inl ⟨by rfl, ?_⟩) ?_ ?_
            rotate_left
            · intro w'
              go_simp
              with_reducible rfl
            rotate_left
            · simp only [Act.put, List.setIfInBounds_toArray, List.set_cons_zero, List.set_cons_succ, i64_w, i32_w]
              rfl
            exact norm_ (by simp only [putAll, Act.put, List.setIfInBounds_toArray, List.set_cons_zero, List.set_cons_succ]) (hCont w5x.heap.size _ hHeld)
          · skip
            refine value_ (v := .slice (some ⟨_, 0, none⟩) m m) (by rfl) rfl (run_mkz (m := m) (.tmp 119) (.tmp 119) rfl rfl rfl (by first | exact q2 | exact qm) (by omega)) ?_
            have H8 := Lib.hid (blk_new w9.drew (.cells (madeCells #[Value.int .u8 0] m) 5))
            refine hK.out _ _ (below_alloc hHeld _) (fun hHeld => ?_)
            clear hK K
            refine norm_ (a' := ?_) ?_ ?_
            rotate_left
            · show Act.put _ (some 120) _ = _
              simp only [Act.put, List.setIfInBounds_toArray, List.set_cons_zero, List.set_cons_succ, i64_w, i32_w]
              rfl
            refine two_ (i := 1) (j := 9) (Ni := some 113) (Nj := some 121) #[true, true, true, true, true, true, true, true, true, false, false, false, false, false, false, false, false, false, false, false, false, false, false, false, false, false, false, false, false, false, false, false, false, false] #[true, false, true, true, true, true, true, true, true, true, false, false, false, false, false, false, false, false, false, false, false, false, false, false, false, false, false, false, false, false, false, false, false, false] rfl rfl rfl rfl (by kernel_rfl) (by decide) (by decide) (fun K hK => ?_) (fun K hK => ?_)
            · skip
              refine goes_ Try.func28 (by kernel_rfl) rfl #[.pointer (some ⟨h, 0, none⟩)] (by rfl) rfl rfl (by (try simp only [List.map_toArray, List.map_cons, List.map_nil]); first | done | rfl) ?_
              with_reducible refine ((BY9.out _ hHeld)).mono ?_
              rintro e w5x ⟨rfl, hb5⟩
              refine ⟨_, rfl, ?_⟩
              have HN := Lib.hid (hHeld.trans (hb5.mono hHeld.size))
              replace H8 := Lib.hid (blk_below H8.out hb5)
              refine hK.out _ _ (HN.out) (fun hHeld => ?_)
              clear hK K
              refine norm_ (a' := ?_) ?_ ?_
              rotate_left
              · show Act.put _ (some 113) _ = _
                simp only [Act.put, List.setIfInBounds_toArray, List.set_cons_zero, List.set_cons_succ, i64_w, i32_w]
                rfl
              refine one_ (i := 9) (N := some 121) #[true, true, true, true, true, true, true, true, true, true, false, false, false, false, false, false, false, false, false, false, false, false, false, false, false, false, false, false, false, false, false, false, false, false] rfl rfl (by kernel_rfl) (by decide) (fun K hK => ?_)
              refine value_ (v := .string z) (by rfl) rfl (run_conv 30 9 (.tmp 120) rfl _ _ rfl (ZS.out _ _ H8.out)) ?_
              refine hK.out _ _ (hHeld) (fun hHeld => ?_)
              clear hK K
              refine norm_ (a' := ?_) ?_ ?_
              rotate_left
              · show Act.put _ (some 121) _ = _
                simp only [Act.put, List.setIfInBounds_toArray, List.set_cons_zero, List.set_cons_succ, i64_w, i32_w]
                rfl
              refine pure_ (i := 10) (N := some 122) (v := ?_) (a' := ?_) #[true, true, true, true, true, true, true, true, true, true, true, false, false, false, false, false, false, false, false, false, false, false, false, false, false, false, false, false, false, false, false, false, false, false] rfl rfl (by kernel_rfl) (fun _ _ _ h => h) (Or.inl ⟨by rfl, ?_⟩) ?_ ?_
              rotate_left
              · intro w'
                go_simp
                with_reducible rfl
              rotate_left
              · simp only [Act.put, List.setIfInBounds_toArray, List.set_cons_zero, List.set_cons_succ, i64_w, i32_w]
                rfl
              exact norm_ (by simp only [putAll, Act.put, List.setIfInBounds_toArray, List.set_cons_zero, List.set_cons_succ]) (hCont w9.drew.heap.size _ hHeld)
            · skip
              refine value_ (v := .string z) (by rfl) rfl (run_conv 30 9 (.tmp 120) rfl _ _ rfl (ZS.out _ _ H8.out)) ?_
              refine hK.out _ _ (hHeld) (fun hHeld => ?_)
              clear hK K
              refine norm_ (a' := ?_) ?_ ?_
              rotate_left
              · show Act.put _ (some 121) _ = _
                simp only [Act.put, List.setIfInBounds_toArray, List.set_cons_zero, List.set_cons_succ, i64_w, i32_w]
                rfl
              refine pure_ (i := 10) (N := some 122) (v := ?_) (a' := ?_) #[true, false, true, true, true, true, true, true, true, true, true, false, false, false, false, false, false, false, false, false, false, false, false, false, false, false, false, false, false, false, false, false, false, false] rfl rfl (by kernel_rfl) (fun _ _ _ h => h) (Or.inl ⟨by rfl, ?_⟩) ?_ ?_
              rotate_left
              · intro w'
                go_simp
                with_reducible rfl
              rotate_left
              · simp only [Act.put, List.setIfInBounds_toArray, List.set_cons_zero, List.set_cons_succ, i64_w, i32_w]
                rfl
              refine one_ (i := 1) (N := some 113) #[true, true, true, true, true, true, true, true, true, true, true, false, false, false, false, false, false, false, false, false, false, false, false, false, false, false, false, false, false, false, false, false, false, false] rfl rfl (by kernel_rfl) (by decide) (fun K hK => ?_)
              refine goes_ Try.func28 (by kernel_rfl) rfl #[.pointer (some ⟨h, 0, none⟩)] (by rfl) rfl rfl (by (try simp only [List.map_toArray, List.map_cons, List.map_nil]); first | done | rfl) ?_
              with_reducible refine ((BY9.out _ hHeld)).mono ?_
              rintro e w5x ⟨rfl, hb5⟩
              refine ⟨_, rfl, ?_⟩
              have HN := Lib.hid (hHeld.trans (hb5.mono hHeld.size))
              replace H8 := Lib.hid (blk_below H8.out hb5)
              refine hK.out _ _ (HN.out) (fun hHeld => ?_)
              clear hK K
              refine norm_ (a' := ?_) ?_ ?_
              rotate_left
              · show Act.put _ (some 113) _ = _
                simp only [Act.put, List.setIfInBounds_toArray, List.set_cons_zero, List.set_cons_succ, i64_w, i32_w]
                rfl
              exact norm_ (by simp only [putAll, Act.put, List.setIfInBounds_toArray, List.set_cons_zero, List.set_cons_succ]) (hCont w9.drew.heap.size _ hHeld)
        rintro g24 w8 hHeld
        refine norm_ (a' := ?_) ?_ ?_
        rotate_left
        · simp only [putAll, Act.put, List.setIfInBounds_toArray, List.set_cons_zero, List.set_cons_succ]
          rfl
        refine pure_ (i := 11) (N := some 123) (v := ?_) (a' := ?_) #[true, true, true, true, true, true, true, true, true, true, true, true, false, false, false, false, false, false, false, false, false, false, false, false, false, false, false, false, false, false, false, false, false, false] rfl rfl (by kernel_rfl) (fun _ _ _ h => h) (Or.inl ⟨by rfl, ?_⟩) ?_ ?_
        rotate_left
        · intro w'
          go_simp
          with_reducible rfl
        rotate_left
        · simp only [Act.put, List.setIfInBounds_toArray, List.set_cons_zero, List.set_cons_succ, i64_w, i32_w]
          rfl
        refine pure_ (i := 12) (N := some 124) (v := ?_) (a' := ?_) #[true, true, true, true, true, true, true, true, true, true, true, true, true, false, false, false, false, false, false, false, false, false, false, false, false, false, false, false, false, false, false, false, false, false] rfl rfl (by kernel_rfl) (fun _ _ _ h => h) (Or.inl ⟨by rfl, ?_⟩) ?_ ?_
        rotate_left
        · intro w'
          go_simp
          with_reducible rfl
        rotate_left
        · simp only [Act.put, List.setIfInBounds_toArray, List.set_cons_zero, List.set_cons_succ, i64_w, i32_w]
          rfl
        refine pure_ (i := 13) (N := some 125) (v := ?_) (a' := ?_) #[true, true, true, true, true, true, true, true, true, true, true, true, true, true, false, false, false, false, false, false, false, false, false, false, false, false, false, false, false, false, false, false, false, false] rfl rfl (by kernel_rfl) (fun _ _ _ h => h) (Or.inl ⟨by rfl, ?_⟩) ?_ ?_
        rotate_left
        · intro w'
          go_simp
          with_reducible rfl
        rotate_left
        · simp only [Act.put, List.setIfInBounds_toArray, List.set_cons_zero, List.set_cons_succ, i64_w, i32_w]
          rfl
        refine pure_ (i := 14) (N := some 126) (v := ?_) (a' := ?_) #[true, true, true, true, true, true, true, true, true, true, true, true, true, true, true, false, false, false, false, false, false, false, false, false, false, false, false, false, false, false, false, false, false, false] rfl rfl (by kernel_rfl) (fun _ _ _ h => h) (Or.inl ⟨by rfl, ?_⟩) ?_ ?_
        rotate_left
        · intro w'
          go_simp
          with_reducible rfl
        rotate_left
        · simp only [Act.put, List.setIfInBounds_toArray, List.set_cons_zero, List.set_cons_succ, i64_w, i32_w]
          rfl
        refine pure_ (i := 15) (N := some 127) (v := ?_) (a' := ?_) #[true, true, true, true, true, true, true, true, true, true, true, true, true, true, true, true, false, false, false, false, false, false, false, false, false, false, false, false, false, false, false, false, false, false] rfl rfl (by kernel_rfl) (fun _ _ _ h => h) (Or.inl ⟨by rfl, ?_⟩) ?_ ?_
        rotate_left
        · intro w'
          go_simp
          with_reducible rfl
        rotate_left
        · simp only [Act.put, List.setIfInBounds_toArray, List.set_cons_zero, List.set_cons_succ, i64_w, i32_w]
          rfl
        refine pure_ (i := 16) (N := some 128) (v := ?_) (a' := ?_) #[true, true, true, true, true, true, true, true, true, true, true, true, true, true, true, true, true, false, false, false, false, false, false, false, false, false, false, false, false, false, false, false, false, false] rfl rfl (by kernel_rfl) (fun _ _ _ h => h) (Or.inl ⟨by rfl, ?_⟩) ?_ ?_
        rotate_left
        · intro w'
          go_simp
          with_reducible rfl
        rotate_left
        · simp only [Act.put, List.setIfInBounds_toArray, List.set_cons_zero, List.set_cons_succ, i64_w, i32_w]
          rfl
        refine pure_ (i := 17) (N := some 129) (v := ?_) (a' := ?_) #[true, true, true, true, true, true, true, true, true, true, true, true, true, true, true, true, true, true, false, false, false, false, false, false, false, false, false, false, false, false, false, false, false, false] rfl rfl (by kernel_rfl) (fun _ _ _ h => h) (Or.inl ⟨by rfl, ?_⟩) ?_ ?_
        rotate_left
        · intro w'
          go_simp
          with_reducible rfl
        rotate_left
        · simp only [Act.put, List.setIfInBounds_toArray, List.set_cons_zero, List.set_cons_succ, i64_w, i32_w]
          rfl
        refine pure_ (i := 18) (N := some 130) (v := ?_) (a' := ?_) #[true, true, true, true, true, true, true, true, true, true, true, true, true, true, true, true, true, true, true, false, false, false, false, false, false, false, false, false, false, false, false, false, false, false] rfl rfl (by kernel_rfl) (fun _ _ _ h => h) (Or.inl ⟨by rfl, ?_⟩) ?_ ?_
        rotate_left
        · intro w'
          go_simp
          with_reducible rfl
        rotate_left
        · simp only [Act.put, List.setIfInBounds_toArray, List.set_cons_zero, List.set_cons_succ, i64_w, i32_w]
          rfl
        refine one_ (i := 19) (N := some 131) #[true, true, true, true, true, true, true, true, true, true, true, true, true, true, true, true, true, true, true, true, false, false, false, false, false, false, false, false, false, false, false, false, false, false] rfl rfl (by kernel_rfl) (by decide) (fun K hK => ?_)
        refine goes_ Try.func29 (by kernel_rfl) rfl #[.slice A2 want.length c2, .slice Aw want.length cw] (by rfl) rfl rfl (by (try simp only [List.map_toArray, List.map_cons, List.map_nil]); first | done | rfl) ?_
        with_reducible refine ((RS.out _ hHeld)).mono ?_
        rintro e w6x ⟨rfl, hb6⟩
        refine ⟨_, rfl, ?_⟩
        refine hK.out _ _ (hHeld.trans (hb6.mono hHeld.size)) (fun hHeld => ?_)
        clear hK K
        refine norm_ (a' := ?_) ?_ ?_
        rotate_left
        · show Act.put _ (some 131) _ = _
          simp only [Act.put, List.setIfInBounds_toArray, List.set_cons_zero, List.set_cons_succ, i64_w, i32_w]
          rfl
        refine pure_ (i := 20) (N := some 132) (v := ?_) (a' := ?_) #[true, true, true, true, true, true, true, true, true, true, true, true, true, true, true, true, true, true, true, true, true, false, false, false, false, false, false, false, false, false, false, false, false, false] rfl rfl (by kernel_rfl) (fun _ _ _ h => h) (Or.inl ⟨by rfl, ?_⟩) ?_ ?_
        rotate_left
        · intro w'
          go_simp
          with_reducible rfl
        rotate_left
        · simp only [Act.put, List.setIfInBounds_toArray, List.set_cons_zero, List.set_cons_succ, i64_w, i32_w]
          rfl
        refine pure_ (i := 21) (N := some 133) (v := ?_) (a' := ?_) #[true, true, true, true, true, true, true, true, true, true, true, true, true, true, true, true, true, true, true, true, true, true, false, false, false, false, false, false, false, false, false, false, false, false] rfl rfl (by kernel_rfl) (fun _ _ _ h => h) (Or.inl ⟨by rfl, ?_⟩) ?_ ?_
        rotate_left
        · intro w'
          go_simp
          with_reducible rfl
        rotate_left
        · simp only [Act.put, List.setIfInBounds_toArray, List.set_cons_zero, List.set_cons_succ, i64_w, i32_w]
          rfl
        refine pure_ (i := 22) (N := some 134) (v := ?_) (a' := ?_) #[true, true, true, true, true, true, true, true, true, true, true, true, true, true, true, true, true, true, true, true, true, true, true, false, false, false, false, false, false, false, false, false, false, false] rfl rfl (by kernel_rfl) (fun _ _ _ h => h) (Or.inl ⟨by rfl, ?_⟩) ?_ ?_
        rotate_left
        · intro w'
          go_simp
          with_reducible rfl
        rotate_left
        · simp only [Act.put, List.setIfInBounds_toArray, List.set_cons_zero, List.set_cons_succ, i64_w, i32_w]
          rfl
        refine pure_ (i := 24) (N := some 136) (v := ?_) (a' := ?_) #[true, true, true, true, true, true, true, true, true, true, true, true, true, true, true, true, true, true, true, true, true, true, true, false, true, false, false, false, false, false, false, false, false, false] rfl rfl (by kernel_rfl) (fun _ _ _ h => h) (Or.inl ⟨by rfl, ?_⟩) ?_ ?_
        rotate_left
        · intro w'
          go_simp
          with_reducible rfl
        rotate_left
        · simp only [Act.put, List.setIfInBounds_toArray, List.set_cons_zero, List.set_cons_succ, i64_w, i32_w]
          rfl
        refine pure_ (i := 25) (N := some 137) (v := ?_) (a' := ?_) #[true, true, true, true, true, true, true, true, true, true, true, true, true, true, true, true, true, true, true, true, true, true, true, false, true, true, false, false, false, false, false, false, false, false] rfl rfl (by kernel_rfl) (fun _ _ _ h => h) (Or.inl ⟨by rfl, ?_⟩) ?_ ?_
        rotate_left
        · intro w'
          go_simp
          with_reducible rfl
        rotate_left
        · simp only [Act.put, List.setIfInBounds_toArray, List.set_cons_zero, List.set_cons_succ, i64_w, i32_w]
          rfl
        refine one_ (i := 23) (N := some 135) #[true, true, true, true, true, true, true, true, true, true, true, true, true, true, true, true, true, true, true, true, true, true, true, true, true, true, false, false, false, false, false, false, false, false] rfl rfl (by kernel_rfl) (by decide) (fun K hK => ?_)
        refine goes_ Try.func25 (by kernel_rfl) rfl #[.pointer (some ⟨g2, 0, none⟩)] (by rfl) rfl rfl (by (try simp only [List.map_toArray, List.map_cons, List.map_nil]); first | done | rfl) ?_
        with_reducible refine ((E2.out _ hHeld)).mono ?_
        rintro e w7x ⟨rfl, hw7⟩
        refine ⟨_, rfl, ?_⟩
        subst hw7
        refine hK.out _ _ (hHeld) (fun hHeld => ?_)
        clear hK K
        refine norm_ (a' := ?_) ?_ ?_
        rotate_left
        · show Act.put _ (some 135) _ = _
          simp only [Act.put, List.setIfInBounds_toArray, List.set_cons_zero, List.set_cons_succ, i64_w, i32_w]
          rfl
        refine pure_ (i := 26) (N := some 138) (v := ?_) (a' := ?_) #[true, true, true, true, true, true, true, true, true, true, true, true, true, true, true, true, true, true, true, true, true, true, true, true, true, true, true, false, false, false, false, false, false, false] rfl rfl (by kernel_rfl) (fun _ _ _ h => h) (Or.inl ⟨by rfl, ?_⟩) ?_ ?_
        rotate_left
        · intro w'
          go_simp
          with_reducible rfl
        rotate_left
        · simp only [Act.put, List.setIfInBounds_toArray, List.set_cons_zero, List.set_cons_succ, i64_w, i32_w]
          rfl
        refine pure_ (i := 27) (N := some 139) (v := ?_) (a' := ?_) #[true, true, true, true, true, true, true, true, true, true, true, true, true, true, true, true, true, true, true, true, true, true, true, true, true, true, true, true, false, false, false, false, false, false] rfl rfl (by kernel_rfl) (fun _ _ _ h => h) (Or.inl ⟨by rfl, ?_⟩) ?_ ?_
        rotate_left
        · intro w'
          go_simp
          with_reducible rfl
        rotate_left
        · simp only [Act.put, List.setIfInBounds_toArray, List.set_cons_zero, List.set_cons_succ, i64_w, i32_w]
          rfl
        refine pure_ (i := 28) (N := some 140) (v := ?_) (a' := ?_) #[true, true, true, true, true, true, true, true, true, true, true, true, true, true, true, true, true, true, true, true, true, true, true, true, true, true, true, true, true, false, false, false, false, false] rfl rfl (by kernel_rfl) (fun _ _ _ h => h) (Or.inl ⟨by rfl, ?_⟩) ?_ ?_
        rotate_left
        · intro w'
          go_simp
          with_reducible rfl
        rotate_left
        · simp only [Act.put, List.setIfInBounds_toArray, List.set_cons_zero, List.set_cons_succ, i64_w, i32_w]
          rfl
        refine pure_ (i := 29) (N := some 141) (v := ?_) (a' := ?_) #[true, true, true, true, true, true, true, true, true, true, true, true, true, true, true, true, true, true, true, true, true, true, true, true, true, true, true, true, true, true, false, false, false, false] rfl rfl (by kernel_rfl) (fun _ _ _ h => h) (Or.inl ⟨by rfl, ?_⟩) ?_ ?_
        rotate_left
        · intro w'
          go_simp
          with_reducible rfl
        rotate_left
        · simp only [Act.put, List.setIfInBounds_toArray, List.set_cons_zero, List.set_cons_succ, i64_w, i32_w]
          rfl
        refine one_ (i := 30) (N := some 142) #[true, true, true, true, true, true, true, true, true, true, true, true, true, true, true, true, true, true, true, true, true, true, true, true, true, true, true, true, true, true, true, false, false, false] rfl rfl (by kernel_rfl) (by decide) (fun K hK => ?_)
        refine goes_ Try.func30 (by kernel_rfl) rfl #[.pointer (some ⟨g, 0, none⟩)] (by rfl) rfl rfl (by (try simp only [List.map_toArray, List.map_cons, List.map_nil]); first | done | rfl) ?_
        with_reducible refine ((O1.out _ hHeld)).mono ?_
        rintro e w7y ⟨rfl, hw7⟩
        refine ⟨_, rfl, ?_⟩
        subst hw7
        refine hK.out _ _ (hHeld) (fun hHeld => ?_)
        clear hK K
        refine norm_ (a' := ?_) ?_ ?_
        rotate_left
        · show Act.put _ (some 142) _ = _
          simp only [Act.put, List.setIfInBounds_toArray, List.set_cons_zero, List.set_cons_succ, i64_w, i32_w]
          rfl
        refine pure_ (i := 31) (N := some 143) (v := ?_) (a' := ?_) #[true, true, true, true, true, true, true, true, true, true, true, true, true, true, true, true, true, true, true, true, true, true, true, true, true, true, true, true, true, true, true, true, false, false] rfl rfl (by kernel_rfl) (fun _ _ _ h => h) (Or.inl ⟨by rfl, ?_⟩) ?_ ?_
        rotate_left
        · intro w'
          go_simp
          with_reducible rfl
        rotate_left
        · simp only [Act.put, List.setIfInBounds_toArray, List.set_cons_zero, List.set_cons_succ, i64_w, i32_w]
          rfl
        refine pure_ (i := 32) (N := some 144) (v := ?_) (a' := ?_) #[true, true, true, true, true, true, true, true, true, true, true, true, true, true, true, true, true, true, true, true, true, true, true, true, true, true, true, true, true, true, true, true, true, false] rfl rfl (by kernel_rfl) (fun _ _ _ h => h) (Or.inl ⟨by rfl, ?_⟩) ?_ ?_
        rotate_left
        · intro w'
          go_simp
          with_reducible rfl
        rotate_left
        · simp only [Act.put, List.setIfInBounds_toArray, List.set_cons_zero, List.set_cons_succ, i64_w, i32_w]
          rfl
        refine pure_ (i := 33) (N := some 4) (v := ?_) (a' := ?_) #[true, true, true, true, true, true, true, true, true, true, true, true, true, true, true, true, true, true, true, true, true, true, true, true, true, true, true, true, true, true, true, true, true, true] rfl rfl (by kernel_rfl) (fun _ _ _ h => h) (Or.inl ⟨by rfl, ?_⟩) ?_ ?_
        rotate_left
        · intro w'
          go_simp
          with_reducible rfl
        rotate_left
        · simp only [Act.put, List.setIfInBounds_toArray, List.set_cons_zero, List.set_cons_succ, i64_w, i32_w]
          rfl
        refine done_ (by kernel_rfl) ?_

        go_wp2
        go_ret
        exact ⟨rfl, HB9.out.trans (hHeld.mono HB9.out.size)⟩
end Go.Proofs.Ytoandabafkdgjaa.My
