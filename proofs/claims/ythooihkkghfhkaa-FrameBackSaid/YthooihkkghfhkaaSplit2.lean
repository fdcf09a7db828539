/- frame.Splitter: take, Feed. -/
import Derived.Test.YthooihkkghfhkaaSplit
import Derived.Test.YthooihkkghfhkaaCurF
namespace Go.Proofs.Ythooihkkghfhkaa.My
set_option linter.unusedSimpArgs false
set_option linter.unusedVariables false
open Go.RowKit Go.Proofs.YthooihkkghfhkaaW.PrintWords Go.Proofs.YthooihkkghfhkaaW.PrintLast Go.Proofs.Ythooihkkghfhkaa.Pm

theorem wpList_load_part {P : Program} {ops : Array Oper} {rest : List Oper} {o : Oper} {a : Act} {w : World} {Q : Exit → Act → World → Prop} (hgd : o.guard = none) (ty : TypeId) (x : Operand) (ho : o.op = .load ty x)
    (b f : Nat) (hx : a.eval x = .pointer (some ⟨b, f, none⟩)) (T : Array Value) (d : TypeDesc) (hc : w.rangeAt b f T.toList) (hu : P.underlying ty = some d) (hd : d.isRow = true) (hi : (P.info? ty).map (·.size) = some T.size)
    (h : wpList P ops Q rest (a.put o.dst (.agg T)) w) : wpList P ops Q (o :: rest) a w :=
  wpList_load_mid hgd ty x ho b f hx T.toList d hc hu hd (by rw [Array.length_toList]; exact hi) (by rw [Array.toArray_toList]; exact h)
set_option maxRecDepth 100000 in
set_option maxHeartbeats 2000000 in
theorem take_short {T : Array Value} {w : World} {h : Nat} {s : ByteArray} {q : Value} {br : Bool} (k : IsSp T w h s q br) (hs : s.size < 4) :
    Calls Try.prog 28 #[.pointer (some ⟨h, 0, none⟩)] w fun e w' => e = .returned (.bool false) ∧ Below w.heap.size w w' := by
  have HK := Lib.hid k; clear k
  have k0 := HK.out.c0
  have HB := Lib.hid (Below.refl w.heap.size w)
  have x1 : decide ((s.size : Int) < 4) = true := by simp; omega
  go_enter Try.func28, Try.ntmps28
  go_wp2_with fail
  refine (cur_made _ _).mono ?_
  rintro e w1 ⟨g, rfl, hg, hc, hb⟩
  have hg := Nat.le_trans HB.out.size hg
  have HB := Lib.hid (HB.out.trans (hb.mono HB.out.size)); clear hb
  have HC := Lib.hid hc; clear hc
  go_wp2_with fail
  refine (cur_fixed _ _ _ _ _ _ HC.out).mono ?_
  rintro e w2 ⟨rfl, hc, hk⟩
  have HB := Lib.hid (below_keeps HB.out hk HB.out.size (fun i hi => by cases hi; exact hg)); clear hk hc k0
  have k0 := (HK.out.below HB.out).c0
  go_wp2
  go_ret
  exact ⟨rfl, HB.out⟩
/-- A row of strings of the call's own. -/
def Qs (w : World) (base : Nat) (v : Value) (l : List ByteArray) : Prop := Kd.string.R 9 w base (fun _ => True) v l
theorem Qs.below {w w1 : World} {base : Nat} {v : Value} {l : List ByteArray} (hq : Qs w base v l) (hb : Below w.heap.size w w1) : Qs w1 base v l := Kd.R_below hq hb
theorem Qs.keeps {w w1 : World} {base g : Nat} {v : Value} {l : List ByteArray} {s : ByteArray} {b : Bool} (hq : Qs w base v l) (hc : IsCur w g s b) (hk : Keeps (Only g) w w1) : Qs w1 base v l :=
  Kd.R_mono (Kd.R_step (Kd.R_types hq hc (fun q hq => by
    simp [Kd.string, Kd.scalar] at hq
    subst hq
    decide)) (fun k hk' hlt => hk.block k hlt (fun e => hk'.2 e))) (fun _ _ => trivial)
theorem Qs.setsp {T : Array Value} {w : World} {base h : Nat} {v q : Value} {l : List ByteArray} {s : ByteArray} {b : Bool} (hq : Qs w base v l) (k : IsSp T w h s q b) (i : Nat) (u : Value) : Qs (w.setCell ⟨h, i, none⟩ u) base v l :=
  Kd.R_mono (Kd.R_set hq k.2 (fun q hq => by
    simp [Kd.string, Kd.scalar] at hq
    subst hq
    decide) i u) (fun _ _ => trivial)
theorem info_str : (Try.prog.info? 9).map (fun i => (i.zero, i.size, i.bytes)) = some (some (.string ⟨#[]⟩), 1, 16) := by kernel_rfl
theorem app_q {ops : Array Oper} {rest : List Oper} {o : Oper} {a : Act} {Q : Exit → Act → World → Prop} {w0 W : World} (base : Nat) (hgd : o.guard = none) (s x : Operand) (v : Value) (xs : List ByteArray) (p : ByteArray)
    (ho : o.op = .call { callee := .builtin .append, args := #[s, x], argTypes := #[32, 32] }) (hs : a.eval s = v) (hx : a.eval x = .slice (some ⟨W.heap.size, 0, none⟩) 1 1)
    (HO : Qs W base v xs) (HB : Below base w0 W) (hbase : base ≤ W.heap.size) (hl : (xs.length + 1) * 16 ≤ 140737488355328)
    (h : ∀ v1 w1, Hid (Qs w1 base v1 (xs ++ [p])) → Hid (Below base w0 w1) → Hid (W.grownBy w1 v.ownBlock) → wpList Try.prog ops Q rest (a.put o.dst v1) w1) :
    wpList Try.prog ops Q (o :: rest) a (W.alloc (.cells #[.string p] 9)) :=
  Kd.R_append Kd.string base hgd s x 32 9 (.string ⟨#[]⟩) 16 ho Try.underlying32 info_str rfl (by decide) (by omega) v xs p [.string p] (fun _ => True) (fun _ => False) hs hx rfl (fun _ hk => hk.elim) (fun _ _ => trivial) HO HB hbase hl
    (fun v1 w1 h1 h2 h3 _ => h v1 w1 h1 h2 h3)
theorem Qs.slice_ {w : World} {base : Nat} {v : Value} {l : List ByteArray} (h : Qs w base v l) : ∃ A m c, v = .slice A m c := by
  obtain ⟨A, c, h⟩ := Kd.R_slice h
  exact ⟨A, _, c, h⟩
theorem fix4_fixed (n : Nat) : fix4 n = fixedS (n : Int) 4 true := rfl
theorem fixed_first (n : Nat) (t : ByteArray) (h : n < 4294967296) : curFixed (fix4 n ++ t) false 4 true = (n, t, false) := by
  rw [fix4_fixed]
  have := curFixed_app n 4 true t (by decide) (by decide)
  rw [Nat.mod_eq_of_lt (by omega)] at this
  exact this
theorem frameS_size (p : ByteArray) : (frameS p).size = 8 + p.size := by
  unfold frameS
  rw [ByteArray.size_append, ByteArray.size_append, fix4_size, fix4_size]
theorem frameS_rest (p : ByteArray) : (frameS p).extract (8 + p.size) (frameS p).size = ⟨#[]⟩ := by
  apply bl_ext
  rw [bl_extract, frameS_size, List.drop_eq_nil_of_le]
  rw [List.length_take]; exact Nat.min_le_left _ _
theorem take_sum {n : Nat} (h : n ≤ 4000) : wrap64 (8 + (n : Int)) = ((8 + n : Nat) : Int) ∧ IntKind.u64.wrap (8 + (n : Int)) = ((8 + n : Nat) : Int) ∧ wrap64 (n : Int) = (n : Int) ∧ IntKind.u64.wrap ((8 + n : Nat) : Int) = ((8 + n : Nat) : Int) := by
  refine ⟨?_, ?_, wrap64_id (by omega) (by omega), wrap_u64_nat (by omega)⟩
  · rw [wrap64_id (by omega) (by omega)]; rfl
  · rw [IntWalk.u64_in _ (by omega)]; rfl
set_option maxRecDepth 100000 in
set_option maxHeartbeats 8000000 in
theorem take_frame (p : ByteArray) (h1 : 1 ≤ p.size) (h2 : p.size ≤ 4000) {w : World} {h base : Nat} {q : Value} {br : Bool} {l : List ByteArray} (k : IsSp tab w h (frameS p) q br) (hq : Qs w base q l) (hbh : base ≤ h) (hl : l.length ≤ 100) (hbw : base ≤ w.heap.size) :
    Calls Try.prog 28 #[.pointer (some ⟨h, 0, none⟩)] w fun e w' => ∃ q', e = .returned (.bool true) ∧ IsSp tab w' h ⟨#[]⟩ q' br ∧ Qs w' base q' (l ++ [p]) ∧ Below base w w' := by
  have hs := sumL_lt p.data.toList
  have F1 := Lib.hid (fits_any p.size)
  rw [show (decide (1 ≤ p.size) && decide (p.size ≤ 4000)) = true by simp; omega] at F1
  have V2 := Lib.hid (fun w => crc_sum p w (by omega))
  have X1 : curFixed (frameS p) false 4 true = (p.size, fix4 (sumL p.data.toList) ++ p, false) := by
    unfold frameS
    rw [ByteArray.append_assoc]
    exact fixed_first _ _ (by omega)
  have X2 : curFixed (fix4 (sumL p.data.toList) ++ p) false 4 true = (sumL p.data.toList, p, false) := fixed_first _ _ hs
  have X3 : curBytes p false (p.size : Int) = (p, ⟨#[]⟩, false) := by
    have := curBytes_app p ⟨#[]⟩ p.size rfl
    rw [show p ++ (⟨#[]⟩ : ByteArray) = p by apply bl_ext; rw [bl_append, bl_empty, List.append_nil]] at this
    exact this
  have hfs := frameS_size p
  have hfr := frameS_rest p
  have hi1 : (Try.prog.info? 28).map (·.size) = some tab.size := by unfold tab; rw [tabTo_size]; kernel_rfl
  have HI := Lib.hid hi1; clear hi1
  have HK := Lib.hid k; clear k
  have HQ := Lib.hid hq; clear hq
  obtain ⟨m, hm⟩ : ∃ m, 8 + p.size = m := ⟨_, rfl⟩
  obtain ⟨t1, t2, t3, t4⟩ := take_sum h2
  have q2 : IntKind.u64.wrap (sumL p.data.toList : Int) = (sumL p.data.toList : Int) := wrap_u64_nat (by omega)
  rw [hm] at t1 t2 t4 hfs hfr
  generalize hS1 : fix4 (sumL p.data.toList) ++ p = r1 at *
  generalize sumL p.data.toList = sm at *
  generalize frameS p = f at *
  generalize tab = T at *
  have T1 := Lib.hid (fun g w hc => cur_fixed f false 4 true g w hc)
  rw [X1] at T1
  have T2 := Lib.hid (fun g w hc => cur_fixed r1 false 4 true g w hc)
  rw [X2] at T2
  have T3 := Lib.hid (fun g w hc => cur_bytes p false p.size g w hc)
  rw [X3] at T3
  clear X1 X2 X3 hS1
  have x1 : decide ((f.size : Int) < 4) = false := by rw [hfs]; simp; omega
  have x2 : IntKind.u64.wrap (f.size : Int) = (f.size : Int) := by rw [hfs]; exact t4
  have hx3 : ¬ (f.size : Int) < (m : Int) := by rw [hfs]; omega
  have hmf : m ≤ f.size := Nat.le_of_eq hfs.symm
  have h4 : 4 ≤ f.size := by omega
  have HH := Lib.hid (And.intro h1 (And.intro h2 (And.intro hm hfs)))
  have hlb : (l.length + 1) * 16 ≤ 140737488355328 := by clear t1 t2 t3 t4 q2 x2; omega
  clear hm hfs h1 h2
  have k0 := HK.out.c0
  have HB := Lib.hid (Below.refl base w)
  go_enter Try.func28, Try.ntmps28
  go_wp2_with fail
  refine (cur_made _ _).mono ?_
  rintro e w1 ⟨g, rfl, hg, hc, hb⟩
  have hgb := Nat.le_trans hbw hg
  have HB := Lib.hid (HB.out.trans (hb.mono hbw))
  have HK0 := HK
  have HK := Lib.hid (HK.out.below hb)
  have HQ := Lib.hid (HQ.out.below hb)
  have HC := Lib.hid hc; clear hc
  have hgh : h ≠ g := fun e => by have := blk_lt HK0.out.2; omega
  clear hb hg k0
  go_wp2_with fail
  refine (T1.out _ _ HC.out).mono ?_
  rintro e w2 ⟨rfl, hc, hk⟩
  have HB := Lib.hid (below_keeps HB.out hk (Nat.le_trans hbw HB.out.size) (fun i hi => by cases hi; exact hgb))
  have HQ := Lib.hid (HQ.out.keeps HC.out hk)
  have HK := Lib.hid (show IsSp T w2 h f q br from ⟨HK.out.1, hk.blk HK.out.2 hgh⟩)
  have HC := Lib.hid hc; clear hc hk
  have k0 := HK.out.c0
  go_wp2_with fail
  refine (F1.out _).mono ?_
  rintro e wq1 ⟨rfl, rfl⟩
  go_wp2_with fail
  refine (T2.out _ _ HC.out).mono ?_
  rintro e w3 ⟨rfl, hc, hk⟩
  have HB := Lib.hid (below_keeps HB.out hk (Nat.le_trans hbw HB.out.size) (fun i hi => by cases hi; exact hgb))
  have HQ := Lib.hid (HQ.out.keeps HC.out hk)
  have HK := Lib.hid (show IsSp T w3 h f q br from ⟨HK.out.1, hk.blk HK.out.2 hgh⟩)
  have HC := Lib.hid hc; clear hc hk k0
  go_wp2_with fail
  refine (T3.out _ _ HC.out).mono ?_
  rintro e w4 ⟨rfl, hc, hk⟩
  have HB := Lib.hid (below_keeps HB.out hk (Nat.le_trans hbw HB.out.size) (fun i hi => by cases hi; exact hgb))
  have HQ := Lib.hid (HQ.out.keeps HC.out hk)
  have HK := Lib.hid (show IsSp T w4 h f q br from ⟨HK.out.1, hk.blk HK.out.2 hgh⟩)
  clear hc hk HC
  have hbs := HB.out.size
  obtain ⟨A, mq, cq, rfl⟩ := HQ.out.slice_
  go_wp2_with (refine wpList_load_part rfl 28 (.tmp 46) rfl h 0 rfl T _ HK.out.range Try.underlying28 rfl HI.out ?_)
  refine (V2.out _).mono ?_
  rintro e w5 ⟨rfl, hb⟩
  have HB := Lib.hid (HB.out.trans (hb.mono (Nat.le_trans hbw hbs)))
  have HQ := Lib.hid (HQ.out.below hb)
  have HK := Lib.hid (HK.out.below hb)
  clear hb hbs
  have hbs := HB.out.size
  have k0 := HK.out.c0
  have k1 := HK.out.c1
  go_wp2_with (at_builtin; refine app_q (w0 := w) base rfl (.tmp 60) (.tmp 62) _ l p rfl rfl rfl HQ.out HB.out (Nat.le_trans hbw hbs) hlb ?_; intro v1 w6 HO1 HB1 HG1; have hx : IsSp T w6 h f (.slice A mq cq) br := ⟨HK.out.1, blk_grown HK.out.2 HG1.out (Kd.R_ne HQ.out HK.out.2 (by decide))⟩; have kc0 := hx.c0; have kc1 := hx.c1; have kf0 := hx.f 256; have kf1 := hx.f 257; have HX := Lib.hid hx; clear hx; obtain ⟨A1, m1, c1, rfl⟩ := HO1.out.slice_)
  go_ret
  exact ⟨_, rfl, (HX.out.set1 _).set0 _, (HO1.out.setsp HX.out 257 _).setsp (HX.out.set1 _) 256 _, below_setc (p := ⟨h, 256, none⟩) (below_setc (p := ⟨h, 257, none⟩) HB1.out hbh _) hbh _⟩
end Go.Proofs.Ythooihkkghfhkaa.My
