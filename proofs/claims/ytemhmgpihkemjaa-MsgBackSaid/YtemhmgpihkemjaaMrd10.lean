/- msg.Decode. -/
import Derived.Test.YtemhmgpihkemjaaMrdF
import Derived.Test.YtemhmgpihkemjaaWGuard
namespace Go.Proofs.Ytemhmgpihkemjaa.My
set_option linter.unusedSimpArgs false
set_option linter.unusedVariables false
open Go.RowKit Go.Proofs.YtemhmgpihkemjaaW.PrintWords Go.Proofs.YtemhmgpihkemjaaW.PrintLast Go.Proofs.Ytemhmgpihkemjaa.Pm

theorem zeroM_fit' : zeroM.Fit := by
  refine ⟨?_, ?_, ?_, ?_, ?_, ?_, ?_, ?_, ?_, ?_, ?_, ?_, ?_, ?_, ?_, ?_⟩ <;> first | decide | (unfold Ok32 zeroM; decide) | (intro p hp; simp [zeroM] at hp)
theorem fldM_fit {h last : Nat} {s : ByteArray} {r : RM} (hf : r.m.Fit) (ht : h / 2 ≤ last → (takeS (h / 2) s r).m.Fit) : (fldM h s last r).m.Fit := by
  unfold fldM
  split
  · exact hf
  · exact ht (by omega)
theorem takeS_left {k : Nat} (s : ByteArray) (r : RM) : (takeS k s r).left = r.left := by
  unfold takeS
  refine ite_rm (F := fun x => x.left) (fun _ => rfl) fun _ => ?_
  refine ite_rm (F := fun x => x.left) (fun _ => rfl) fun _ => ?_
  refine ite_rm (F := fun x => x.left) (fun _ => rfl) fun _ => ?_
  refine ite_rm (F := fun x => x.left) (fun _ => rfl) fun _ => ?_
  refine ite_rm (F := fun x => x.left) (fun _ => rfl) fun _ => ?_
  refine ite_rm (F := fun x => x.left) (fun _ => rfl) fun _ => ?_
  refine ite_rm (F := fun x => x.left) (fun _ => rfl) fun _ => ?_
  refine ite_rm (F := fun x => x.left) (fun _ => rfl) fun _ => ?_
  refine ite_rm (F := fun x => x.left) (fun _ => rfl) fun _ => ?_
  refine ite_rm (F := fun x => x.left) (fun _ => rfl) fun _ => ?_
  exact ite_rm (F := fun x => x.left) (fun _ => rfl) fun _ => rfl
theorem takeS_crit {k : Nat} (s : ByteArray) (r : RM) : (takeS k s r).crit = r.crit := by
  unfold takeS
  refine ite_rm (F := fun x => x.crit) (fun _ => rfl) fun _ => ?_
  refine ite_rm (F := fun x => x.crit) (fun _ => rfl) fun _ => ?_
  refine ite_rm (F := fun x => x.crit) (fun _ => rfl) fun _ => ?_
  refine ite_rm (F := fun x => x.crit) (fun _ => rfl) fun _ => ?_
  refine ite_rm (F := fun x => x.crit) (fun _ => rfl) fun _ => ?_
  refine ite_rm (F := fun x => x.crit) (fun _ => rfl) fun _ => ?_
  refine ite_rm (F := fun x => x.crit) (fun _ => rfl) fun _ => ?_
  refine ite_rm (F := fun x => x.crit) (fun _ => rfl) fun _ => ?_
  refine ite_rm (F := fun x => x.crit) (fun _ => rfl) fun _ => ?_
  refine ite_rm (F := fun x => x.crit) (fun _ => rfl) fun _ => ?_
  exact ite_rm (F := fun x => x.crit) (fun _ => rfl) fun _ => rfl
theorem fldM_left (h : Nat) (s : ByteArray) (last : Nat) (r : RM) : (fldM h s last r).left ≤ r.left + 1 := by
  unfold fldM
  split
  · exact Nat.le_refl _
  · show (takeS (h / 2) s r).left ≤ _
    rw [takeS_left]
    omega
theorem fldM_ws {h last : Nat} {s : ByteArray} {r : RM} (h9 : h / 2 ≠ 9) : (fldM h s last r).m.ws = r.m.ws := by
  unfold fldM
  split
  · rfl
  · exact takeS_ws s r h9
theorem decR0_fit (b : ByteArray) : (decR0 b).m.Fit := by
  have h := zeroM_fit'
  exact ⟨h.frm, h.tow, h.node, h.life, h.seq, ok32_mod _, h.a, h.b, h.key, h.time, h.value, h.ws, h.wss, h.note, h.hint, h.must⟩
theorem decL_stop {last n was : Nat} {s : ByteArray} {cb : Bool} {r : RM} (h : s.size = 0 ∨ cb = true ∨ r.bad = true) : decL last n s cb was r = (s, cb, r) := by
  cases n with
  | zero => rfl
  | succ k => rw [decL, if_pos h]
theorem fit_z {m : MsgS} (f : m.Fit) : m.Z := ⟨f.a, f.b, f.key, f.time, f.value, f.ws, f.wss, f.note, f.hint, f.must⟩
theorem marr_one (m : MsgS) (A : Option Addr) (n c : Nat) : (m.arr A n c).all (·.oneCell') = true := by unfold MsgS.arr; simp [Value.oneCell']
set_option maxRecDepth 100000 in
set_option maxHeartbeats 16000000 in
theorem decode_any (v : Int) (b : ByteArray) (w : World) (hbs : b.size ≤ 140737488351232) :
    Calls Try.prog 16 #[.int .i64 v, .string b] w fun e w' => ∃ A c, e = .returned (.tuple #[.agg ((decM v b).1.arr A (decM v b).1.ws.length c), .int .i64 ((decM v b).2.1 : Nat), .int .i64 ((decM v b).2.2 : Nat)]) ∧ OwnF w' w.heap.size 56 3 wrC (.slice A (decM v b).1.ws.length c) (decM v b).1.ws ∧ Below w.heap.size w w' := by
  have HK := Lib.hid (fun W => known_any v W)
  have hk12 := knownS_le v
  obtain ⟨⟨mm, lf, er⟩, hd⟩ : ∃ x, decM v b = x := ⟨_, rfl⟩
  rw [hd]
  unfold decM at hd
  generalize knownS v = K at *
  have HD := Lib.hid hd; clear hd
  have HR := Lib.hid (blk_new w (.cells #[.int .i64 0, .int .i64 0, .int .i64 0, .int .i64 0, .int .i64 0, .int .i64 0, .int .u64 0, .int .u64 0, .string ⟨#[]⟩, .bool false, .int .u64 0, .bool false, .string ⟨#[]⟩, .slice none 0 0, .string ⟨#[]⟩, .int .u64 0, .int .u64 0] 29))
  have HB := Lib.hid (below_alloc (Below.refl w.heap.size w) (.cells #[.int .i64 0, .int .i64 0, .int .i64 0, .int .i64 0, .int .i64 0, .int .i64 0, .int .u64 0, .int .u64 0, .string ⟨#[]⟩, .bool false, .int .u64 0, .bool false, .string ⟨#[]⟩, .slice none 0 0, .string ⟨#[]⟩, .int .u64 0, .int .u64 0] 29))
  go_enter Try.func16, Try.ntmps16
  go_wp2_with fail
  refine (HK.out _).mono ?_
  rintro e w1 ⟨rfl, rfl⟩
  clear HK
  obtain ⟨rr, hrr⟩ : ∃ x, w.heap.size = x := ⟨_, rfl⟩
  rw [hrr] at HR ⊢
  generalize w.alloc (.cells #[.int .i64 0, .int .i64 0, .int .i64 0, .int .i64 0, .int .i64 0, .int .i64 0, .int .u64 0, .int .u64 0, .string ⟨#[]⟩, .bool false, .int .u64 0, .bool false, .string ⟨#[]⟩, .slice none 0 0, .string ⟨#[]⟩, .int .u64 0, .int .u64 0] 29) = w1 at *
  have HRR := Lib.hid hrr; clear hrr
  by_cases h0 : K = 0
  · have y0 : ((K : Int) == 0) = true := beq_iff_eq.2 (by omega)
    have y0n : (K == 0) = true := beq_iff_eq.2 h0
    have H0 := Lib.hid h0; clear h0
    go_wp2_with (first | refine wpList_store_row rfl 29 _ _ rfl rr #[.int .i64 0, .int .i64 0, .int .i64 0, .int .i64 0, .int .i64 0, .int .i64 0, .int .u64 0, .int .u64 0, .string ⟨#[]⟩, .bool false, .int .u64 0, .bool false, .string ⟨#[]⟩, .slice none 0 0, .string ⟨#[]⟩, .int .u64 0, .int .u64 0] rfl rfl 29 _ HR.out (by kernel_rfl) rfl (by simp [Value.oneCell']) ?_ | fail)
    have HR2 := Lib.hid (setRow_heap _ _ _ #[.int .i64 0, .int .i64 0, .int .i64 0, .int .i64 0, .int .i64 0, .int .i64 0, .int .u64 0, .int .u64 0, .string ⟨#[]⟩, .bool false, .int .u64 0, .bool false, .string ⟨#[]⟩, .slice none 0 0, .string ⟨#[]⟩, .int .u64 0, .int .u64 0] _ _ HR.out)
    have HB2 := Lib.hid (below_setRow HB.out (by rw [HRR.out]; exact Nat.le_refl _) #[.int .i64 0, .int .i64 0, .int .i64 0, .int .i64 0, .int .i64 0, .int .i64 0, .int .u64 0, .int .u64 0, .string ⟨#[]⟩, .bool false, .int .u64 0, .bool false, .string ⟨#[]⟩, .slice none 0 0, .string ⟨#[]⟩, .int .u64 0, .int .u64 0])
    refine bodyPost_ret (res_ctt (a := ⟨?g1, 0, none⟩) (v := .agg ?cs1) rfl ?hp1 (load_row (g := ?g1) (cs := ?cs1) (t := ?t1) (fr := ?fr1) ?hrow1 _ _ Try.underlying29 rfl ?hi1)) rfl ?_
    case hp1 => rfl
    case hrow1 => exact HR2.out
    case hi1 => exact (by kernel_rfl)
    have hd := HD.out
    rw [if_pos H0.out] at hd
    injection hd with e1 e2
    injection e2 with e2 e3
    subst e1 e2 e3
    exact ⟨none, 0, rfl, OwnF.nil _ _ _ _ _, HB2.out⟩
  · have y0 : ((K : Int) == 0) = false := beq_eq_false_iff_ne.2 (by omega)
    have y0n : (K == 0) = false := beq_eq_false_iff_ne.2 h0
    have H0 := Lib.hid h0; clear h0
    by_cases h1 : 4000 < b.size
    · have y1 : decide (4000 < (b.size : Int)) = true := by simp; omega
      have y1n : decide (4000 < b.size) = true := by simp; omega
      have H1 := Lib.hid h1; clear h1
      go_wp2_with (first | refine wpList_store_row rfl 29 _ _ rfl rr #[.int .i64 0, .int .i64 0, .int .i64 0, .int .i64 0, .int .i64 0, .int .i64 0, .int .u64 0, .int .u64 0, .string ⟨#[]⟩, .bool false, .int .u64 0, .bool false, .string ⟨#[]⟩, .slice none 0 0, .string ⟨#[]⟩, .int .u64 0, .int .u64 0] rfl rfl 29 _ HR.out (by kernel_rfl) rfl (by simp [Value.oneCell']) ?_ | fail)
      have HR2 := Lib.hid (setRow_heap _ _ _ #[.int .i64 0, .int .i64 0, .int .i64 0, .int .i64 0, .int .i64 0, .int .i64 0, .int .u64 0, .int .u64 0, .string ⟨#[]⟩, .bool false, .int .u64 0, .bool false, .string ⟨#[]⟩, .slice none 0 0, .string ⟨#[]⟩, .int .u64 0, .int .u64 0] _ _ HR.out)
      have HB2 := Lib.hid (below_setRow HB.out (by rw [HRR.out]; exact Nat.le_refl _) #[.int .i64 0, .int .i64 0, .int .i64 0, .int .i64 0, .int .i64 0, .int .i64 0, .int .u64 0, .int .u64 0, .string ⟨#[]⟩, .bool false, .int .u64 0, .bool false, .string ⟨#[]⟩, .slice none 0 0, .string ⟨#[]⟩, .int .u64 0, .int .u64 0])
      refine bodyPost_ret (res_ctt (a := ⟨?g2, 0, none⟩) (v := .agg ?cs2) rfl ?hp2 (load_row (g := ?g2) (cs := ?cs2) (t := ?t2) (fr := ?fr2) ?hrow2 _ _ Try.underlying29 rfl ?hi2)) rfl ?_
      case hp2 => rfl
      case hrow2 => exact HR2.out
      case hi2 => exact (by kernel_rfl)
      have hd := HD.out
      rw [if_neg H0.out, if_pos H1.out] at hd
      injection hd with e1 e2
      injection e2 with e2 e3
      subst e1 e2 e3
      exact ⟨none, 0, rfl, OwnF.nil _ _ _ _ _, HB2.out⟩
    · have y1 : decide (4000 < (b.size : Int)) = false := by simp; omega
      have y1n : decide (4000 < b.size) = false := by simp; omega
      have H1 := Lib.hid h1
      have HSZ : w.heap.size ≤ w1.heap.size := HB.out.size
      have HG := Lib.hid (show IsRM (w1.alloc (.cells #[.int .i64 0, .int .i64 0, .int .i64 0, .int .i64 0, .int .i64 0, .int .i64 0, .int .u64 0, .int .u64 0, .string ⟨#[]⟩, .bool false, .int .u64 0, .bool false, .string ⟨#[]⟩, .slice none 0 0, .string ⟨#[]⟩, .int .u64 0, .int .u64 0, .int .i64 0, .bool false, .bool false] 66)) w.heap.size w1.heap.size ⟨zeroM, 0, false, false⟩ none 0 from ⟨⟨blk_new w1 (.cells #[.int .i64 0, .int .i64 0, .int .i64 0, .int .i64 0, .int .i64 0, .int .i64 0, .int .u64 0, .int .u64 0, .string ⟨#[]⟩, .bool false, .int .u64 0, .bool false, .string ⟨#[]⟩, .slice none 0 0, .string ⟨#[]⟩, .int .u64 0, .int .u64 0, .int .i64 0, .bool false, .bool false] 66), rfl⟩, OwnF.nil _ _ _ _ _⟩)
      have HRG := Lib.hid (blk_lt HR.out)
      replace HR := Lib.hid (blk_alloc HR.out (.cells #[.int .i64 0, .int .i64 0, .int .i64 0, .int .i64 0, .int .i64 0, .int .i64 0, .int .u64 0, .int .u64 0, .string ⟨#[]⟩, .bool false, .int .u64 0, .bool false, .string ⟨#[]⟩, .slice none 0 0, .string ⟨#[]⟩, .int .u64 0, .int .u64 0, .int .i64 0, .bool false, .bool false] 66))
      replace HB := Lib.hid (below_alloc HB.out (.cells #[.int .i64 0, .int .i64 0, .int .i64 0, .int .i64 0, .int .i64 0, .int .i64 0, .int .u64 0, .int .u64 0, .string ⟨#[]⟩, .bool false, .int .u64 0, .bool false, .string ⟨#[]⟩, .slice none 0 0, .string ⟨#[]⟩, .int .u64 0, .int .u64 0, .int .i64 0, .bool false, .bool false] 66))
      have HWG := Lib.hid (show w.heap.size ≤ w1.heap.size from HSZ)
      have u1 := curUint_lt64 b false
      have HU := Lib.hid (fun W g' (hc : IsCur W g' b false) => cur_uint_ok b g' W hc (by omega))
      have z1 := curUint_size b false
      have zf : (decR0 b).m.Fit := decR0_fit b
      have HF0 := Lib.hid (show decF K b = decL K (b.size + 1) (curUint b false).2.1 (curUint b false).2.2 0 (decR0 b) from rfl)
      have HRW := Lib.hid (show (decR0 b).left = 0 ∧ (decR0 b).m.ws = [] from ⟨rfl, rfl⟩)
      obtain ⟨R0, hR0⟩ : ∃ x, decR0 b = x := ⟨_, rfl⟩
      have HR0 := Lib.hid (show R0 = ⟨{ zeroM with kind := (((curUint b false).1 % 2147483648 : Nat) : Int) }, 0, false, decide (2147483647 < (curUint b false).1)⟩ from hR0.symm)
      rw [hR0] at HF0 zf HRW
      clear hR0
      obtain ⟨⟨n0, s0, cb0⟩, hu⟩ : ∃ u, curUint b false = u := ⟨_, rfl⟩
      simp only [hu] at HU u1 z1 HF0 HR0
      clear hu
      go_wp2_with fail
      obtain ⟨g, hg⟩ : ∃ x, w1.heap.size = x := ⟨_, rfl⟩
      rw [hg] at HG HRG HWG ⊢
      clear hg
      generalize w1.alloc (.cells #[.int .i64 0, .int .i64 0, .int .i64 0, .int .i64 0, .int .i64 0, .int .i64 0, .int .u64 0, .int .u64 0, .string ⟨#[]⟩, .bool false, .int .u64 0, .bool false, .string ⟨#[]⟩, .slice none 0 0, .string ⟨#[]⟩, .int .u64 0, .int .u64 0, .int .i64 0, .bool false, .bool false] 66) = w2 at *
      refine (cur_made b _).mono ?_
      rintro e w3 ⟨gc, rfl, hgc, hc, hb⟩
      have HGC := Lib.hid (show g < gc from Nat.lt_of_lt_of_le HG.out.blk.lt hgc)
      replace HR := Lib.hid (blk_below HR.out hb)
      replace HG := Lib.hid (HG.out.below hb)
      replace HB := Lib.hid (HB.out.trans (hb.mono HB.out.size)); clear hb hgc
      have HC := Lib.hid hc; clear hc
      go_wp2_with fail
      refine (HU.out _ _ HC.out).mono ?_
      rintro e w4 ⟨rfl, hc, hk⟩
      replace HR := Lib.hid (hk.blk HR.out (fun e => by have e : rr = gc := e; have := HRG.out; have := HGC.out; omega))
      replace HG := Lib.hid (HG.out.cur HC.out hk)
      replace HC := Lib.hid hc; clear hc
      replace HB := Lib.hid (HB.out.trans (hk.to_below HB.out.size (fun i hi => by have hi : i = gc := hi; have := HWG.out; have := HGC.out; omega))); clear hk
      go_wp2_with fail
      refine (rd_int g _ n0 false w4 HG.out.blk rfl u1).mono ?_
      rintro e w5 ⟨rfl, h5, hk⟩
      replace HR := Lib.hid (hk.blk HR.out (fun e => by have e : rr = g := e; have := HRG.out; omega))
      have HO := Lib.hid (HG.out.own.mr HG.out.blk (by decide) hk)
      replace HC := Lib.hid (HC.out.kept hk (fun e => by have e : gc = g := e; have := HGC.out; omega))
      replace HB := Lib.hid (HB.out.trans (hk.to_below HB.out.size (fun i hi => by have hi : i = g := hi; have := HWG.out; omega))); clear hk
      have HG5 := Lib.hid h5; clear h5
      obtain ⟨y0, hy0⟩ := HG5.out.some (i := 0) (by decide)
      have f0 := HG5.out.f 0
      have hgl := HG5.out.lt
      go_wp2
      have HG6 := Lib.hid (show IsRM (w5.setCell ⟨g, 0, none⟩ (.int .i64 ((n0 : Int) % 2147483648))) w.heap.size g R0 none 0 from by
        rw [HR0.out]
        exact ⟨HG5.out.set 0 _, HO.out.mr HG5.out (by decide) ((Keeps.refl (Only g) _).own 0 _)⟩)
      replace HC := Lib.hid (HC.out.kept ((Keeps.refl (Only g) _).own 0 (.int .i64 ((n0 : Int) % 2147483648))) (fun e => by have e : gc = g := e; have := HGC.out; omega))
      replace HR := Lib.hid (((Keeps.refl (Only g) _).own 0 (.int .i64 ((n0 : Int) % 2147483648))).blk HR.out (fun e => by have e : rr = g := e; have := HRG.out; omega))
      replace HB := Lib.hid (HB.out.trans (((Keeps.refl (Only g) _).own 0 (.int .i64 ((n0 : Int) % 2147483648))).to_below HB.out.size (fun i hi => by have hi : i = g := hi; have := HWG.out; omega)))
      clear HG5 HO hy0 f0 hgl HG HU HR0
      generalize w5.setCell ⟨g, 0, none⟩ (.int .i64 ((n0 : Int) % 2147483648)) = w6 at *
      obtain ⟨⟨sF, cbF, rF⟩, hF⟩ : ∃ x, decF K b = x := ⟨_, rfl⟩
      have hd := HD.out
      have hf0 := HF0.out
      rw [hF] at hd hf0
      simp only at hd
      replace HD := Lib.hid hd
      replace HF0 := Lib.hid hf0
      have HZF := Lib.hid zf
      have HB40 := Lib.hid (show b.size ≤ 4000 by omega)
      have HS0 := Lib.hid (show s0.size ≤ b.size from z1)
      have HRL := Lib.hid (show R0.left = 0 ∧ R0.m.ws = [] from HRW.out)
      clear hd hf0 hF zf u1 z1 h1 y0 y0n y1 y1n hbs
      go_loopw [10] (fun u wr => ∃ (n was : Nat) (s : ByteArray) (cb : Bool) (r : RM) (A : Option Addr) (c : Nat), u = .int .u64 was ∧ IsCur wr gc s cb ∧ IsRM wr w.heap.size g r A c ∧ wr.heap[rr]? = some (.cells #[.int .i64 0, .int .i64 0, .int .i64 0, .int .i64 0, .int .i64 0, .int .i64 0, .int .u64 0, .int .u64 0, .string ⟨#[]⟩, .bool false, .int .u64 0, .bool false, .string ⟨#[]⟩, .slice none 0 0, .string ⟨#[]⟩, .int .u64 0, .int .u64 0] 29 (0, 0)) ∧ Below w.heap.size w wr ∧ decL K n s cb was r = (sF, cbF, rF) ∧ (cb = true ∨ s.size < n) ∧ r.m.Fit ∧ (r.bad = false → was < 9 → r.m.ws = [] ∧ A = none ∧ c = 0) ∧ r.left ≤ 4000 ∧ (cb = false → r.left + s.size ≤ 4000) ∧ s.size ≤ 4000) (fun _ wr => curM wr gc)
      case atStart => exact ⟨b.size + 1, 0, s0, cb0, R0, none, 0, rfl, HC.out, HG6.out, HR.out, HB.out, HF0.out.symm, .inr (by have := HS0.out; omega), HZF.out, fun _ _ => ⟨HRL.out.2, rfl, rfl⟩, by rw [HRL.out.1]; decide, fun _ => by rw [HRL.out.1]; have := HS0.out; have := HB40.out; omega, by have := HS0.out; have := HB40.out; omega⟩
      case round =>
        clear HC HG6 HR HB HF0 HZF HS0 HRL
        obtain ⟨n, was, s, cb, r, A, c, rfl, hc, hg, hr, hb, hF, hn, hft, hws, hlf, hls, hsz⟩ := hrel
        have HC := Lib.hid hc; clear hc
        have HG := Lib.hid hg; clear hg
        have HR := Lib.hid hr; clear hr
        have HB := Lib.hid hb; clear hb
        have HF := Lib.hid hF; clear hF
        have HN := Lib.hid hn; clear hn
        have HFT := Lib.hid hft; clear hft
        have HWS := Lib.hid hws; clear hws
        have HLF := Lib.hid hlf; clear hlf
        have HLS := Lib.hid hls; clear hls
        have HSZ2 := Lib.hid hsz
        have c19 := HG.out.blk.cell (RM.a19 r A r.m.ws.length c)
        have f19 := HG.out.blk.f 19
        have hgl := HG.out.blk.lt
        by_cases hs0 : s.size = 0
        · have y1 : decide (0 < (s.size : Int)) = false := decide_eq_false (by omega)
          have y1n : decide (0 < s.size) = false := decide_eq_false (by omega)
          have hF := HF.out
          rw [decL_stop (.inl hs0)] at hF
          injection hF with e1 e2
          injection e2 with e2 e3
          subst e1 e2 e3
          clear HF
          cases cb with
          | true =>
            go_wp2_with fail
            refine (cur_left s true gc wr HC.out).mono ?_
            rintro e w7 ⟨rfl, rfl⟩
            go_wp2_with fail
            refine (cur_bad s true gc wr HC.out).mono ?_
            rintro e w7 ⟨rfl, rfl⟩
            go_wp2_with (first | refine wpList_store_row rfl 29 _ _ rfl rr #[.int .i64 0, .int .i64 0, .int .i64 0, .int .i64 0, .int .i64 0, .int .i64 0, .int .u64 0, .int .u64 0, .string ⟨#[]⟩, .bool false, .int .u64 0, .bool false, .string ⟨#[]⟩, .slice none 0 0, .string ⟨#[]⟩, .int .u64 0, .int .u64 0] rfl rfl 29 _ HR.out (by kernel_rfl) rfl (by simp [Value.oneCell']) ?_ | fail)
            have HR2 := Lib.hid (setRow_heap _ _ _ #[.int .i64 0, .int .i64 0, .int .i64 0, .int .i64 0, .int .i64 0, .int .i64 0, .int .u64 0, .int .u64 0, .string ⟨#[]⟩, .bool false, .int .u64 0, .bool false, .string ⟨#[]⟩, .slice none 0 0, .string ⟨#[]⟩, .int .u64 0, .int .u64 0] _ _ HR.out)
            have HB2 := Lib.hid (below_setRow HB.out (by rw [HRR.out]; exact Nat.le_refl _) #[.int .i64 0, .int .i64 0, .int .i64 0, .int .i64 0, .int .i64 0, .int .i64 0, .int .u64 0, .int .u64 0, .string ⟨#[]⟩, .bool false, .int .u64 0, .bool false, .string ⟨#[]⟩, .slice none 0 0, .string ⟨#[]⟩, .int .u64 0, .int .u64 0])
            refine bodyPost_ret (res_ctt (a := ⟨?g3, 0, none⟩) (v := .agg ?cs3) rfl ?hp3 (load_row (g := ?g3) (cs := ?cs3) (t := ?t3) (fr := ?fr3) ?hrow3 _ _ Try.underlying29 rfl ?hi3)) rfl ?_
            case hp3 => rfl
            case hrow3 => exact HR2.out
            case hi3 => exact (by kernel_rfl)
            have hd := HD.out
            rw [if_neg H0.out, if_neg H1.out, if_pos (by simp)] at hd
            injection hd with e1 e2
            injection e2 with e2 e3
            subst e1 e2 e3
            exact ⟨none, 0, rfl, OwnF.nil _ _ _ _ _, HB2.out⟩
          | false =>
            obtain ⟨m, left, crit, bad⟩ := r
            cases bad with
            | true =>
              go_wp2_with fail
              refine (cur_left s false gc wr HC.out).mono ?_
              rintro e w7 ⟨rfl, rfl⟩
              go_wp2_with fail
              refine (cur_bad s false gc wr HC.out).mono ?_
              rintro e w7 ⟨rfl, rfl⟩
              go_wp2_with (first | refine wpList_store_row rfl 29 _ _ rfl rr #[.int .i64 0, .int .i64 0, .int .i64 0, .int .i64 0, .int .i64 0, .int .i64 0, .int .u64 0, .int .u64 0, .string ⟨#[]⟩, .bool false, .int .u64 0, .bool false, .string ⟨#[]⟩, .slice none 0 0, .string ⟨#[]⟩, .int .u64 0, .int .u64 0] rfl rfl 29 _ HR.out (by kernel_rfl) rfl (by simp [Value.oneCell']) ?_ | fail)
              have HR2 := Lib.hid (setRow_heap _ _ _ #[.int .i64 0, .int .i64 0, .int .i64 0, .int .i64 0, .int .i64 0, .int .i64 0, .int .u64 0, .int .u64 0, .string ⟨#[]⟩, .bool false, .int .u64 0, .bool false, .string ⟨#[]⟩, .slice none 0 0, .string ⟨#[]⟩, .int .u64 0, .int .u64 0] _ _ HR.out)
              have HB2 := Lib.hid (below_setRow HB.out (by rw [HRR.out]; exact Nat.le_refl _) #[.int .i64 0, .int .i64 0, .int .i64 0, .int .i64 0, .int .i64 0, .int .i64 0, .int .u64 0, .int .u64 0, .string ⟨#[]⟩, .bool false, .int .u64 0, .bool false, .string ⟨#[]⟩, .slice none 0 0, .string ⟨#[]⟩, .int .u64 0, .int .u64 0])
              refine bodyPost_ret (res_ctt (a := ⟨?g4, 0, none⟩) (v := .agg ?cs4) rfl ?hp4 (load_row (g := ?g4) (cs := ?cs4) (t := ?t4) (fr := ?fr4) ?hrow4 _ _ Try.underlying29 rfl ?hi4)) rfl ?_
              case hp4 => rfl
              case hrow4 => exact HR2.out
              case hi4 => exact (by kernel_rfl)
              have hd := HD.out
              rw [if_neg H0.out, if_neg H1.out, if_pos (by simp)] at hd
              injection hd with e1 e2
              injection e2 with e2 e3
              subst e1 e2 e3
              exact ⟨none, 0, rfl, OwnF.nil _ _ _ _ _, HB2.out⟩
            | false =>
              obtain ⟨nw, hnw⟩ : ∃ x, m.ws.length = x := ⟨_, rfl⟩
              have HRN := Lib.hid (show IsMR wr g (RM.arr ⟨m, left, crit, false⟩ A nw c) by rw [← hnw]; exact HG.out.blk)
              have HON := Lib.hid (show OwnF wr w.heap.size 56 3 wrC (.slice A nw c) m.ws by rw [← hnw]; exact HG.out.own)
              have HWR := Lib.hid (row_wrs (HON.out.row wrC_len))
              have HNW := Lib.hid hnw
              have HRA := Lib.hid (right_any m A nw c wr (fit_z HFT.out) HWR.out)
              obtain ⟨rb, hrb⟩ : ∃ x, rightB m = x := ⟨_, rfl⟩
              rw [hrb] at HRA
              have HRB := Lib.hid hrb
              have hR := rm_range HRN.out
              obtain ⟨arrM, hM⟩ : ∃ x, m.arr A nw c = x := ⟨_, rfl⟩
              have hsz9 : (Try.prog.info? 29).map (·.size) = some arrM.size := by rw [← hM]; exact info_msgL
              have hone : arrM.all (·.oneCell') = true := by rw [← hM]; exact marr_one m A nw c
              have HMM := Lib.hid hM
              have HSZ17 := Lib.hid (show arrM.size = 17 by rw [← hM]; rfl)
              replace hR : wr.rangeAt g 0 arrM.toList := by rw [← hM]; exact hR
              rw [hM] at HRA
              have HQ := Lib.hid hR
              clear hR hM hnw hrb
              go_wp2_with fail
              refine (cur_left s false gc wr HC.out).mono ?_
              rintro e w7 ⟨rfl, rfl⟩
              go_wp2_with fail
              refine (cur_bad s false gc wr HC.out).mono ?_
              rintro e w7 ⟨rfl, rfl⟩
              go_wp2_with (first | refine gate_guard (by rfl) (wpList_load_part rfl 29 _ rfl g 0 rfl arrM _ HQ.out Try.underlying29 rfl hsz9 ?_) | fail)
              refine HRA.out.mono ?_
              rintro e w8 ⟨rfl, hb8⟩
              replace HR := Lib.hid (blk_below HR.out hb8)
              replace HRN := Lib.hid (HRN.out.below hb8)
              replace HON := Lib.hid (HON.out.below hb8)
              replace HB := Lib.hid (HB.out.trans (hb8.mono HB.out.size))
              clear hb8 HQ c19 f19 hgl
              cases rb with
              | false =>
                go_wp2_with (first | refine wpList_store_row rfl 29 _ _ rfl rr #[.int .i64 0, .int .i64 0, .int .i64 0, .int .i64 0, .int .i64 0, .int .i64 0, .int .u64 0, .int .u64 0, .string ⟨#[]⟩, .bool false, .int .u64 0, .bool false, .string ⟨#[]⟩, .slice none 0 0, .string ⟨#[]⟩, .int .u64 0, .int .u64 0] rfl rfl 29 _ HR.out (by kernel_rfl) rfl (by simp [Value.oneCell']) ?_ | fail)
                have HR2 := Lib.hid (setRow_heap _ _ _ #[.int .i64 0, .int .i64 0, .int .i64 0, .int .i64 0, .int .i64 0, .int .i64 0, .int .u64 0, .int .u64 0, .string ⟨#[]⟩, .bool false, .int .u64 0, .bool false, .string ⟨#[]⟩, .slice none 0 0, .string ⟨#[]⟩, .int .u64 0, .int .u64 0] _ _ HR.out)
                have HB2 := Lib.hid (below_setRow HB.out (by rw [HRR.out]; exact Nat.le_refl _) #[.int .i64 0, .int .i64 0, .int .i64 0, .int .i64 0, .int .i64 0, .int .i64 0, .int .u64 0, .int .u64 0, .string ⟨#[]⟩, .bool false, .int .u64 0, .bool false, .string ⟨#[]⟩, .slice none 0 0, .string ⟨#[]⟩, .int .u64 0, .int .u64 0])
                refine bodyPost_ret (res_ctt (a := ⟨?g5, 0, none⟩) (v := .agg ?cs5) rfl ?hp5 (load_row (g := ?g5) (cs := ?cs5) (t := ?t5) (fr := ?fr5) ?hrow5 _ _ Try.underlying29 rfl ?hi5)) rfl ?_
                case hp5 => rfl
                case hrow5 => exact HR2.out
                case hi5 => exact (by kernel_rfl)
                have hd := HD.out
                rw [if_neg H0.out, if_neg H1.out, if_pos (by simp [HRB.out])] at hd
                injection hd with e1 e2
                injection e2 with e2 e3
                subst e1 e2 e3
                exact ⟨none, 0, rfl, OwnF.nil _ _ _ _ _, HB2.out⟩
              | true =>
                have c18 := HRN.out.cell (show (RM.arr ⟨m, left, crit, false⟩ A nw c)[18]? = some (.bool crit) from rfl)
                have c17 := HRN.out.cell (show (RM.arr ⟨m, left, crit, false⟩ A nw c)[17]? = some (.int .i64 (left : Int)) from rfl)
                have HQ := Lib.hid (show w8.rangeAt g 0 arrM.toList by rw [← HMM.out]; exact rm_range HRN.out)
                have hnb : ¬ (false = true ∨ false = true ∨ rightB m = false) := by rintro (h | h | h); cases h; cases h; rw [HRB.out] at h; cases h
                have HNB := Lib.hid hnb; clear hnb
                have hgl := HRN.out.lt
                have hrl := blk_lt HR.out
                cases crit with
                | true =>
                  go_wp2_with (first | refine wpList_store_row rfl 29 _ _ rfl rr #[.int .i64 0, .int .i64 0, .int .i64 0, .int .i64 0, .int .i64 0, .int .i64 0, .int .u64 0, .int .u64 0, .string ⟨#[]⟩, .bool false, .int .u64 0, .bool false, .string ⟨#[]⟩, .slice none 0 0, .string ⟨#[]⟩, .int .u64 0, .int .u64 0] rfl rfl 29 _ HR.out (by kernel_rfl) rfl (by simp [Value.oneCell']) ?_ | fail)
                  have HR2 := Lib.hid (setRow_heap _ _ _ #[.int .i64 0, .int .i64 0, .int .i64 0, .int .i64 0, .int .i64 0, .int .i64 0, .int .u64 0, .int .u64 0, .string ⟨#[]⟩, .bool false, .int .u64 0, .bool false, .string ⟨#[]⟩, .slice none 0 0, .string ⟨#[]⟩, .int .u64 0, .int .u64 0] _ _ HR.out)
                  have HB2 := Lib.hid (below_setRow HB.out (by rw [HRR.out]; exact Nat.le_refl _) #[.int .i64 0, .int .i64 0, .int .i64 0, .int .i64 0, .int .i64 0, .int .i64 0, .int .u64 0, .int .u64 0, .string ⟨#[]⟩, .bool false, .int .u64 0, .bool false, .string ⟨#[]⟩, .slice none 0 0, .string ⟨#[]⟩, .int .u64 0, .int .u64 0])
                  refine bodyPost_ret (res_ctt (a := ⟨?g6, 0, none⟩) (v := .agg ?cs6) rfl ?hp6 (load_row (g := ?g6) (cs := ?cs6) (t := ?t6) (fr := ?fr6) ?hrow6 _ _ Try.underlying29 rfl ?hi6)) rfl ?_
                  case hp6 => rfl
                  case hrow6 => exact HR2.out
                  case hi6 => exact (by kernel_rfl)
                  have hd := HD.out
                  rw [if_neg H0.out, if_neg H1.out, if_neg HNB.out, if_pos (by simp)] at hd
                  injection hd with e1 e2
                  injection e2 with e2 e3
                  subst e1 e2 e3
                  exact ⟨none, 0, rfl, OwnF.nil _ _ _ _ _, HB2.out⟩
                | false =>
                  have HRS := Lib.hid (show IsMR (w8.drew.setRow rr arrM) g (RM.arr ⟨m, left, false, false⟩ A nw c) from ⟨(setRow_other w8.drew rr g arrM (fun e => by have := HRG.out; omega)).trans (blk_drew HRN.out.1), HRN.out.2⟩)
                  have HRS2 := Lib.hid (show (w8.drew.setRow rr arrM).rangeAt g 0 arrM.toList by have h := rm_range HRS.out; rw [show (RM.mk m left false false).m.arr A nw c = arrM from HMM.out] at h; exact h)
                  go_wp2
                  refine start_ (n := 11) (S := fun w' => w'.rangeAt g 0 arrM.toList ∧ w'.cell? ⟨g, 17, none⟩ = some (.int .i64 (left : Int))) (ds := []) #[false, false, false, false, false, false, false, false, false, false, false] (by kernel_rfl) rfl rfl ⟨(show w8.drew.rangeAt g 0 arrM.toList from HQ.out), c17⟩ (fun hHeld => ?_)
                  replace HR := Lib.hid (blk_drew HR.out)
                  replace HB := Lib.hid (below_drew HB.out)
                  refine pure_ (i := 0) (N := some 109) (v := ?_) (a' := ?_) #[true, false, false, false, false, false, false, false, false, false, false] rfl rfl (by kernel_rfl) (fun _ _ _ h => h) (Or.inl ⟨by rfl, ?_⟩) ?_ ?_
                  rotate_left
                  · intro w'
                    go_simp
                    with_reducible rfl
                  rotate_left
                  · simp only [Act.put, List.setIfInBounds_toArray, List.set_cons_zero, List.set_cons_succ, i64_w, i32_w]
                    rfl
                  refine pure_ (i := 1) (N := some 110) (v := ?_) (a' := ?_) #[true, true, false, false, false, false, false, false, false, false, false] rfl rfl (by kernel_rfl) (fun _ _ _ h => h) (Or.inl ⟨by rfl, ?_⟩) ?_ ?_
                  rotate_left
                  · intro w'
                    go_simp
                    with_reducible rfl
                  rotate_left
                  · simp only [Act.put, List.setIfInBounds_toArray, List.set_cons_zero, List.set_cons_succ, i64_w, i32_w]
                    rfl
                  refine pure_ (i := 2) (N := some 111) (v := ?_) (a' := ?_) #[true, true, true, false, false, false, false, false, false, false, false] rfl rfl (by kernel_rfl) (fun _ _ _ h => h) (Or.inl ⟨by rfl, ?_⟩) ?_ ?_
                  rotate_left
                  · intro w'
                    go_simp
                    with_reducible rfl
                  rotate_left
                  · simp only [Act.put, List.setIfInBounds_toArray, List.set_cons_zero, List.set_cons_succ, i64_w, i32_w]
                    rfl
                  refine pure_ (i := 4) (N := some 113) (v := ?_) (a' := ?_) #[true, true, true, false, true, false, false, false, false, false, false] rfl rfl (by kernel_rfl) (fun _ _ _ h => h) (Or.inl ⟨by rfl, ?_⟩) ?_ ?_
                  rotate_left
                  · intro w'
                    go_simp
                    with_reducible rfl
                  rotate_left
                  · simp only [Act.put, List.setIfInBounds_toArray, List.set_cons_zero, List.set_cons_succ, i64_w, i32_w]
                    rfl
                  refine pure_ (i := 5) (N := some 114) (v := ?_) (a' := ?_) #[true, true, true, false, true, true, false, false, false, false, false] rfl rfl (by kernel_rfl) (fun _ _ _ h => h) (Or.inl ⟨by rfl, ?_⟩) ?_ ?_
                  rotate_left
                  · intro w'
                    go_simp
                    with_reducible rfl
                  rotate_left
                  · simp only [Act.put, List.setIfInBounds_toArray, List.set_cons_zero, List.set_cons_succ, i64_w, i32_w]
                    rfl
                  refine pure_ (i := 6) (N := some 115) (v := ?_) (a' := ?_) #[true, true, true, false, true, true, true, false, false, false, false] rfl rfl (by kernel_rfl) (fun _ _ _ h => h) (Or.inl ⟨by rfl, ?_⟩) ?_ ?_
                  rotate_left
                  · intro w'
                    go_simp
                    with_reducible rfl
                  rotate_left
                  · simp only [Act.put, List.setIfInBounds_toArray, List.set_cons_zero, List.set_cons_succ, i64_w, i32_w]
                    rfl
                  refine take_ (i := 3) (N := some 112) (v := ?_) (a' := ?_) #[true, true, true, true, true, true, true, false, false, false, false] rfl rfl (by kernel_rfl) (fun _ _ _ h => h) (Or.inl ⟨by rfl, ?_⟩) hHeld ?_ ?_
                  rotate_left
                  · rintro w' ⟨s0, s1⟩
                    refine run_midrow 29 (.tmp 111) ?_ g 0 ?_ arrM.toList _ s0 Try.underlying29 rfl (by rw [Array.length_toList]; exact hsz9) <;> rfl
                  rotate_left
                  · simp only [Act.put, List.setIfInBounds_toArray, List.set_cons_zero, List.set_cons_succ, i64_w, i32_w]
                    rfl
                  refine take_ (i := 7) (N := some 116) (v := ?_) (a' := ?_) #[true, true, true, true, true, true, true, true, false, false, false] rfl rfl (by kernel_rfl) (fun _ _ _ h => h) (Or.inl ⟨by rfl, ?_⟩) hHeld ?_ ?_
                  rotate_left
                  · rintro w' ⟨s0, s1⟩
                    go_simp
                    with_reducible rfl
                  rotate_left
                  · simp only [Act.put, List.setIfInBounds_toArray, List.set_cons_zero, List.set_cons_succ, i64_w, i32_w]
                    rfl
                  refine one_ (i := 8) (N := none) #[true, true, true, true, true, true, true, true, true, false, false] rfl rfl (by kernel_rfl) (by decide) (fun K hK => ?_)
                  refine skip_ (w1 := w8.drew.setRow rr arrM) (by rfl) rfl (by refine run_strow 29 (.tmp 4) (.tmp 112) ?_ rr arrM ?_ ?_ 29 _ HR.out hsz9 (by rw [show arrM.size = 17 from HSZ17.out]; rfl) hone <;> rfl) ?_
                  refine hK.out _ _ ⟨HRS2.out, (HRS.out.cell rfl)⟩ (fun hHeld => ?_)
                  clear hK K
                  refine pure_ (i := 9) (N := some 5) (v := ?_) (a' := ?_) #[true, true, true, true, true, true, true, true, true, true, false] rfl rfl (by kernel_rfl) (fun _ _ _ h => h) (Or.inl ⟨by rfl, ?_⟩) ?_ ?_
                  rotate_left
                  · intro w'
                    go_simp
                    with_reducible rfl
                  rotate_left
                  · simp only [Act.put, List.setIfInBounds_toArray, List.set_cons_zero, List.set_cons_succ, i64_w, i32_w]
                    rfl
                  refine pure_ (i := 10) (N := some 6) (v := ?_) (a' := ?_) #[true, true, true, true, true, true, true, true, true, true, true] rfl rfl (by kernel_rfl) (fun _ _ _ h => h) (Or.inl ⟨by rfl, ?_⟩) ?_ ?_
                  rotate_left
                  · intro w'
                    go_simp
                    with_reducible rfl
                  rotate_left
                  · simp only [Act.put, List.setIfInBounds_toArray, List.set_cons_zero, List.set_cons_succ, i64_w, i32_w]
                    rfl
                  refine done_ (by kernel_rfl) ?_

                  go_wp2
                  have HR2 := Lib.hid (setRow_heap w8.drew rr _ arrM _ _ HR.out)
                  have HB2 := Lib.hid (below_setRow HB.out (by rw [HRR.out]; exact Nat.le_refl _) arrM)
                  have HO2 := Lib.hid (show OwnF (w8.drew.setRow rr arrM) w.heap.size 56 3 wrC (.slice A nw c) m.ws from (HON.out.below (below_drew (Below.refl _ _))).keep fun x hx hlt => setRow_other w8.drew rr x arrM (fun e => (HON.out.below (below_drew (Below.refl _ _))).ne_type HR.out (by decide) (by rw [hx]; exact congrArg some e)))
                  refine bodyPost_ret (res_ctt (a := ⟨?g99, 0, none⟩) (v := .agg ?cs99) rfl ?hp99 (load_row (g := ?g99) (cs := ?cs99) (t := ?t99) (fr := ?fr99) ?hrow99 _ _ Try.underlying29 rfl ?hi99)) rfl ?_
                  case hp99 => rfl
                  case hrow99 => exact HR2.out
                  case hi99 => exact hsz9
                  have hd := HD.out
                  rw [if_neg H0.out, if_neg H1.out, if_neg HNB.out, if_neg (by simp)] at hd
                  injection hd with e1 e2
                  injection e2 with e2 e3
                  subst e1 e2 e3
                  refine ⟨A, c, ?_, ?_, HB2.out⟩
                  · rw [HNW.out, HMM.out]
                    rfl
                  · rw [HNW.out]
                    exact HO2.out
        · have y1 : decide (0 < (s.size : Int)) = true := decide_eq_true (by omega)
          have y1n : decide (0 < s.size) = true := decide_eq_true (by omega)
          cases cb with
          | true =>
            have hF := HF.out
            rw [decL_stop (.inr (.inl rfl))] at hF
            injection hF with e1 e2
            injection e2 with e2 e3
            subst e1 e2 e3
            clear HF
            go_wp2_with fail
            refine (cur_left s true gc wr HC.out).mono ?_
            rintro e w7 ⟨rfl, rfl⟩
            go_wp2_with fail
            refine (cur_bad s true gc wr HC.out).mono ?_
            rintro e w7 ⟨rfl, rfl⟩
            go_wp2_with fail
            refine (cur_bad s true gc wr HC.out).mono ?_
            rintro e w7 ⟨rfl, rfl⟩
            go_wp2_with (first | refine wpList_store_row rfl 29 _ _ rfl rr #[.int .i64 0, .int .i64 0, .int .i64 0, .int .i64 0, .int .i64 0, .int .i64 0, .int .u64 0, .int .u64 0, .string ⟨#[]⟩, .bool false, .int .u64 0, .bool false, .string ⟨#[]⟩, .slice none 0 0, .string ⟨#[]⟩, .int .u64 0, .int .u64 0] rfl rfl 29 _ HR.out (by kernel_rfl) rfl (by simp [Value.oneCell']) ?_ | fail)
            have HR2 := Lib.hid (setRow_heap _ _ _ #[.int .i64 0, .int .i64 0, .int .i64 0, .int .i64 0, .int .i64 0, .int .i64 0, .int .u64 0, .int .u64 0, .string ⟨#[]⟩, .bool false, .int .u64 0, .bool false, .string ⟨#[]⟩, .slice none 0 0, .string ⟨#[]⟩, .int .u64 0, .int .u64 0] _ _ HR.out)
            have HB2 := Lib.hid (below_setRow HB.out (by rw [HRR.out]; exact Nat.le_refl _) #[.int .i64 0, .int .i64 0, .int .i64 0, .int .i64 0, .int .i64 0, .int .i64 0, .int .u64 0, .int .u64 0, .string ⟨#[]⟩, .bool false, .int .u64 0, .bool false, .string ⟨#[]⟩, .slice none 0 0, .string ⟨#[]⟩, .int .u64 0, .int .u64 0])
            refine bodyPost_ret (res_ctt (a := ⟨?g8, 0, none⟩) (v := .agg ?cs8) rfl ?hp8 (load_row (g := ?g8) (cs := ?cs8) (t := ?t8) (fr := ?fr8) ?hrow8 _ _ Try.underlying29 rfl ?hi8)) rfl ?_
            case hp8 => rfl
            case hrow8 => exact HR2.out
            case hi8 => exact (by kernel_rfl)
            have hd := HD.out
            rw [if_neg H0.out, if_neg H1.out, if_pos (by simp)] at hd
            injection hd with e1 e2
            injection e2 with e2 e3
            subst e1 e2 e3
            exact ⟨none, 0, rfl, OwnF.nil _ _ _ _ _, HB2.out⟩
          | false =>
            obtain ⟨m, left, crit, bad⟩ := r
            cases bad with
            | true =>
              have hF := HF.out
              rw [decL_stop (.inr (.inr rfl))] at hF
              injection hF with e1 e2
              injection e2 with e2 e3
              subst e1 e2 e3
              clear HF
              go_wp2_with fail
              refine (cur_left s false gc wr HC.out).mono ?_
              rintro e w7 ⟨rfl, rfl⟩
              go_wp2_with fail
              refine (cur_bad s false gc wr HC.out).mono ?_
              rintro e w7 ⟨rfl, rfl⟩
              go_wp2_with fail
              refine (cur_bad s false gc wr HC.out).mono ?_
              rintro e w7 ⟨rfl, rfl⟩
              go_wp2_with (first | refine wpList_store_row rfl 29 _ _ rfl rr #[.int .i64 0, .int .i64 0, .int .i64 0, .int .i64 0, .int .i64 0, .int .i64 0, .int .u64 0, .int .u64 0, .string ⟨#[]⟩, .bool false, .int .u64 0, .bool false, .string ⟨#[]⟩, .slice none 0 0, .string ⟨#[]⟩, .int .u64 0, .int .u64 0] rfl rfl 29 _ HR.out (by kernel_rfl) rfl (by simp [Value.oneCell']) ?_ | fail)
              have HR2 := Lib.hid (setRow_heap _ _ _ #[.int .i64 0, .int .i64 0, .int .i64 0, .int .i64 0, .int .i64 0, .int .i64 0, .int .u64 0, .int .u64 0, .string ⟨#[]⟩, .bool false, .int .u64 0, .bool false, .string ⟨#[]⟩, .slice none 0 0, .string ⟨#[]⟩, .int .u64 0, .int .u64 0] _ _ HR.out)
              have HB2 := Lib.hid (below_setRow HB.out (by rw [HRR.out]; exact Nat.le_refl _) #[.int .i64 0, .int .i64 0, .int .i64 0, .int .i64 0, .int .i64 0, .int .i64 0, .int .u64 0, .int .u64 0, .string ⟨#[]⟩, .bool false, .int .u64 0, .bool false, .string ⟨#[]⟩, .slice none 0 0, .string ⟨#[]⟩, .int .u64 0, .int .u64 0])
              refine bodyPost_ret (res_ctt (a := ⟨?g9, 0, none⟩) (v := .agg ?cs9) rfl ?hp9 (load_row (g := ?g9) (cs := ?cs9) (t := ?t9) (fr := ?fr9) ?hrow9 _ _ Try.underlying29 rfl ?hi9)) rfl ?_
              case hp9 => rfl
              case hrow9 => exact HR2.out
              case hi9 => exact (by kernel_rfl)
              have hd := HD.out
              rw [if_neg H0.out, if_neg H1.out, if_pos (by simp)] at hd
              injection hd with e1 e2
              injection e2 with e2 e3
              subst e1 e2 e3
              exact ⟨none, 0, rfl, OwnF.nil _ _ _ _ _, HB2.out⟩
            | false =>
              have hF := HF.out
              obtain ⟨n', hn'⟩ : ∃ n', n = n' + 1 := ⟨n - 1, by rcases HN.out with h | h <;> first | omega | cases h⟩
              rw [hn', decL, if_neg (by rintro (h | h | h); exact hs0 h; cases h; cases h)] at hF
              have HN2 := Lib.hid (show s.size ≤ n' by rcases HN.out with h | h <;> first | omega | cases h)
              clear HF HN
              have HC0 := HC
              have k1 := curUint_shrinks s
              have k2 := curUint_lt64 s false
              have HU := Lib.hid (fun W (hc : IsCur W gc s false) => cur_uint_ok s gc W hc (by omega))
              obtain ⟨⟨h, s1, b1⟩, hu⟩ : ∃ u, curUint s false = u := ⟨_, rfl⟩
              simp only [hu] at HU k1 k2 hF
              have k0 := curUint_size s false
              simp only [hu] at k0
              clear hu
              have k3 := curText_sz s1 b1
              have HT := Lib.hid (fun W (hc : IsCur W gc s1 b1) => cur_text s1 b1 gc W hc (by omega))
              have k4 : b1 = true → (curText s1 b1).2.2 = true := fun e => by subst e; exact curText_of_bad s1
              obtain ⟨⟨t, s2, b2⟩, hu⟩ : ∃ u, curText s1 b1 = u := ⟨_, rfl⟩
              simp only [hu] at HT k3 k4 hF
              clear hu
              have K5 := Lib.hid (show b2 = false → s2.size < s.size from fun e => by
                have e1 : b1 = false := by cases b1 with | false => rfl | true => have := k4 rfl; rw [e] at this; cases this
                have := k1 e1
                omega)
              have HT40 := Lib.hid (show t.size ≤ 4000 ∧ s2.size ≤ s.size by omega)
              have HH64 := Lib.hid k2
              obtain ⟨q, hq⟩ : ∃ q, h / 2 = q := ⟨_, rfl⟩
              have x1 : (h : Int) / 2 = (q : Int) := by omega
              have x2 : Int.tdiv (h : Int) 2 = (q : Int) := by rw [Int.tdiv_eq_ediv_of_nonneg (by omega)]; omega
              have x3 : IntKind.u64.wrap (q : Int) = (q : Int) := wrap_u64_nat (by omega)
              have HQ := Lib.hid hq
              rw [hq] at hF
              clear hq k0 k1 k2 k3 k4 hsz
              have HF := Lib.hid hF; clear hF
              go_wp2_with fail
              refine (cur_left s false gc wr HC.out).mono ?_
              rintro e w7 ⟨rfl, rfl⟩
              go_wp2_with fail
              refine (cur_bad s false gc wr HC.out).mono ?_
              rintro e w7 ⟨rfl, rfl⟩
              go_wp2_with fail
              refine (HU.out _ HC.out).mono ?_
              rintro e w7 ⟨rfl, hc, hk⟩
              replace HG := Lib.hid (HG.out.cur HC.out hk)
              replace HR := Lib.hid (hk.blk HR.out (fun e => by have e : rr = gc := e; have := HRG.out; have := HGC.out; omega))
              replace HB := Lib.hid (HB.out.trans (hk.to_below HB.out.size (fun i hi => by have hi : i = gc := hi; have := HWG.out; have := HGC.out; omega))); clear hk
              replace HC := Lib.hid hc; clear hc
              go_wp2_with fail
              refine (HT.out _ HC.out).mono ?_
              rintro e w8 ⟨rfl, hc, hk⟩
              replace HG := Lib.hid (HG.out.cur HC.out hk)
              replace HR := Lib.hid (hk.blk HR.out (fun e => by have e : rr = gc := e; have := HRG.out; have := HGC.out; omega))
              replace HB := Lib.hid (HB.out.trans (hk.to_below HB.out.size (fun i hi => by have hi : i = gc := hi; have := HWG.out; have := HGC.out; omega))); clear hk
              replace HC := Lib.hid hc; clear hc
              clear c19 f19 hgl
              have c19 := HG.out.blk.cell (RM.a19 _ A m.ws.length c)
              have f19 := HG.out.blk.f 19
              have hgl := HG.out.blk.lt
              obtain ⟨d, hd⟩ : ∃ d, decide (q ≤ was) = d := ⟨_, rfl⟩
              have x4 : decide ((q : Int) ≤ (was : Int)) = d := by rw [← hd]; simp
              have HDD := Lib.hid hd
              have HGd := Lib.hid (show IsRM (w8.setCell ⟨g, 19, none⟩ (.bool d)) w.heap.size g ⟨m, left, crit, d⟩ A c from ⟨HG.out.blk.set 19 _, HG.out.own.mr HG.out.blk (by decide) ((Keeps.refl (Only g) _).own 19 _)⟩)
              have HCd := Lib.hid (HC.out.kept ((Keeps.refl (Only g) _).own 19 (.bool d)) (fun e => by have e : gc = g := e; have := HGC.out; omega))
              have HRd := Lib.hid (((Keeps.refl (Only g) _).own 19 (.bool d)).blk HR.out (fun e => by have e : rr = g := e; have := HRG.out; omega))
              have HBd := Lib.hid (HB.out.trans (((Keeps.refl (Only g) _).own 19 (.bool d)).to_below HB.out.size (fun i hi => by have hi : i = g := hi; have := HWG.out; omega)))
              have HBC := Lib.hid (cur_bad s2 b2 gc _ HCd.out)
              clear hs0
              go_wp2_with fail
              refine HBC.out.mono ?_
              rintro e w9 ⟨rfl, rfl⟩
              cases b2 with
              | true =>
                have hF := HF.out
                rw [if_neg (by rintro ⟨h, _⟩; cases h), HDD.out] at hF
                have HF2 := Lib.hid hF; clear hF
                have HMS := Lib.hid (show curM (w8.setCell ⟨g, 19, none⟩ (.bool d)) gc < s.size + 1 by rw [curM_bad HCd.out]; omega)
                have HM0 := Lib.hid (curM_good HC0.out)
                go_wp2
                go_roundw
                case rel => exact ⟨n', q, s2, true, ⟨m, left, crit, d⟩, A, c, rfl, HCd.out, HGd.out, HRd.out, HBd.out, HF2.out, .inl rfl, HFT.out, fun e hq9 => (HWS.out (by trivial) (by have h1 := HDD.out; rw [show d = false from e] at h1; have := of_decide_eq_false h1; omega)), HLF.out, fun e => (by cases e), by have := HT40.out; have := HSZ2.out; omega⟩
                case measure => rw [HM0.out]; exact HMS.out
              | false =>
                have HS2 := Lib.hid (K5.out (by trivial))
                cases d with
                | true =>
                  have hF := HF.out
                  rw [if_neg (by rintro ⟨_, h⟩; have h1 := of_decide_eq_true HDD.out; omega), HDD.out] at hF
                  have HF2 := Lib.hid hF; clear hF
                  have HMS := Lib.hid (show curM (w8.setCell ⟨g, 19, none⟩ (.bool true)) gc < s.size + 1 by rw [curM_good HCd.out]; have := HS2.out; omega)
                  have HM0 := Lib.hid (curM_good HC0.out)
                  go_wp2
                  go_roundw
                  case rel => exact ⟨n', q, s2, false, ⟨m, left, crit, true⟩, A, c, rfl, HCd.out, HGd.out, HRd.out, HBd.out, HF2.out, .inr (by have := HS2.out; have := HN2.out; omega), HFT.out, (fun e _ => by cases e), HLF.out, fun _ => (by have := HLS.out (by trivial); have := HS2.out; show left + s2.size ≤ 4000; have h0 : left + s.size ≤ 4000 := HLS.out (by trivial); omega), by have := HT40.out; have := HSZ2.out; omega⟩
                  case measure => rw [HM0.out]; exact HMS.out
                | false =>
                  have hd2 := of_decide_eq_false HDD.out
                  have hF := HF.out
                  rw [if_pos ⟨rfl, by omega⟩] at hF
                  have HF2 := Lib.hid hF; clear hF
                  have HQ1 := Lib.hid (show 1 ≤ q ∧ was < q by omega)
                  have HWS2 := Lib.hid (show q ≤ 9 → m.ws = [] ∧ A = none ∧ c = 0 from fun e => HWS.out (by trivial) (by have := HQ1.out; omega))
                  have HFT2 := Lib.hid (show q ≤ 12 → (takeS q t ⟨m, left, crit, false⟩).m.Fit from fun e => takeS_fit HFT.out HT40.out.1 (fun e9 => (HWS2.out (by omega)).1) HQ1.out.1 e)
                  have HFL := Lib.hid (rd_field _ w.heap.size g h K t ⟨m, left, crit, false⟩ A c HGd.out (by rw [HQ.out]; exact HQ1.out.1) hk12 HH64.out (by have := HT40.out; omega) (fun e => by rw [HQ.out] at e ⊢; exact HFT2.out (by omega)) (fun e => by rw [HQ.out] at e; exact HWS2.out (by omega)) HBd.out.size (Nat.le_trans HLF.out (by decide)))
                  rw [HQ.out] at HFL
                  clear hd2
                  go_wp2_with fail
                  refine HFL.out.mono ?_
                  rintro e w9 ⟨A', c', rfl, h9, hA9, hk⟩
                  have HG9 := Lib.hid h9; clear h9
                  have HA9 := Lib.hid hA9; clear hA9
                  have HC9 := Lib.hid (HCd.out.kept hk (fun e => by have e : gc = g := e; have := HGC.out; omega))
                  have HR9 := Lib.hid (hk.blk HRd.out (fun e => by have e : rr = g := e; have := HRG.out; omega))
                  have HB9 := Lib.hid (HBd.out.trans (hk.to_below HBd.out.size (fun i hi => by have hi : i = g := hi; have := HWG.out; omega))); clear hk
                  have HMS := Lib.hid (show curM w9 gc < s.size + 1 by rw [curM_good HC9.out]; have := HS2.out; omega)
                  have HM0 := Lib.hid (curM_good HC0.out)
                  have HX1 := Lib.hid (fldM_fit (h := h) (s := t) (last := K) (r := ⟨m, left, crit, false⟩) HFT.out (fun e => by rw [HQ.out] at e ⊢; exact HFT2.out (by omega)))
                  have HX2 := Lib.hid (fldM_left h t K ⟨m, left, crit, false⟩)
                  have HX3 := Lib.hid (show q < 9 → (fldM h t K ⟨m, left, crit, false⟩).m.ws = [] ∧ A' = none ∧ c' = 0 from fun e => by
                    obtain ⟨e1, e2⟩ := HA9.out (by omega)
                    obtain ⟨e3, e4, e5⟩ := HWS2.out (by omega)
                    rw [e1, e2]
                    exact ⟨(fldM_ws (by rw [HQ.out]; omega)).trans e3, e4, e5⟩)
                  obtain ⟨r', hr'⟩ : ∃ x, fldM h t K ⟨m, left, crit, false⟩ = x := ⟨_, rfl⟩
                  rw [hr'] at HX1 HX2 HX3 HG9 HF2
                  clear hr'
                  go_wp2
                  go_roundw
                  case rel => exact ⟨n', q, s2, false, r', A', c', rfl, HC9.out, HG9.out, HR9.out, HB9.out, HF2.out, .inr (by have := HS2.out; have := HN2.out; omega), HX1.out, fun _ e => HX3.out e, (by have h0 : left + s.size ≤ 4000 := HLS.out (by trivial); have h1 : r'.left ≤ left + 1 := HX2.out; have := HS2.out; omega), fun _ => (by have h0 : left + s.size ≤ 4000 := HLS.out (by trivial); have h1 : r'.left ≤ left + 1 := HX2.out; have := HS2.out; omega), by have := HT40.out; have := HSZ2.out; omega⟩
                  case measure => rw [HM0.out]; exact HMS.out
end Go.Proofs.Ytemhmgpihkemjaa.My
