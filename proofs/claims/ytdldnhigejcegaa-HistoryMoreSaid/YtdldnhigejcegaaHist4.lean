/- history.At, reads. -/
import Derived.Test.YtdldnhigejcegaaHist3
namespace Go.Proofs.Ytdldnhigejcegaa.My
set_option linter.unusedSimpArgs false
set_option linter.unusedVariables false
open Go.RowKit Go.Proofs.YtdldnhigejcegaaW.PrintWords Go.Proofs.YtdldnhigejcegaaW.PrintLast Go.Proofs.Ytdldnhigejcegaa.Pm

/-- A version in a block. -/
def VB (w : World) (g : Nat) (p : VerT) : Prop := w.heap[g]? = some (.cells #[.int .u64 (p.1 : Int), .bool p.2.1, .string p.2.2] 41 (0, 0))
theorem VB.c0 {w : World} {g : Nat} {p : VerT} (k : VB w g p) : w.cell? ⟨g, 0, none⟩ = some (.int .u64 (p.1 : Int)) := (blk_cell k 0).trans rfl
theorem VB.c1 {w : World} {g : Nat} {p : VerT} (k : VB w g p) : w.cell? ⟨g, 1, none⟩ = some (.bool p.2.1) := (blk_cell k 1).trans rfl
theorem VB.c2 {w : World} {g : Nat} {p : VerT} (k : VB w g p) : w.cell? ⟨g, 2, none⟩ = some (.string p.2.2) := (blk_cell k 2).trans rfl
theorem VB.f {w : World} {g : Nat} {p : VerT} (k : VB w g p) (i : Nat) : w.frozen? ⟨g, i, none⟩ = false := blk_frozen k i
theorem VB.put {w : World} {g : Nat} {p : VerT} (k : VB w g p) (a : Nat) (b : Bool) (s : ByteArray) : VB (((w.setCell ⟨g, 0, none⟩ (.int .u64 (a : Int))).setCell ⟨g, 1, none⟩ (.bool b)).setCell ⟨g, 2, none⟩ (.string s)) g (a, b, s) := blk_set (blk_set (blk_set k 0 _) 1 _) 2 _
theorem below_put {B : Nat} {a b : World} {g : Nat} (h : Below B a b) (hp : B ≤ g) (u v x : Value) : Below B a (((b.setCell ⟨g, 0, none⟩ u).setCell ⟨g, 1, none⟩ v).setCell ⟨g, 2, none⟩ x) :=
  ((h.setCell (p := ⟨g, 0, none⟩) hp u).setCell (p := ⟨g, 1, none⟩) hp v).setCell (p := ⟨g, 2, none⟩) hp x
theorem VB.put_other {w : World} {g h : Nat} {p : VerT} (k : VB w g p) (hne : g ≠ h) (u v x : Value) : VB (((w.setCell ⟨h, 0, none⟩ u).setCell ⟨h, 1, none⟩ v).setCell ⟨h, 2, none⟩ x) g p := by
  unfold VB
  rw [Below.heap_setCell _ _ _ _ hne, Below.heap_setCell _ _ _ _ hne, Below.heap_setCell _ _ _ _ hne]
  exact k
theorem atS_take {l : List TxP} {key : ByteArray} {t i : Nat} (h : i < l.length) : atS (l.take (i + 1)) key t = atStep key t (atS (l.take i) key t) l[i] := by
  unfold atS
  rw [List.take_add_one, List.getElem?_eq_getElem h]
  simp only [Option.toList_some, List.foldl_append, List.foldl_cons, List.foldl_nil]
set_option maxRecDepth 100000 in
set_option maxHeartbeats 8000000 in
theorem at_any (A : Option Addr) (len cap : Nat) (l : List TxP) (key : ByteArray) (t : Nat) (w : World) (hA : Txs w A len l) (hlen : len ≤ 140737488351232) :
    Calls Try.prog 30 #[.slice A len cap, .string key, .int .u64 (t : Int)] w fun e w' =>
      e = .returned (.tuple #[.agg #[.int .u64 ((atS l key t).1 : Int), .bool (atS l key t).2.1, .string (atS l key t).2.2], .bool (decide (0 < (atS l key t).1))]) ∧ Below w.heap.size w w' := by
  have HA := Lib.hid hA; clear hA
  go_enter Try.func30, Try.ntmps30
  go_wp2
  have HG6 := Lib.hid (show VB _ w.heap.size (0, false, ⟨#[]⟩) from blk_alloc (blk_new w (.cells #[.int .u64 0, .bool false, .string ⟨#[]⟩] 41)) (.cells #[.int .u64 0, .bool false, .string ⟨#[]⟩] 41))
  have HG8 := Lib.hid (show VB _ (w.heap.size + 1) (0, false, ⟨#[]⟩) from row_new (w.alloc (.cells #[.int .u64 0, .bool false, .string ⟨#[]⟩] 41)) (.cells #[.int .u64 0, .bool false, .string ⟨#[]⟩] 41) (by simp))
  have HB := Lib.hid (below_alloc (below_alloc (Below.refl w.heap.size w) (.cells #[.int .u64 0, .bool false, .string ⟨#[]⟩] 41)) (.cells #[.int .u64 0, .bool false, .string ⟨#[]⟩] 41))
  generalize World.alloc _ _ = W0 at *
  obtain ⟨g, hg⟩ : ∃ g, w.heap.size + 1 = g := ⟨_, rfl⟩
  rw [hg] at HG8 ⊢
  have HN := Lib.hid hg; clear hg
  go_loopw [15] (fun v wr => ∃ i : Nat, v = .int .i64 i ∧ i ≤ len ∧ VB wr w.heap.size (0, false, ⟨#[]⟩) ∧ VB wr g (atS (l.take i) key t) ∧ Below w.heap.size w wr) (fun v _ => len - (intOf v).toNat)
  case atStart => exact ⟨0, rfl, Nat.zero_le _, HG6.out, HG8.out, HB.out⟩
  case round =>
    clear HG6 HG8 HB
    obtain ⟨i, rfl, hi, h6, h8, hb⟩ := hrel
    have HG6 := Lib.hid h6; clear h6
    have HG8 := Lib.hid h8; clear h8
    have HB := Lib.hid hb; clear hb
    by_cases hlt : i < len
    · obtain ⟨bb, off, hj, rfl, hbW, hc⟩ := HA.out.1.get i hlt
      have hc1 := range_below hc HB.out hbW
      have HX := Lib.hid (HA.out.2 _ (List.getElem_mem hj))
      have HT := Lib.hid (atS_take (key := key) (t := t) hj)
      obtain ⟨x, hx⟩ : ∃ x, l[i] = x := ⟨_, rfl⟩
      rw [hx] at HT HX hc1
      clear hc hbW hx
      have c0 : wr.cell? ⟨bb, off + i * 4, none⟩ = some (.int .u64 (x.start : Int)) := hc1 0 _ rfl
      have c1 : wr.cell? ⟨bb, off + i * 4 + 1, none⟩ = some (.int .u64 (x.commit : Int)) := hc1 1 _ rfl
      have c2 : wr.cell? ⟨bb, off + i * 4 + 2, none⟩ = some (.slice x.rA x.rn x.rc) := hc1 2 _ rfl
      have c3 : wr.cell? ⟨bb, off + i * 4 + 3, none⟩ = some (.slice x.wA x.wn x.wc) := hc1 3 _ rfl
      clear hc1
      obtain ⟨bv, hbv⟩ : ∃ bv, atS (l.take i) key t = bv := ⟨_, rfl⟩
      obtain ⟨v0, v1, v2⟩ := bv
      rw [hbv] at HT HG8
      have HG9 := Lib.hid (show VB (wr.alloc (.cells #[.int .u64 (x.start : Int), .int .u64 (x.commit : Int), .slice x.rA x.rn x.rc, .slice x.wA x.wn x.wc] 68)) g (v0, v1, v2) from blk_alloc HG8.out _)
      have g0 := HG9.out.c0
      simp only at g0
      have hw := next_wrap hlt hlen
      clear hbv
      by_cases h1 : x.commit ≤ v0
      · have x1 : decide ((x.commit : Int) ≤ (v0 : Int)) = true := by simp; omega
        have HS := Lib.hid (show atS (l.take (i + 1)) key t = (v0, v1, v2) by rw [HT.out]; unfold atStep; rw [if_pos (.inl h1)])
        have x1n := decide_eq_true h1
        clear HT
        go_wp2
        go_roundw
        case rel => exact ⟨i + 1, by go_num, hlt, blk_alloc HG6.out _, by rw [HS.out]; exact blk_alloc HG8.out _, below_alloc HB.out _⟩
        case measure => simp [intOf]; omega
      · have x1 : decide ((x.commit : Int) ≤ (v0 : Int)) = false := by simp; omega
        by_cases h2 : t < x.commit
        · have x2 : decide ((t : Int) < (x.commit : Int)) = true := by simp; omega
          have HS := Lib.hid (show atS (l.take (i + 1)) key t = (v0, v1, v2) by rw [HT.out]; unfold atStep; rw [if_pos (.inr h2)])
          have x1n := decide_eq_false h1
          have x2n := decide_eq_true h2
          clear HT
          go_wp2
          go_roundw
          case rel => exact ⟨i + 1, by go_num, hlt, blk_alloc HG6.out _, by rw [HS.out]; exact blk_alloc HG8.out _, below_alloc HB.out _⟩
          case measure => simp [intOf]; omega
        · have x2 : decide ((t : Int) < (x.commit : Int)) = false := by simp; omega
          have hst : atS (l.take (i + 1)) key t = atStep key t (v0, v1, v2) x := HT.out
          unfold atStep at hst
          rw [if_neg (by simp only; omega)] at hst
          have HSS := Lib.hid (show ∀ u, lastS x.ws key = some u → atS (l.take (i + 1)) key t = (x.commit, u.2.1, u.2.2) from fun u h => by rw [hst, h])
          have HSN := Lib.hid (show lastS x.ws key = none → atS (l.take (i + 1)) key t = (v0, v1, v2) from fun h => by rw [hst, h])
          clear hst
          have HQ := Lib.hid (fun W hb => last_any x key W (HX.out.below hb))
          unfold TxP.arr at HQ
          have x1n := decide_eq_false h1
          have x2n := decide_eq_false h2
          clear HT
          go_wp2_with fail
          refine (HQ.out _ (below_alloc HB.out _)).mono ?_
          rintro e w1 ⟨⟨u0, u1, u2⟩, ok, rfl, hok, hb⟩
          have HO := Lib.hid hok; clear hok
          have hb1 := HB.out.trans ((Below.refl _ wr).alloc (HB.out.size) (.cells #[.int .u64 (x.start : Int), .int .u64 (x.commit : Int), .slice x.rA x.rn x.rc, .slice x.wA x.wn x.wc] 68))
          have KX : w1.heap[wr.heap.size]? = some (.cells #[.int .u64 (x.start : Int), .int .u64 (x.commit : Int), .slice x.rA x.rn x.rc, .slice x.wA x.wn x.wc] 68 (0, 0)) := blk_below (blk_new wr _) hb
          have HB := Lib.hid (hb1.trans (hb.mono hb1.size))
          have HG6 := Lib.hid (show VB w1 w.heap.size (0, false, ⟨#[]⟩) from blk_below (blk_alloc HG6.out _) hb)
          have HG8 := Lib.hid (show VB w1 g (v0, v1, v2) from blk_below HG9.out hb)
          have hgl := blk_lt HG8.out
          clear hb hb1 HG9 g0
          have HGB := Lib.hid (show w.heap.size ≤ g ∧ w.heap.size ≠ g by have := HN.out; omega)
          have KX := blk_alloc KX (.cells #[.string u0, .bool u1, .string u2] 75)
          have xx1 := (blk_cell KX 1).trans rfl
          clear KX
          have KW : VB (w1.alloc (.cells #[.string u0, .bool u1, .string u2] 75)) g (v0, v1, v2) := blk_alloc HG8.out _
          have k8 := KW.c0
          have k81 := KW.c1
          have k82 := KW.c2
          have f0 := KW.f 0
          have f1 := KW.f 1
          have f2 := KW.f 2
          simp only at k8 k81 k82
          have HG6 := Lib.hid (show VB (w1.alloc (.cells #[.string u0, .bool u1, .string u2] 75)) w.heap.size (0, false, ⟨#[]⟩) from blk_alloc HG6.out _)
          have HB := Lib.hid (below_alloc HB.out (.cells #[.string u0, .bool u1, .string u2] 75))
          have HKW := Lib.hid KW
          clear KW
          cases ok with
          | true =>
            have HS := Lib.hid (show atS (l.take (i + 1)) key t = (x.commit, u1, u2) from HSS.out _ (by rcases HO.out with ⟨_, h⟩ | ⟨h, _⟩; exact h; cases h))
            clear h1 h2 hgl
            go_wp2
            go_roundw
            case rel => exact ⟨i + 1, by go_num, hlt, HG6.out.put_other HGB.out.2 _ _ _, by rw [HS.out]; exact HKW.out.put _ _ _, below_put HB.out HGB.out.1 _ _ _⟩
            case measure => simp [intOf]; omega
          | false =>
            have HS := Lib.hid (show atS (l.take (i + 1)) key t = (v0, v1, v2) from HSN.out (by rcases HO.out with ⟨h, _⟩ | ⟨_, h⟩; cases h; exact h))
            clear h1 h2 hgl
            go_wp2
            go_roundw
            case rel => exact ⟨i + 1, by go_num, hlt, HG6.out, by rw [HS.out]; exact HKW.out, HB.out⟩
            case measure => simp [intOf]; omega
    · obtain rfl : i = len := by omega
      have HL := Lib.hid (show l.take i = l from List.take_of_length_le (by rw [HA.out.1.1]; exact Nat.le_refl _))
      rw [HL.out] at HG8
      go_wp2
      have q0 : wr.cell? ⟨w.heap.size, 0, none⟩ = some (.int .u64 0) := HG6.out.c0
      have r0 : wr.frozen? ⟨w.heap.size, 0, none⟩ = false := HG6.out.f 0
      have q1 : wr.cell? ⟨w.heap.size, 1, none⟩ = some (.bool false) := HG6.out.c1
      have r1 : wr.frozen? ⟨w.heap.size, 1, none⟩ = false := HG6.out.f 1
      have q2 : wr.cell? ⟨w.heap.size, 2, none⟩ = some (.string ⟨#[]⟩) := HG6.out.c2
      have r2 : wr.frozen? ⟨w.heap.size, 2, none⟩ = false := HG6.out.f 2
      have HGB := Lib.hid (show w.heap.size ≤ g ∧ g ≠ w.heap.size by have := HN.out; omega)
      have HP8 := Lib.hid (show VB (((wr.setCell ⟨w.heap.size, 0, none⟩ (.int .u64 ((atS l key t).1 : Int))).setCell ⟨w.heap.size, 1, none⟩ (.bool (atS l key t).2.1)).setCell ⟨w.heap.size, 2, none⟩ (.string (atS l key t).2.2)).drew g (atS l key t) from blk_drew (VB.put_other HG8.out HGB.out.2 _ _ _))
      refine start_ (n := 6) (S := fun w' => w'.cell? ⟨g, 0, none⟩ = some (.int .u64 ((atS l key t).1 : Int)) ∧ w'.cell? ⟨g, 1, none⟩ = some (.bool (atS l key t).2.1) ∧ w'.cell? ⟨g, 2, none⟩ = some (.string (atS l key t).2.2)) (ds := []) #[false, false, false, false, false, false] (by kernel_rfl) rfl rfl ⟨HG8.out.c0, HG8.out.c1, HG8.out.c2⟩ (fun hHeld => ?_)
      refine pure_ (i := 1) (N := some 46) (v := ?_) (a' := ?_) #[false, true, false, false, false, false] rfl rfl (by kernel_rfl) (fun _ _ _ h => h) (Or.inl ⟨by rfl, ?_⟩) ?_ ?_
      rotate_left
      · intro w'
        go_simp
        with_reducible rfl
      rotate_left
      · simp only [Act.put, List.setIfInBounds_toArray, List.set_cons_zero, List.set_cons_succ, i64_w, i32_w]
        rfl
      refine take_ (i := 0) (N := some 45) (v := ?_) (a' := ?_) #[true, true, false, false, false, false] rfl rfl (by kernel_rfl) (fun _ _ _ h => h) (Or.inl ⟨by rfl, ?_⟩) hHeld ?_ ?_
      rotate_left
      · rintro w' ⟨s0, s1, s2⟩
        go_simp
        with_reducible rfl
      rotate_left
      · simp only [Act.put, List.setIfInBounds_toArray, List.set_cons_zero, List.set_cons_succ, i64_w, i32_w]
        rfl
      refine take_ (i := 2) (N := some 47) (v := ?_) (a' := ?_) #[true, true, true, false, false, false] rfl rfl (by kernel_rfl) (fun _ _ _ h => h) (Or.inl ⟨by rfl, ?_⟩) hHeld ?_ ?_
      rotate_left
      · rintro w' ⟨s0, s1, s2⟩
        go_simp
        with_reducible rfl
      rotate_left
      · simp only [Act.put, List.setIfInBounds_toArray, List.set_cons_zero, List.set_cons_succ, i64_w, i32_w]
        rfl
      refine pure_ (i := 3) (N := some 48) (v := ?_) (a' := ?_) #[true, true, true, true, false, false] rfl rfl (by kernel_rfl) (fun _ _ _ h => h) (Or.inl ⟨by rfl, ?_⟩) ?_ ?_
      rotate_left
      · intro w'
        go_simp
        with_reducible rfl
      rotate_left
      · simp only [Act.put, List.setIfInBounds_toArray, List.set_cons_zero, List.set_cons_succ, i64_w, i32_w]
        rfl
      refine one_ (i := 4) (N := none) #[true, true, true, true, true, false] rfl rfl (by kernel_rfl) (by decide) (fun K hK => ?_)
      refine skip_ (w1 := ?_) (by rfl) rfl ?_ ?_
      rotate_left
      · go_simp
        rfl
      refine hK.out _ _ ⟨HP8.out.c0, HP8.out.c1, HP8.out.c2⟩ (fun hHeld => ?_)
      clear hK K
      refine pure_ (i := 5) (N := some 7) (v := ?_) (a' := ?_) #[true, true, true, true, true, true] rfl rfl (by kernel_rfl) (fun _ _ _ h => h) (Or.inl ⟨by rfl, ?_⟩) ?_ ?_
      rotate_left
      · intro w'
        go_simp
        with_reducible rfl
      rotate_left
      · simp only [Act.put, List.setIfInBounds_toArray, List.set_cons_zero, List.set_cons_succ, i64_w, i32_w]
        rfl
      refine done_ (by kernel_rfl) ?_

      go_wp2
      have HF := Lib.hid (show (((wr.setCell ⟨w.heap.size, 0, none⟩ (.int .u64 ((atS l key t).1 : Int))).setCell ⟨w.heap.size, 1, none⟩ (.bool (atS l key t).2.1)).setCell ⟨w.heap.size, 2, none⟩ (.string (atS l key t).2.2)).drew.heap[w.heap.size]? = some (.cells #[.int .u64 ((atS l key t).1 : Int), .bool (atS l key t).2.1, .string (atS l key t).2.2] 41 (0, 0)) from blk_drew (VB.put HG6.out (atS l key t).1 (atS l key t).2.1 (atS l key t).2.2))
      refine bodyPost_ret (res_ct (a := ⟨?g1, 0, none⟩) (v := .agg ?cs1) rfl ?hp1 (load_row (g := ?g1) (cs := ?cs1) (t := ?t1) (fr := ?fr1) ?hrow1 _ _ Try.underlying41 rfl ?hi1)) rfl ?_
      case hp1 => rfl
      case hrow1 => (refine HF.out <;> simp only [Go.Deep.nblk_alloc])
      case hi1 => exact (by kernel_rfl)
      exact ⟨rfl, below_drew (below_put HB.out (Nat.le_refl _) _ _ _)⟩
theorem str_inj {a b : ByteArray} (h : a.toList = b.toList) : a = b := by
  have := beq_str a b
  rw [h, beq_self_eq_true] at this
  exact of_decide_eq_true this.symm
set_option maxRecDepth 100000 in
set_option maxHeartbeats 4000000 in
theorem reads_any (A : Option Addr) (len cap : Nat) (l : List TxP) (r : RdT) (t : Nat) (w : World) (hA : Txs w A len l) (hlen : len ≤ 140737488351232) :
    Calls Try.prog 66 #[.slice A len cap, .agg (rdC r).toArray, .int .u64 (t : Int)] w fun e w' => e = .returned (.bool (readOk l t r)) ∧ Below w.heap.size w w' := by
  obtain ⟨r0, r1, v0, v1, v2⟩ := r
  have HQ := Lib.hid (fun W hb => at_any A len cap l r0 t W (hA.below hb) hlen)
  clear hA
  unfold readOk
  simp only
  generalize atS l r0 t = u at *
  obtain ⟨u0, u1, u2⟩ := u
  simp only at *
  unfold rdC
  simp only
  have HB := Lib.hid (below_alloc (Below.refl w.heap.size w) (.cells #[.string r0, .bool r1, .int .u64 (v0 : Int), .bool v1, .string v2] 43))
  have HG := Lib.hid (blk_new w (.cells #[.string r0, .bool r1, .int .u64 (v0 : Int), .bool v1, .string v2] 43))
  generalize hX : (if u0 = 0 ∨ u1 = true then !r1 else r1 && decide ((v0, v1, v2) = (u0, u1, u2))) = X
  have HX := Lib.hid hX; clear hX
  go_enter Try.func66, Try.ntmps66
  go_wp2_with fail
  refine (HQ.out _ HB.out).mono ?_
  rintro e w1 ⟨rfl, hb⟩
  replace HB := Lib.hid (below_alloc (HB.out.trans (hb.mono HB.out.size)) (.cells #[.int .u64 (u0 : Int), .bool u1, .string u2] 41))
  have KG := blk_alloc (blk_below HG.out hb) (.cells #[.int .u64 (u0 : Int), .bool u1, .string u2] 41)
  have d1 : (w1.alloc (.cells #[.int .u64 (u0 : Int), .bool u1, .string u2] 41)).cell? ⟨w.heap.size, 1, none⟩ = some (.bool r1) := (blk_cell KG 1).trans rfl
  have d2 : (w1.alloc (.cells #[.int .u64 (u0 : Int), .bool u1, .string u2] 41)).cell? ⟨w.heap.size, 2, none⟩ = some (.int .u64 (v0 : Int)) := (blk_cell KG 2).trans rfl
  have d3 : (w1.alloc (.cells #[.int .u64 (u0 : Int), .bool u1, .string u2] 41)).cell? ⟨w.heap.size, 3, none⟩ = some (.bool v1) := (blk_cell KG 3).trans rfl
  have d4 : (w1.alloc (.cells #[.int .u64 (u0 : Int), .bool u1, .string u2] 41)).cell? ⟨w.heap.size, 4, none⟩ = some (.string v2) := (blk_cell KG 4).trans rfl
  clear hb KG HG HQ
  by_cases h0 : 0 < u0
  · have x0 : decide (0 < (u0 : Int)) = true := by simp; omega
    have x0n := decide_eq_true h0
    cases u1 with
    | true =>
      replace HX := Lib.hid (show (!r1) = X from (if_pos (.inr rfl)).symm.trans HX.out)
      go_wp2
      go_ret
      rw [← HX.out]
      exact ⟨rfl, HB.out⟩
    | false =>
      replace HX := Lib.hid (show (r1 && decide ((v0, v1, v2) = (u0, false, u2))) = X from (if_neg (by intro h; rcases h with h | h; omega; cases h)).symm.trans HX.out)
      cases r1 with
      | false =>
        go_wp2
        go_ret
        rw [← HX.out]
        exact ⟨rfl, HB.out⟩
      | true =>
        go_wp2
        all_goals
          go_ret
          rw [← HX.out]
          refine ⟨congrArg Ending.returned (congrArg Value.bool ?_), HB.out⟩
          simp only [Bool.true_and]
          first
            | (refine (decide_eq_true ?_).symm; simp only [Prod.mk.injEq]; exact ⟨by omega, by simp_all, str_inj (by assumption)⟩)
            | (refine (decide_eq_false ?_).symm; rintro h; simp only [Prod.mk.injEq] at h; obtain ⟨e1, e2, e3⟩ := h; subst e1 e2 e3; simp_all)
  · have x0 : decide (0 < (u0 : Int)) = false := by simp; omega
    have x0n := decide_eq_false h0
    replace HX := Lib.hid (show (!r1) = X from (if_pos (.inl (by omega))).symm.trans HX.out)
    go_wp2
    go_ret
    rw [← HX.out]
    exact ⟨rfl, HB.out⟩
end Go.Proofs.Ytdldnhigejcegaa.My
