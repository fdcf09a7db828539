/- The law LogWrites walked. -/
import Derived.Test.YtoandabafkdgjaaLog13
namespace Go.Proofs.Ytoandabafkdgjaa.My
set_option linter.unusedSimpArgs false
set_option linter.unusedVariables false
open Go.RowKit Go.Proofs.YtoandabafkdgjaaW.PrintWords Go.Proofs.YtoandabafkdgjaaW.PrintLast Go.Proofs.Ytoandabafkdgjaa.Pm

theorem ByG.sls {w w' : World} {base b' h x t : Nat} {V W v : Value} {d : DkS} {l : List ByteArray} {cs : Array Value} (a : ByG h V x w w') (k : Dk w base h V W d) (hx : w.heap[x]? = some (.cells cs t (0, 0))) (ht : t ≠ 9) (hs : Sls w b' v l) (hb : ∀ x, V.ownBlock = some x → x < b') : Sls w' b' v l :=
  Kd.R_mono (Kd.R_move (Kd.R_bound hs) fun y hy => by
    obtain ⟨_, hge, hlt, q, hq, cells, hc⟩ := hy
    rw [string_E] at hq
    rw [List.mem_singleton.1 hq] at hc
    refine a.2 y cells _ hc (by decide) (k.ne hc (by decide)) (fun e => by have := hb y e.symm; omega) (fun e => ?_)
    subst e
    rw [hx] at hc
    simp only [Option.some.injEq, Obj.cells.injEq] at hc
    exact ht hc.2.1) (fun _ _ => trivial)
/-- The disk and the log behind some records. -/
structure LwJ (T : Array Value) (w : World) (h : Nat) (V : Value) (gt g N B0 i : Nat) (all : ByteArray) (want : List ByteArray) (wv : Value) (wr : World) : Prop where
  dk : ∃ W' d', Dk wr w.heap.size h V W' d' ∧ d'.Ok ∧ d'.fuse = -1 ∧ d'.gone = false ∧ d'.sure.length = N ∧ allL d' N = bl all ++ List.replicate (64 * N - all.size) 0 ∧ d'.waits.length ≤ 100 * i
  fit : all.size ≤ 64 * N
  recs : bl all = recsL want
  ok : ∀ r ∈ want, 1 ≤ r.size ∧ r.size ≤ 4000
  lg : IsLg T wr g h ((all.size : Nat) : Int) false
  sl : Sls wr B0 wv want
  len : want.length ≤ i
  tb : wr.heap[gt]? = some (.cells T 53 (0, 0))
  bel : Below w.heap.size w wr
  big : B0 ≤ wr.heap.size
section
variable {T : Array Value} {w wr wx : World} {h gt g N B0 i : Nat} {V wv : Value} {all : ByteArray} {want : List ByteArray}
theorem LwJ.below (j : LwJ T w h V gt g N B0 i all want wv wr) (hb : Below wr.heap.size wr wx) : LwJ T w h V gt g N B0 i all want wv wx := by
  obtain ⟨W', d', k, r⟩ := j.dk
  exact ⟨⟨W', d', k.below hb, r⟩, j.fit, j.recs, j.ok, j.lg.below hb, Kd.R_below j.sl hb, j.len, blk_below j.tb hb, j.bel.trans (hb.mono j.bel.size), Nat.le_trans j.big hb.size⟩
theorem LwJ.next (j : LwJ T w h V gt g N B0 i all want wv wr) : LwJ T w h V gt g N B0 (i + 1) all want wv wr := by
  obtain ⟨W', d', k, a, b, c, d, e, f⟩ := j.dk
  exact ⟨⟨W', d', k, a, b, c, d, e, by omega⟩, j.fit, j.recs, j.ok, j.lg, j.sl, by have := j.len; omega, j.tb, j.bel, j.big⟩
end
/-- Behind an Append that went well: all but the list of what is wanted. -/
theorem LwJ.appended {w wr wx : World} {h gt g N B0 i : Nat} {V wv W' W2 : Value} {all r : ByteArray} {want : List ByteArray} {d' d2 : DkS} (j : LwJ tab w h V gt g N B0 i all want wv wr) (k : Dk wr w.heap.size h V W' d') (hd : d'.sure.length = N ∧ allL d' N = bl all ++ List.replicate (64 * N - all.size) 0 ∧ d'.waits.length ≤ 100 * i)
    (hV : ∀ x, V.ownBlock = some x → x < B0) (hgt : gt ≠ g) (hr : 1 ≤ r.size ∧ r.size ≤ 4000) (hfit : all.size + (6 + r.size) ≤ 64 * N)
    (k2 : Dk wx w.heap.size h V W2 d2) (hu : Upd d' d2 (splice (allL d' d'.sure.length) all.size (bl (recS r)))) (hwl : d2.waits.length ≤ d'.waits.length + 100) (hl : IsLg tab wx g h ((all.size + (6 + r.size) : Nat) : Int) false) (hy : ByG h V g wr wx) (hb : Below w.heap.size wr wx) :
    (∃ W' d', Dk wx w.heap.size h V W' d' ∧ d'.Ok ∧ d'.fuse = -1 ∧ d'.gone = false ∧ d'.sure.length = N ∧ allL d' N = bl (all ++ recS r) ++ List.replicate (64 * N - (all ++ recS r).size) 0 ∧ d'.waits.length ≤ 100 * (i + 1)) ∧ (all ++ recS r).size ≤ 64 * N ∧ bl (all ++ recS r) = recsL (want ++ [r]) ∧ (∀ x ∈ want ++ [r], 1 ≤ x.size ∧ x.size ≤ 4000) ∧ IsLg tab wx g h (((all ++ recS r).size : Nat) : Int) false ∧ Sls wx B0 wv want ∧ wx.heap[gt]? = some (.cells tab 53 (0, 0)) ∧ Below w.heap.size w wx ∧ B0 ≤ wx.heap.size := by
  obtain ⟨u1, u2, u3, u4, u5⟩ := hu
  have hz : (all ++ recS r).size = all.size + (6 + r.size) := by rw [ByteArray.size_append, recS_size]
  have hrl : (bl (recS r)).length = 6 + r.size := by rw [bl_length, recS_size]
  have hal : (bl all).length = all.size := bl_length all
  rw [hz]
  refine ⟨⟨W2, d2, k2, u1, u2, u3, by rw [u4]; exact hd.1, ?_, by have := hd.2.2; omega⟩, hfit, ?_, ?_, hl, hy.sls k j.lg.2 (by decide) j.sl hV, hy.rowD k j.tb (by decide) (by decide) (by decide) hgt, j.bel.trans hb, Nat.le_trans j.big hy.1⟩
  · rw [hd.1] at u5
    rw [u5, hd.2.1]
    have h2 := recs_next (L := bl all) (n := 64 * N - all.size) (r := bl (recS r)) (by rw [hrl]; omega)
    rw [hal, hrl] at h2
    rw [h2, bl_append]
    congr 2
    omega
  · rw [recsL_snoc, bl_append, j.recs]
  · intro x hx
    rcases List.mem_append.1 hx with hx | hx
    · exact j.ok x hx
    · rw [List.mem_singleton.1 hx]; exact hr
theorem Dk.grown {wy w1 : World} {base h B0 : Nat} {V W v : Value} {d : DkS} {l : List ByteArray} (k : Dk wy base h V W d) (hs : Sls wy B0 v l) (hV : ∀ x, V.ownBlock = some x → x < B0) (hg : wy.grownBy w1 v.ownBlock) : Dk w1 base h V W d := by
  have hb := Kd.R_base hs
  refine ⟨(hg.block h (blk_lt k.dk) (Kd.R_ne hs k.dk (by decide))).trans k.dk, Kd.R_of_own (own_move (Kd.own_of_R k.sr) fun x hx => hg.block x (Kd.R_lt k.sr x hx) (fun e => by have h1 := hb x e.symm; have h2 := hV x hx; omega)) (fun _ _ => trivial), ?_, k.hb⟩
  refine Kd.R_mono (Kd.R_move (Kd.R_bound k.wt) fun x hx => hg.block x hx.2.2.1 fun e => ?_) (fun _ _ => trivial)
  obtain ⟨q, hq, c, hc⟩ := hx.2.2.2
  rw [kW_E] at hq
  rw [List.mem_singleton.1 hq] at hc
  exact Kd.R_ne hs hc (by decide) e
theorem grown_all {T : Array Value} {w wy w1 : World} {h gt g N B0 i : Nat} {V v : Value} {L : List UInt8} {want : List ByteArray} {e : Int} (hs : Sls wy B0 v want) (hV : ∀ x, V.ownBlock = some x → x < B0) (hB : w.heap.size ≤ B0)
    (jd : ∃ W' d', Dk wy w.heap.size h V W' d' ∧ d'.Ok ∧ d'.fuse = -1 ∧ d'.gone = false ∧ d'.sure.length = N ∧ allL d' N = L ∧ d'.waits.length ≤ 100 * (i + 1)) (jl : IsLg T wy g h e false) (jt : wy.heap[gt]? = some (.cells T 53 (0, 0))) (jb : Below w.heap.size w wy) (hg : wy.grownBy w1 v.ownBlock) :
    (∃ W' d', Dk w1 w.heap.size h V W' d' ∧ d'.Ok ∧ d'.fuse = -1 ∧ d'.gone = false ∧ d'.sure.length = N ∧ allL d' N = L ∧ d'.waits.length ≤ 100 * (i + 1)) ∧ IsLg T w1 g h e false ∧ w1.heap[gt]? = some (.cells T 53 (0, 0)) ∧ Below w.heap.size w w1 := by
  obtain ⟨W', d', k, q⟩ := jd
  exact ⟨⟨W', d', k.grown hs hV hg, q⟩, ⟨jl.1, (hg.block g (blk_lt jl.2) (Kd.R_ne hs jl.2 (by decide))).trans jl.2⟩, (hg.block gt (blk_lt jt) (Kd.R_ne hs jt (by decide))).trans jt, jb.grown hg jb.size (fun q hq => Nat.le_trans hB (Kd.R_base hs q hq))⟩
theorem made_zero (m : Nat) : ∀ j, j < m → (madeCells #[Value.int .u8 0] m)[j]? = some (.int .u8 0) := by
  intro j hj
  simp [madeCells, hj, Nat.mod_one]
theorem zero_row {W : World} {g m : Nat} (hg : W.heap[g]? = some (.cells (madeCells #[Value.int .u8 0] m) 5 (0, 0))) : ByteRow W g (List.replicate m 0) := fun j hj => by
  rw [List.length_replicate] at hj
  refine ⟨(blk_cell hg j).trans ?_, blk_frozen hg j⟩
  rw [made_zero m j hj, List.getElem_replicate]
  rfl
end Go.Proofs.Ytoandabafkdgjaa.My
