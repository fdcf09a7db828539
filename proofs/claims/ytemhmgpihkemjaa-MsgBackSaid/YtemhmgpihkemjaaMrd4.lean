/- msg.reader: version. -/
import Derived.Test.YtemhmgpihkemjaaMrd3
namespace Go.Proofs.Ytemhmgpihkemjaa.My
set_option linter.unusedSimpArgs false
set_option linter.unusedVariables false
open Go.RowKit Go.Proofs.YtemhmgpihkemjaaW.PrintWords Go.Proofs.YtemhmgpihkemjaaW.PrintLast Go.Proofs.Ytemhmgpihkemjaa.Pm

/-- A version: its time, its flag's byte, its value, is the cursor bad at last? -/
def curV (s : ByteArray) : Nat × ByteArray × ByteArray × Bool :=
  ((curUint s false).1, (curBytes (curUint s false).2.1 (curUint s false).2.2 1).1,
    (curBytes (curBytes (curUint s false).2.1 (curUint s false).2.2 1).2.1 (curBytes (curUint s false).2.1 (curUint s false).2.2 1).2.2 ((curBytes (curUint s false).2.1 (curUint s false).2.2 1).2.1.size : Nat)).1,
    (curBytes (curBytes (curUint s false).2.1 (curUint s false).2.2 1).2.1 (curBytes (curUint s false).2.1 (curUint s false).2.2 1).2.2 ((curBytes (curUint s false).2.1 (curUint s false).2.2 1).2.1.size : Nat)).2.2)
def flB (y : ByteArray) : Bool := !(decide (bl y = [0]) || decide (bl y = [1]))
def veC (cs : Array Value) (bad : Bool) (t : Nat) (y v : ByteArray) (b : Bool) : Array Value :=
  ((((cs.setIfInBounds 10 (.int .u64 (t : Int))).setIfInBounds 19 (.bool (bad || flB y))).setIfInBounds 11 (.bool (decide (bl y = [1])))).setIfInBounds 12 (.string v)).setIfInBounds 19 (.bool ((bad || flB y) || b))
set_option maxRecDepth 100000 in
set_option maxHeartbeats 4000000 in
theorem rd_version (g : Nat) (cs : Array Value) (s : ByteArray) (bad : Bool) (w : World) (hR : IsMR w g cs) (h19 : cs[19]? = some (.bool bad)) (hs : s.size ≤ 140737488355328) :
    Calls Try.prog 52 #[.pointer (some ⟨g, 0, none⟩), .string s] w fun e w' => e = .returned (.tuple #[]) ∧ IsMR w' g (veC cs bad (curV s).1 (curV s).2.1 (curV s).2.2.1 (curV s).2.2.2) ∧ Keeps (Only g) w w' := by
  have HR := Lib.hid hR; clear hR
  have H19 := Lib.hid h19; clear h19
  have h20 := HR.out.2
  have HN := Lib.hid (cur_made s w)
  have HG := Lib.hid HR.out.lt
  unfold curV
  have z1 := curUint_size s false
  have HU1 := Lib.hid (fun W g' (hc : IsCur W g' s false) => cur_uint s false g' W hc hs)
  obtain ⟨⟨t, s1, b1⟩, hu⟩ : ∃ u, curUint s false = u := ⟨_, rfl⟩
  simp only [hu] at HU1 z1 ⊢
  clear hu
  have HU2 := Lib.hid (fun W gc (hR : IsMR W g (cs.setIfInBounds 10 (.int .u64 (t : Int)))) (hc : IsCur W gc s1 b1) => rd_gone g gc (cs.setIfInBounds 10 (.int .u64 (t : Int))) s1 b1 bad W hR ((mr_ne (by decide) _).trans H19.out) hc)
  obtain ⟨⟨y, s2, b2⟩, hu⟩ : ∃ u, curBytes s1 b1 1 = u := ⟨_, rfl⟩
  simp only [hu] at HU2 ⊢
  clear hu
  have HU3 := Lib.hid (fun W g' (hc : IsCur W g' s2 b2) => cur_bytes s2 b2 (s2.size : Nat) g' W hc)
  have HL3 := Lib.hid (fun W g' (hc : IsCur W g' s2 b2) => cur_left s2 b2 g' W hc)
  obtain ⟨⟨v, s3, b3⟩, hu⟩ : ∃ u, curBytes s2 b2 (s2.size : Nat) = u := ⟨_, rfl⟩
  simp only [hu] at HU3 ⊢
  clear hu z1 hs
  have HD := Lib.hid (fun W g' (hc : IsCur W g' s3 b3) => cur_bad s3 b3 g' W hc)
  unfold veC
  obtain ⟨q1, hq1⟩ : ∃ q, (bad || flB y) = q := ⟨_, rfl⟩
  have hq1' : (bad || !(decide (bl y = [0]) || decide (bl y = [1]))) = q1 := hq1
  obtain ⟨gn, hgn⟩ : ∃ q, decide (bl y = [1]) = q := ⟨_, rfl⟩
  simp only [hq1'] at HU2
  simp only [hgn] at HU2
  simp only [hq1, hgn]
  clear hq1 hq1' hgn
  go_enter Try.func52, Try.ntmps52
  go_wp2_with fail
  refine HN.out.mono ?_
  rintro e w1 ⟨gc, rfl, hgc, hc, hb⟩
  have HNE := Lib.hid (show g ≠ gc by have := HG.out; omega)
  have HGC := Lib.hid hgc; clear hgc
  have HK := Lib.hid (Keeps.of_below (Only g) hb)
  replace HR := Lib.hid (HR.out.below hb); clear hb
  have HC := Lib.hid hc; clear hc
  go_wp2_with fail
  refine (HU1.out _ _ HC.out).mono ?_
  rintro e w2 ⟨rfl, hc, hk⟩
  replace HR := Lib.hid (HR.out.kept hk HNE.out)
  replace HK := Lib.hid (HK.out.then_ hk (fun i hi => .inr (by have hi : i = gc := hi; rw [hi]; exact HGC.out))); clear hk
  replace HC := Lib.hid hc; clear hc
  obtain ⟨y10, hy10⟩ := HR.out.some (i := 10) (by decide)
  have f10 := HR.out.f 10
  have hgl := HR.out.lt
  have HR2 := Lib.hid (HR.out.set 10 (.int .u64 (t : Int)))
  have HC2 := Lib.hid (HC.out.kept ((Keeps.refl (Only g) _).own 10 (.int .u64 (t : Int))) (fun e => HNE.out e.symm))
  have HK2 := Lib.hid (HK.out.own 10 (.int .u64 (t : Int)))
  go_wp2_with fail
  refine (HU2.out _ _ HR2.out HC2.out).mono ?_
  rintro e w3 ⟨rfl, hR3, hc, hk⟩
  clear hy10 f10 hgl
  replace HR := Lib.hid hR3; clear hR3 HR2
  replace HC := Lib.hid hc; clear hc HC2
  replace HK := Lib.hid (HK2.out.then_ hk (fun i hi => by
    rcases hi with rfl | rfl
    · exact .inl rfl
    · exact .inr HGC.out)); clear hk HK2
  obtain ⟨y11, hy11⟩ := HR.out.some (i := 11) (by decide)
  have f11 := HR.out.f 11
  have hgl := HR.out.lt
  have HR2 := Lib.hid (HR.out.set 11 (.bool gn))
  have HC2 := Lib.hid (HC.out.kept ((Keeps.refl (Only g) _).own 11 (.bool gn)) (fun e => HNE.out e.symm))
  have HK2 := Lib.hid (HK.out.own 11 (.bool gn))
  go_wp2_with fail
  refine (HL3.out _ _ HC2.out).mono ?_
  rintro e w4 ⟨rfl, rfl⟩
  go_wp2_with fail
  refine (HU3.out _ _ HC2.out).mono ?_
  rintro e w4 ⟨rfl, hc, hk⟩
  clear hy11 f11 hgl
  replace HR := Lib.hid (HR2.out.kept hk HNE.out); clear HR2
  replace HK := Lib.hid (HK2.out.then_ hk (fun i hi => .inr (by have hi : i = gc := hi; rw [hi]; exact HGC.out))); clear hk HK2
  replace HC := Lib.hid hc; clear hc HC2
  obtain ⟨y12, hy12⟩ := HR.out.some (i := 12) (by decide)
  have f12 := HR.out.f 12
  have H3 := Lib.hid (show (((cs.setIfInBounds 10 (.int .u64 (t : Int))).setIfInBounds 19 (.bool q1)).setIfInBounds 11 (.bool gn))[19]? = some (.bool q1) from (mr_ne (by decide) _).trans (mr_get (by rw [Array.size_setIfInBounds]; exact h20) _))
  have c19 := HR.out.cell H3.out
  have f19 := HR.out.f 19
  have hgl := HR.out.lt
  have HC2 := Lib.hid (HC.out.kept ((Keeps.refl (Only g) _).own 12 (.string v)) (fun e => HNE.out e.symm))
  cases q1 with
  | true =>
    go_wp2
    go_end0
    exact ⟨rfl, (HR.out.set 12 _).set 19 _, (HK.out.own 12 _).own 19 _⟩
  | false =>
    go_wp2_with fail
    refine (HD.out _ _ HC2.out).mono ?_
    rintro e w5 ⟨rfl, rfl⟩
    go_wp2
    go_end0
    exact ⟨rfl, (HR.out.set 12 _).set 19 _, (HK.out.own 12 _).own 19 _⟩
end Go.Proofs.Ytemhmgpihkemjaa.My
