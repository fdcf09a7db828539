/- isoglosslaw03.KeysFirst: the row, from the walk: whatever the input, the law returns true. -/
import Derived.Test.YtbbjnnbabikefaaDoorRows
import Derived.Test.YtbbjnnbabikefaaDoorOpens
import Derived.Test.YtbbjnnbabikefaaDoorKeysF
import Derived.Test.YtbbjnnbabikefaaDoorDoor
import Derived.Test.YtbbjnnbabikefaaDoorTie
import Derived.Test.YtbbjnnbabikefaaDoorCards
import Derived.WalkKit
import Derived.ProofKit
import Derived.OpenShut
import Derived.ShutString
import Derived.ChangeOld
import Derived.Below
import Derived.SizedLaws
import Derived.HandedShaped
import Derived.LaidMore
import Derived.Lay
import Derived.SevenTiedAt
import Derived.Stop.Joined
namespace Go.Proofs.YtbbjnnbabikefaaDoor.keysFirst
open Go.ChangeShapes Go.WideShapes Go.ChangeAt Go.RowKit
open Go.ChangeMaps (open_string shut_string)
set_option linter.unusedVariables false
theorem own : ownKnob Tryd.prog.godebug = none := by kernel_rfl
theorem laidOut : laidOutB Tryd.prog = true := by kernel_rfl
set_option maxRecDepth 100000 in
theorem lifted (os : Os) (started : os.Started) (H : Type) (enc : TypeId × Value → H) :
    ReturnsInHanded {} Tryd.checked os 3 .any (fun w args => (Rows.keysFirstSpec.pre enc Tryd.prog Tryd.f3 Rows.keysFirstRow.domain false w args ∧ laidMetH Tryd.prog Rows.keysFirstRow.laid w) ∧ sizedMet enc Tryd.prog Tryd.f3 (OpenSpec.ofChange Rows.keysFirstSpec) false w args) (Rows.keysFirstSpec.post enc Tryd.prog Tryd.f3 false true false false) := by
  refine My.handed_laid (C := Tryd.checked) (X := fun w _ => laidMetH Tryd.prog Rows.keysFirstRow.laid w) own started (by kernel_rfl) Tryd.func3
    (ChangeSpec.witness_shaped (enc := enc) (C := Tryd.checked) (os := os) (X := fun w _ => laidMetH Tryd.prog Rows.keysFirstRow.laid w) false (World.laidAll Tryd.prog os Rows.keysFirstRow.laid) #[.agg #[.int .u8 0, .int .i64 0, .int .u64 0, .string ByteArray.empty, .bool false], .agg #[.int .u8 0, .int .i64 0, .int .u64 0, .string ByteArray.empty, .bool false]] 8 (World.laidAll_os _ _ _) (World.shaped_of_ZipB (by kernel_rfl) (by kernel_rfl)) (by kernel_rfl) (by kernel_rfl) (by kernel_rfl)
      (by rw [MakeChecks.laidMetH_plain _ _ _ (by kernel_rfl)]; exact laidMet_laidAll _ (by kernel_rfl) (by kernel_rfl))) ?_
  intro W base args ds gs before hval0 hW hcnd hsz0 hsh _
  have hsz : (DataW.weightsEach Tryd.prog (Tryd.f3.params.toList ++ Rows.keysFirstSpec.plain.varTypes Tryd.prog) (ds ++ gs)).all (· ≤ reachBytes) = true := hsz0
  have hval : ∀ (j : Nat) t v, Tryd.f3.params[j]? = some t → args[j]? = some v → Value.okWide Tryd.prog W .any base t v := hval0
  have hW' := hW
  obtain ⟨p, q, hA0, hV, rfl, hfz, hnd⟩ := hW
  have hA : DataW.TrodAll enc Tryd.prog W 0 (fun _ => true) true Tryd.f3.params.toList args.toList ds p := hA0
  rw [Tryd.params3] at hA hval hsz
  obtain ⟨v0, vs0, d0, ds0, p0, q0, hargs, rfl, rfl, h0, r0⟩ := trodAll_cons hA
  obtain ⟨v1, vs1, d1, ds1, p1, q1, rfl, rfl, rfl, h1, r1⟩ := trodAll_cons r0
  obtain ⟨rfl, rfl, rfl⟩ := trodAll_nil r1
  obtain rfl : args = #[v0, v1] := by cases args; simp_all
  obtain ⟨rfl, rfl⟩ := trodVars_none hV
  have k0 := h0
  have lt0 : ∀ x ∈ p0, x.block < W.heap.size := by obtain ⟨m, hm⟩ := k0; exact DataW.trod_lt m _ _ _ hm
  obtain ⟨cs0, rfl, hs0⟩ := okWide_struct Tryd.underlying24 (hval 0 24 v0 rfl rfl)
  obtain ⟨a0, hcs0, g0_0, g0_1⟩ := (h0.elim fun fuel hf => (My.item_opens (enc := enc)) _ _ _ hf (My.fits_arg hsz (j := 0) (t := 24) rfl rfl))
  obtain rfl : cs0 = (a0.arr) := by have := hcs0; simp only [Value.cells] at this; exact Array.toList_inj.1 this
  have k1 := h1
  have lt1 : ∀ x ∈ p1, x.block < W.heap.size := by obtain ⟨m, hm⟩ := k1; exact DataW.trod_lt m _ _ _ hm
  obtain ⟨cs1, rfl, hs1⟩ := okWide_struct Tryd.underlying24 (hval 1 24 v1 rfl rfl)
  obtain ⟨a1, hcs1, g1_0, g1_1⟩ := (h1.elim fun fuel hf => (My.item_opens (enc := enc)) _ _ _ hf (My.fits_arg hsz (j := 1) (t := 24) rfl rfl))
  obtain rfl : cs1 = (a1.arr) := by have := hcs1; simp only [Value.cells] at this; exact Array.toList_inj.1 this
  clear hA0 hval0 hsz0 hsz
  refine (My.first_row a0 a1 W (Tryd.laysM155.s1_3 W hsh) g0_0 g0_1 g1_0 g1_1).mono fun e W' ⟨he, bel⟩ => ?_
  subst he
  exact ⟨_, rfl, _, _, _, [], _, [], hW', trodAll_mk1 (shut_bool Tryd.underlying4 _), (trodAll_cons_mk (Below.trod laidOut (by kernel_rfl) (of_decide_eq_true (by kernel_rfl)) k0 bel lt0) (trodAll_cons_mk (Below.trod laidOut (by kernel_rfl) (of_decide_eq_true (by kernel_rfl)) k1 bel lt1) trodAll_mk0)), rfl, bel.frame _, fun h => by cases h⟩
theorem over : Rows.keysFirstRow.holds Tryd.pinned (OpenSpec.ofChange Rows.keysFirstSpec) :=
  OpenClaim.holds_of_wide 3 Tryd.f3 rfl rfl rfl rfl rfl rfl rfl ⟨rfl, rfl, rfl, rfl, rfl⟩ rfl rfl rfl rfl rfl (by kernel_rfl) Tryd.func3 (by kernel_rfl)
    (of_decide_eq_true (by kernel_rfl)) (by unfold Func.isWrapper; first | (rw [if_pos (by decide +kernel)]; kernel_rfl) | (rw [if_neg (by decide +kernel)]; exact ⟨rfl, rfl⟩))
    (fun os started H enc _ => lifted os started H enc)
theorem proved : Rows.KeysFirstCardSaid :=
  Claim7.holds_tied_plain_at .later [] [.data, .pinned] true Rows.keysFirstCard.stood.harness true over (fun _ h => by cases h) (by kernel_rfl) (fun _ h => by cases h) keysFirst_row_tie rfl ⟨rfl, rfl⟩ (by kernel_rfl) rfl
    (fun f fn hf hfn => by
      obtain rfl : f = 3 := Option.some.inj ((show Tryd.prog.funcNamed "isogloss/isoglosslaw03.KeysFirst" = some 3 by kernel_rfl).symm.trans hf) |>.symm
      obtain rfl : fn = Tryd.f3 := (Option.some.inj (Tryd.func3.symm.trans hfn)).symm
      exact ⟨by kernel_rfl, fun j t ht => by
        rw [Tryd.params3] at ht
        have hm : t ∈ [24, 24] := by simpa using Array.mem_of_getElem? ht
        have hall : ([24, 24].all fun u => !Tryd.prog.wantsStandIn u) = true := by kernel_rfl
        exact (show Tryd.prog.wantsStandIn t = false by simpa using List.all_eq_true.1 hall t hm)⟩)
    (by kernel_rfl)
#print axioms proved
end Go.Proofs.YtbbjnnbabikefaaDoor.keysFirst
namespace Go.Proofs.YtbbjnnbabikefaaDoor
theorem keysFirst_holds : Rows.KeysFirstCardSaid := keysFirst.proved
end Go.Proofs.YtbbjnnbabikefaaDoor
