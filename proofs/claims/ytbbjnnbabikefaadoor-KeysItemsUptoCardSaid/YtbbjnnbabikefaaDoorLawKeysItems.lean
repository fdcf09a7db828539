/- isoglosslaw03.KeysItems: the row, from the walk: whatever the input, the law returns true. -/
import Derived.Test.YtbbjnnbabikefaaDoorRows
import Derived.Test.YtbbjnnbabikefaaDoorLawKI
import Derived.Test.YtbbjnnbabikefaaDoorDoor
import Derived.Test.YtbbjnnbabikefaaDoorDoorU
import Derived.Test.YtbbjnnbabikefaaDoorTie
import Derived.Test.YtbbjnnbabikefaaDoorCards
import Derived.WalkKit
import Derived.ProofKit
import Derived.OpenShut
import Derived.ShutString
import Derived.ChangeOld
import Derived.Below
import Derived.SizedLaws
import Derived.HandedShaped
import Derived.LaidMore
import Derived.Lay
import Derived.SevenTiedAt
import Derived.Stop.Joined
import Derived.JoinedCond
namespace Go.Proofs.YtbbjnnbabikefaaDoor.keysItems
open Go.ChangeShapes Go.WideShapes Go.ChangeAt Go.RowKit
open Go.ChangeMaps (open_string shut_string)
set_option linter.unusedVariables false
theorem own : ownKnob Tryd.prog.godebug = none := by kernel_rfl
theorem laidOut : laidOutB Tryd.prog = true := by kernel_rfl
set_option maxRecDepth 100000 in
theorem lifted (os : Os) (started : os.Started) (H : Type) (enc : TypeId × Value → H) (F : Stop.Interp) :
    ReturnsInHanded {} Tryd.checked os 5 .any (fun w args => ((Rows.OpenSpec.upto Rows.keysItemsSpec).pre enc Tryd.prog Tryd.f5 Rows.keysItemsUptoRow.domain false w args ∧ laidMetH Tryd.prog Rows.keysItemsUptoRow.laid w) ∧ sizedMet enc Tryd.prog Tryd.f5 (Rows.OpenSpec.upto Rows.keysItemsSpec) false w args) (((Rows.OpenSpec.upto Rows.keysItemsSpec).at F).post enc Tryd.prog Tryd.f5 false true false false) := by
  refine My.handed_laid_cond (C := Tryd.checked) (s := Rows.OpenSpec.upto Rows.keysItemsSpec) (k := Rows.uptoSmall) rfl (X := fun w _ => laidMetH Tryd.prog Rows.keysItemsUptoRow.laid w) own started (by kernel_rfl) Tryd.func5
    (My.witness_cond (enc := enc) (C := Tryd.checked) (os := os) (s := Rows.OpenSpec.upto Rows.keysItemsSpec) (k := Rows.uptoSmall) rfl (X := fun w _ => laidMetH Tryd.prog Rows.keysItemsUptoRow.laid w) false (World.laidAll Tryd.prog os Rows.keysItemsUptoRow.laid) #[.int .i64 0, .string ByteArray.empty] 8 (World.laidAll_os _ _ _) (World.shaped_of_ZipB (by kernel_rfl) (by kernel_rfl)) (by kernel_rfl) ([.lit (.int .i64 0), .lit (.string [])], [], []) (by kernel_rfl) (by kernel_rfl) (by kernel_rfl) (by kernel_rfl)
      (by rw [MakeChecks.laidMetH_plain _ _ _ (by kernel_rfl)]; exact laidMet_laidAll _ (by kernel_rfl) (by kernel_rfl))) ?_
  intro W base args ds gs before hval0 hW hcnd hkk hsh _
  have hval : ∀ (j : Nat) t v, Tryd.f5.params[j]? = some t → args[j]? = some v → Value.okWide Tryd.prog W .any base t v := hval0
  have hW' := hW
  obtain ⟨p, q, hA0, hV, rfl, hfz, hnd⟩ := hW
  have hA : DataW.TrodAll enc Tryd.prog W 0 (fun _ => true) true Tryd.f5.params.toList args.toList ds p := hA0
  rw [Tryd.params5] at hA hval
  obtain ⟨v0, vs0, d0, ds0, p0, q0, hargs, rfl, rfl, h0, r0⟩ := trodAll_cons hA
  obtain ⟨v1, vs1, d1, ds1, p1, q1, rfl, rfl, rfl, h1, r1⟩ := trodAll_cons r0
  obtain ⟨rfl, rfl, rfl⟩ := trodAll_nil r1
  obtain rfl : args = #[v0, v1] := by cases args; simp_all
  obtain ⟨rfl, rfl⟩ := trodVars_none hV
  obtain ⟨a0, rfl, rfl, rfl, w0⟩ := open_int Tryd.underlying3 (hval 0 3 v0 rfl rfl) h0
  obtain ⟨a1, rfl, rfl, rfl, y1⟩ := open_string Tryd.underlying9 (hval 1 9 v1 rfl rfl) h1
  have w1 : a1.size ≤ 1048576 := by
    have z := of_decide_eq_true hkk
    simp only [List.cons_append, List.nil_append, Rows.uptoBulkAll, Rows.uptoBulk] at z
    have e : a1.data.toList.length = a1.size := Array.length_toList
    omega
  clear hA0 hval0
  refine (My.items_row a0 a1 W (Tryd.laysM155.s1_3 W hsh) w0 w1).mono fun e W' ⟨he, bel⟩ => ?_
  subst he
  exact ⟨_, rfl, _, _, _, [], _, [], hW', trodAll_mk1 (shut_bool Tryd.underlying4 _), (trodAll_cons_mk (shut_int Tryd.underlying3 w0) (trodAll_cons_mk (shut_string Tryd.underlying9 y1) trodAll_mk0)), rfl, bel.frame _, fun h => by cases h⟩
theorem over : Rows.keysItemsUptoRow.holds Tryd.pinned (Rows.OpenSpec.upto Rows.keysItemsSpec) :=
  OpenClaim.holds_of_cond 5 Tryd.f5 rfl rfl rfl rfl rfl rfl rfl ⟨rfl, rfl, rfl, rfl, rfl⟩ rfl rfl rfl rfl rfl (by kernel_rfl) Tryd.func5 (by kernel_rfl)
    (of_decide_eq_true (by kernel_rfl)) (by unfold Func.isWrapper; first | (rw [if_pos (by decide +kernel)]; kernel_rfl) | (rw [if_neg (by decide +kernel)]; exact ⟨rfl, rfl⟩))
    (fun os started H enc _ F => lifted os started H enc F)
theorem proved : Rows.KeysItemsUptoCardSaid :=
  Claim7.holds_tied_plain_at .later [] [.data, .pinned] true Rows.keysItemsUptoCard.stood.harness true over (fun _ h => by cases h) (by kernel_rfl) (fun _ h => by cases h) keysItemsUpto_row_tie rfl ⟨rfl, rfl⟩ (by kernel_rfl) rfl
    (fun f fn hf hfn => by
      obtain rfl : f = 5 := Option.some.inj ((show Tryd.prog.funcNamed "isogloss/isoglosslaw03.KeysItems" = some 5 by kernel_rfl).symm.trans hf) |>.symm
      obtain rfl : fn = Tryd.f5 := (Option.some.inj (Tryd.func5.symm.trans hfn)).symm
      exact ⟨by kernel_rfl, fun j t ht => by
        rw [Tryd.params5] at ht
        have hm : t ∈ [3, 9] := by simpa using Array.mem_of_getElem? ht
        have hall : ([3, 9].all fun u => !Tryd.prog.wantsStandIn u) = true := by kernel_rfl
        exact (show Tryd.prog.wantsStandIn t = false by simpa using List.all_eq_true.1 hall t hm)⟩)
    (by kernel_rfl)
#print axioms proved
end Go.Proofs.YtbbjnnbabikefaaDoor.keysItems
namespace Go.Proofs.YtbbjnnbabikefaaDoor
theorem keysItems_holds : Rows.KeysItemsUptoCardSaid := keysItems.proved
end Go.Proofs.YtbbjnnbabikefaaDoor
