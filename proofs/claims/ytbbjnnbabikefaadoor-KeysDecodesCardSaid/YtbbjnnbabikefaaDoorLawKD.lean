/- The law KeysDecodes walked. -/
import Derived.Test.YtbbjnnbabikefaaDoorKeysE
namespace Go.Proofs.YtbbjnnbabikefaaDoor.My
set_option linter.unusedSimpArgs false
set_option linter.unusedVariables false
open Go.RowKit Go.Proofs.YtbbjnnbabikefaaDoorW.PrintWords Go.Proofs.YtbbjnnbabikefaaDoorW.PrintLast Go.Proofs.YtbbjnnbabikefaaDoor.Pm

theorem flat_ge : ∀ l : List ItX, l.length ≤ (l.flatMap fun x => bl (itemS x.1 x.2)).length
  | [] => Nat.le_refl _
  | x :: l => by
    obtain ⟨a, q, hq⟩ := item_cons x
    have := flat_ge l
    rw [List.flatMap_cons, List.length_append, hq]
    simp only [List.length_cons]
    omega
set_option maxRecDepth 100000 in
set_option maxHeartbeats 8000000 in
theorem keys_decodes_walk (b : ByteArray) (w : World) (hb : b.size ≤ 140737488351232) (hg : Glob w) :
    Calls Tryd.prog 7 #[.string b] w fun e w' => e = .returned (.bool true) ∧ Below w.heap.size w w' := by
  have HG := Lib.hid hg
  have AW := Lib.hid (fun w (hg : Glob w) => awake03 w hg)
  clear hg
  by_cases h2 : 200 < b.size
  · have y1 : decide (200 < (b.size : Int)) = true := decide_eq_true (by omega)
    have y1n : decide (200 < b.size) = true := decide_eq_true h2
    go_enter Tryd.func7, Tryd.ntmps7
    go_wp2_with fail
    refine (AW.out _ HG.out).mono ?_
    rintro e w1 ⟨rfl, hb⟩
    have HB := Lib.hid hb; clear hb
    go_wp2_with fail
    refine (AW.out _ (HG.out.below HB.out)).mono ?_
    rintro e w3 ⟨rfl, hb⟩
    replace HB := Lib.hid (HB.out.trans (hb.mono HB.out.size))
    go_wp2
    go_ret
    exact ⟨rfl, HB.out⟩
  · have y1 : decide (200 < (b.size : Int)) = false := decide_eq_false (by omega)
    have y1n : decide (200 < b.size) = false := decide_eq_false h2
    have hbz : b.size ≤ 200 := by omega
    have DC := Lib.hid (fun w => decode_any b w (by omega))
    clear h2 hb
    cases hd : decL b.size (bl b) with
    | none =>
      have DV := Lib.hid (fun (w w' : World) (e : Ending) (h : decV b w w' e) => (show e = .returned (.tuple #[.slice none 0 0, .int .i64 2]) by unfold decV at h; rw [hd] at h; exact h))
      clear hd
      go_enter Tryd.func7, Tryd.ntmps7
      go_wp2_with fail
      refine (AW.out _ HG.out).mono ?_
      rintro e w1 ⟨rfl, hb⟩
      have HB := Lib.hid hb; clear hb
      go_wp2_with fail
      refine (DC.out _).mono ?_
      rintro e w2 ⟨hv, hb⟩
      obtain rfl := DV.out _ _ _ hv
      replace HB := Lib.hid (HB.out.trans (hb.mono HB.out.size)); clear hb hv
      go_wp2
      go_ret
      exact ⟨rfl, HB.out⟩
    | some l =>
      have DV := Lib.hid (fun (w w' : World) (e : Ending) (h : decV b w w' e) => (show ∃ v, e = .returned (.tuple #[v, .int .i64 0]) ∧ OwnF w' w.heap.size 20 1 itC v l by unfold decV at h; rw [hd] at h; exact h))
      obtain ⟨hok, hfl⟩ := decL_back _ _ _ (by rw [bl_length]; omega) hd
      have hll := flat_ge l
      rw [hfl, bl_length] at hll
      have he : encL l = b := bl_ext (by rw [bl_encL, hfl])
      have EN := Lib.hid (fun (w : World) (A : Option Addr) (c : Nat) (h : RowF w 1 itC A l.length l) (hg : Glob w) => encode_any A l.length c l w h (by omega) hok hg)
      rw [he] at EN
      clear hd hok hfl hll he hbz
      go_enter Tryd.func7, Tryd.ntmps7
      go_wp2_with fail
      refine (AW.out _ HG.out).mono ?_
      rintro e w1 ⟨rfl, hb⟩
      have HB := Lib.hid hb; clear hb
      go_wp2_with fail
      refine (DC.out _).mono ?_
      rintro e w2 ⟨hv, hb⟩
      obtain ⟨v, rfl, ho⟩ := DV.out _ _ _ hv
      replace HB := Lib.hid (HB.out.trans (hb.mono HB.out.size)); clear hb hv
      obtain ⟨A, c, rfl, -⟩ := ho.slice_
      have HR := Lib.hid (ho.row itC_len); clear ho
      go_wp2_with fail
      refine (EN.out _ _ _ HR.out (HG.out.below HB.out)).mono ?_
      rintro e w3 ⟨rfl, hb⟩
      replace HB := Lib.hid (HB.out.trans (hb.mono HB.out.size)); clear hb
      go_wp2
      go_ret
      exact ⟨rfl, HB.out⟩
theorem decodes_row (b : ByteArray) (w : World) (hg : Glob w) (hb : b.size ≤ 140737488351232) :
    Calls Tryd.prog 7 #[.string b] w fun e w' => e = .returned (.bool true) ∧ Below w.heap.size w w' := keys_decodes_walk b w hb hg
end Go.Proofs.YtbbjnnbabikefaaDoor.My
