/- The law BlockFinds walked. -/
import Derived.Test.YtmglkgcogfhabaaBlkFind
import Derived.Test.YtmglkgcogfhabaaBlkRight
import Derived.Test.YtmglkgcogfhabaaAwake10
import Derived.Test.YtmglkgcogfhabaaLawAt
namespace Go.Proofs.Ytmglkgcogfhabaa.My
set_option linter.unusedSimpArgs false
set_option linter.unusedVariables false
open Go.RowKit Go.Proofs.YtmglkgcogfhabaaW.PrintWords Go.Proofs.YtmglkgcogfhabaaW.PrintLast Go.Proofs.Ytmglkgcogfhabaa.Pm
theorem bytesLess_trans : ∀ (x y z : List UInt8), Op.bytesLess x y = true → Op.bytesLess y z = true → Op.bytesLess x z = true
  | [], [], _, h, _ => by simp [Op.bytesLess] at h
  | [], _ :: _, [], _, h => by simp [Op.bytesLess] at h
  | [], _ :: _, _ :: _, _, _ => by simp [Op.bytesLess]
  | _ :: _, [], _, h, _ => by simp [Op.bytesLess] at h
  | _ :: _, _ :: _, [], _, h => by simp [Op.bytesLess] at h
  | a :: x, b :: y, c :: z, h1, h2 => by
    simp only [Op.bytesLess, Bool.or_eq_true, decide_eq_true_eq, Bool.and_eq_true, beq_iff_eq] at h1 h2 ⊢
    rcases h1 with h1 | ⟨rfl, h1⟩ <;> rcases h2 with h2 | ⟨rfl, h2⟩
    · exact .inl (UInt8.lt_trans h1 h2)
    · exact .inl h1
    · exact .inl h2
    · exact .inr ⟨rfl, bytesLess_trans x y z h1 h2⟩
theorem keyLess_trans {a b c : ByteArray} (h1 : keyLess a b) (h2 : keyLess b c) : keyLess a c := bytesLess_trans _ _ _ h1 h2
theorem right10_keys {ps : List EntT} (h : right10 ps) (key : ByteArray) : ∀ (b a : Nat) (ha : a < ps.length) (hb : b < ps.length), a ≤ b → keyLess ps[b].1 key → keyLess ps[a].1 key
  | 0, a, ha, hb, hab, hk => by
    obtain rfl : a = 0 := by omega
    exact hk
  | b + 1, a, ha, hb, hab, hk => by
    by_cases e : a = b + 1
    · subst e; exact hk
    · have h2 := (h (b + 1) hb).2.2 (by omega)
      simp only [Nat.add_sub_cancel] at h2
      exact right10_keys h key b a ha (by omega) (by omega) (keyLess_trans h2 hk)
set_option maxRecDepth 100000 in
set_option maxHeartbeats 8000000 in
theorem block_finds_law (A : Option Addr) (len cap : Nat) (key : ByteArray) (ps : List EntT) (w : World) (hA : ArgEnts w A len ps) (hlen : len ≤ 140737488351232) :
    Calls Try.prog 7 #[.slice A len cap, .string key] w fun e w' => e = .returned (.bool true) ∧ Below w.heap.size w w' := by
  have HA := Lib.hid hA; clear hA
  have HB := Lib.hid (Below.refl w.heap.size w)
  go_enter Try.func7, Try.ntmps7
  go_wp2_with fail
  refine (awake10 _).mono ?_
  rintro e wq1 ⟨rfl, hb⟩
  have HB := Lib.hid (HB.out.trans (hb.mono HB.out.size)); clear hb
  go_wp2_with fail
  refine (rfew10_any A len cap 10 ps _ (HA.out.below HB.out) hlen (by decide)).mono ?_
  rintro e w4 ⟨bf, rfl, hf, rfl⟩
  cases bf with
  | false =>
    go_wp2_with fail
    refine (awake10 _).mono ?_
    rintro e wq2 ⟨rfl, hb⟩
    have HB := Lib.hid (HB.out.trans (hb.mono HB.out.size)); clear hb
    go_wp2
    go_ret
    exact ⟨rfl, HB.out⟩
  | true =>
    have hlen10 : len ≤ 10 := by have := (hf.1 rfl).2; rw [HA.out.1] at this; exact this
    clear hf
    go_wp2_with fail
    refine (rright10_any A len cap ps _ (HA.out.below HB.out) hlen).mono ?_
    rintro e w5 ⟨br, rfl, hr, hb⟩
    have HB := Lib.hid (HB.out.trans (hb.mono HB.out.size)); clear hb
    cases br with
    | false =>
      go_wp2_with fail
      refine (awake10 _).mono ?_
      rintro e wq3 ⟨rfl, hb⟩
      have HB := Lib.hid (HB.out.trans (hb.mono HB.out.size)); clear hb
      go_wp2
      go_ret
      exact ⟨rfl, HB.out⟩
    | true =>
      have HR := Lib.hid (right10_keys (hr.1 rfl) key); clear hr
      by_cases hk : 200 < key.size
      · have x1 : decide (200 < (key.size : Int)) = true := by simp; omega
        go_wp2_with fail
        refine (awake10 _).mono ?_
        rintro e wq4 ⟨rfl, hb⟩
        have HB := Lib.hid (HB.out.trans (hb.mono HB.out.size)); clear hb
        go_wp2
        go_ret
        exact ⟨rfl, HB.out⟩
      have x1 : decide (200 < (key.size : Int)) = false := by simp; omega
      go_wp2
      go_loopw [5] (fun v5 wr => ∃ i : Nat, v5 = .int .i64 i ∧ i ≤ len ∧ Hid (∀ t (h : t < ps.length), t < i → keyLess ps[t].1 key) ∧ Below w.heap.size w wr) (fun v5 _ => len - (intOf v5).toNat)
      case atStart => exact ⟨0, rfl, by omega, Lib.hid (fun t _ h => absurd h (by omega)), HB.out⟩
      case round =>
        clear HB
        obtain ⟨i, rfl, hi, HS, hb⟩ := hrel
        have HB := Lib.hid hb; clear hb
        have HF := Lib.hid (find_any A len cap key ps _ (HA.out.below HB.out) hlen (fun a b ha hb hab h => HR.out b a ha hb hab h))
        by_cases hlt : i < len
        · obtain ⟨b0, off, A1, len1, cap1, k, ch, hj, rfl, hb0, hp, hks, c0, c1, hl1, hv⟩ := (HA.out.below HB.out).get i hlt
          have HP := Lib.hid hp; clear hp hv c1 hl1 hks
          by_cases hl : keyLess k key
          · have y : Op.bytesLess k.toList key.toList = true := hl
            have HG := Lib.hid (show ∀ t (h : t < ps.length), t < i + 1 → keyLess ps[t].1 key from fun t h ht => by
              by_cases e : t = i
              · subst e; rw [HP.out]; exact hl
              · exact HS.out t h (by omega))
            have hw := succ_wrap hlt hlen
            clear hl
            go_wp2
            go_roundw
            case rel => exact ⟨i + 1, by go_num, hlt, HG, HB.out⟩
            case measure => first | exact bup hlt hw | exact bup2 hlt
          · have y : Op.bytesLess k.toList key.toList = false := by
              unfold keyLess at hl
              simpa using hl
            have HNL := Lib.hid hl; clear hl
            go_wp2_with fail
            refine HF.out.mono ?_
            rintro e w9 ⟨c, ok, rfl, hc, h1, h2, h3, hb⟩
            obtain rfl : c = i := by
              rcases Nat.lt_trichotomy c i with h | h | h
              · exact absurd (HS.out c (by omega) h) (h2 c (by omega) (Nat.le_refl _))
              · exact h
              · have := h1 i hj h
                rw [HP.out] at this
                exact absurd this HNL.out
            have c0 := (hb.cell (p := ⟨b0, off + c * 2, none⟩) hb0).trans c0
            have HB := Lib.hid (HB.out.trans (hb.mono HB.out.size)); clear hb
            have hok : ok = decide (k = key) := by
              have h4 : ok = true ↔ k = key := h3.trans ⟨fun ⟨h, e⟩ => by rw [HP.out] at e; exact e, fun e => ⟨hj, by rw [HP.out]; exact e⟩⟩
              cases ok with
              | true => exact (decide_eq_true (h4.1 rfl)).symm
              | false => exact (decide_eq_false (fun e => absurd (h4.2 e) (by decide))).symm
            have z1 := (beq_list k key).trans hok.symm
            clear hok h1 h2 h3
            cases ok with
            | true =>
              go_wp2
              go_ret
              exact ⟨rfl, HB.out⟩
            | false =>
              go_wp2
              go_ret
              exact ⟨rfl, HB.out⟩
        · obtain rfl : i = len := by omega
          go_wp2_with fail
          refine HF.out.mono ?_
          rintro e w9 ⟨c, ok, rfl, hc, h1, h2, h3, hb⟩
          have hpl := HA.out.1
          obtain rfl : c = i := by
            rcases Nat.lt_trichotomy c i with h | h | h
            · exact absurd (HS.out c (by omega) h) (h2 c (by omega) (Nat.le_refl _))
            · exact h
            · omega
          obtain rfl : ok = false := by
            cases ok with
            | false => rfl
            | true => obtain ⟨h, _⟩ := h3.1 rfl; omega
          have HB := Lib.hid (HB.out.trans (hb.mono HB.out.size)); clear hb h1 h2 h3 hpl
          go_wp2
          go_ret
          exact ⟨rfl, HB.out⟩
theorem ent_opens {H : Type} {enc : TypeId × Value → H} {w : World} {base : Nat} {spare : Nat → Bool} {held : Bool} :
    Opens enc Try.prog w base spare held 49 fun (p : EntT) cs => ∃ A' len' cap', p.1.size ≤ 140737488351232 ∧ cs = [.string p.1, .slice A' len' cap'] ∧ len' ≤ 140737488351232 ∧ ArgVers w A' len' p.2 :=
  (opens_struct2 Try.underlying49 (opens_string Try.underlying9) vers_opens).imp fun p cs ⟨hl, ⟨h0, hs⟩, A', len', cap', h2, _, _, hb, hr⟩ => by
    have e : Try.prog.cellsOf 49 = 2 := by kernel_rfl
    have e1 : Try.prog.cellsOf 9 = 1 := by kernel_rfl
    have e2 : Try.prog.cellsOf 22 = 1 := by kernel_rfl
    have e3 : Try.prog.bytesOf 30 = 32 := by kernel_rfl
    obtain ⟨a, b⟩ := p
    rw [e] at hl
    rw [e3] at hb
    simp only [e1] at h0
    simp only [e2] at h2
    refine ⟨(a, b), A', len', cap', hs, ?_, by omega, argvers_of hr⟩
    match cs, hl with
    | [x, y], _ => simp at h0 h2; rw [h0, h2]
theorem ents_opens {H : Type} {enc : TypeId × Value → H} {w : World} {base : Nat} {spare : Nat → Bool} {held : Bool} :
    Opens enc Try.prog w base spare held 45 fun (l : List EntT) cs => ∃ A len cap, cs = [.slice A len cap] ∧ len ≤ cap ∧ cap ≤ maxLen ∧ len * Try.prog.bytesOf 49 ≤ 140737488351232 ∧ RowSays w (Try.prog.cellsOf 49) (fun p cs => ∃ A' len' cap', p.1.size ≤ 140737488351232 ∧ cs = [.string p.1, .slice A' len' cap'] ∧ len' ≤ 140737488351232 ∧ ArgVers w A' len' p.2) A len l :=
  opens_slice Try.underlying45 (by decide +kernel) ent_opens
theorem argents_of {W : World} {A : Option Addr} {len : Nat} {l : List EntT} (hl : RowSays W (Try.prog.cellsOf 49) (fun p cs => ∃ A' len' cap', p.1.size ≤ 140737488351232 ∧ cs = [.string p.1, .slice A' len' cap'] ∧ len' ≤ 140737488351232 ∧ ArgVers W A' len' p.2) A len l) : ArgEnts W A len l := by
  have e1 : Try.prog.cellsOf 49 = 2 := by kernel_rfl
  rw [e1] at hl
  refine ⟨hl.1, fun p hp => ?_, fun h => ?_⟩
  · obtain ⟨j, hj, rfl⟩ := List.getElem_of_mem hp
    obtain ⟨b, off, a, c, _, _, h2, _, h3, _⟩ := hl.get j (by rw [← hl.1]; exact hj)
    rw [List.getElem?_eq_getElem hj] at h2
    obtain rfl : l[j] = a := by simpa using h2
    obtain ⟨_, _, _, h4, _⟩ := h3
    exact h4
  · obtain ⟨b, off, rfl, hlt, hc⟩ := hl.2 h
    refine ⟨b, off, rfl, hlt, fun j hj => ?_⟩
    obtain ⟨c, _, ⟨A', len', cap', _, rfl, h5, h6⟩, h4⟩ := hc j hj
    exact ⟨A', len', cap', h4 0 _ rfl, h4 1 _ rfl, h5, h6⟩
theorem block_finds_walk (A : Option Addr) (len cap : Nat) (l : List EntT) (a1 : ByteArray) (W : World) (_ : len ≤ cap) (hb : len * Try.prog.bytesOf 49 ≤ 140737488351232)
    (hl : RowSays W (Try.prog.cellsOf 49) (fun p cs => ∃ A' len' cap', p.1.size ≤ 140737488351232 ∧ cs = [.string p.1, .slice A' len' cap'] ∧ len' ≤ 140737488351232 ∧ ArgVers W A' len' p.2) A len l) (_ : a1.size ≤ 140737488351232) :
    Calls Try.prog 7 #[.slice A len cap, .string a1] W fun e w' => e = .returned (.bool true) ∧ Below W.heap.size W w' := by
  have e : Try.prog.bytesOf 49 = 40 := by kernel_rfl
  rw [e] at hb
  exact block_finds_law A len cap a1 l W (argents_of hl) (by omega)
end Go.Proofs.Ytmglkgcogfhabaa.My
