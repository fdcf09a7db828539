/- Arguments that come in, opened by their types: slices of structs, strings and so on, with the bounds of their sizes. -/
import Derived.Test.YtoandabafkdgjaaKit
import Derived.SizedLaws
import Derived.ChangeSlices
import Derived.ChangeArms
import Derived.ChangeSame
import Derived.DataReads
import Derived.Deep.MidRow
namespace Go.Proofs.Ytoandabafkdgjaa.My
open Go.ChangeShapes Go.WideShapes Go.RowKit
section
variable {H : Type} {enc : TypeId × Value → H} {P : Program} {w : World} {base : Nat} {spare : Nat → Bool} {held : Bool}
def Fits {H : Type} (P : Program) (t : TypeId) (d : DataW H) : Prop := ∀ n ∈ d.weights P t, n ≤ reachBytes
def Opens {α : Type} (enc : TypeId × Value → H) (P : Program) (w : World) (base : Nat) (spare : Nat → Bool) (held : Bool) (t : TypeId) (R : α → List Value → Prop) : Prop :=
  ∀ fuel cs (x : DataW H × List MemPlace), DataW.trod enc P w base spare held fuel t cs = some x → Fits P t x.1 → ∃ a, R a cs
theorem fits_arg {ts : List TypeId} {ds : List (DataW H)} {j : Nat} {t : TypeId} {d : DataW H} (h : (DataW.weightsEach P ts ds).all (· ≤ reachBytes) = true) (ht : ts[j]? = some t) (hd : ds[j]? = some d) : Fits P t d := fun n hn => by
  have := List.all_eq_true.1 h n (DataW.weights_mem_each ht hd n hn)
  simpa using this
theorem Opens.imp {α β : Type} {t : TypeId} {R : α → List Value → Prop} {R' : β → List Value → Prop} (h : Opens enc P w base spare held t R) (g : ∀ a cs, R a cs → ∃ b, R' b cs) : Opens enc P w base spare held t R' :=
  fun fuel cs x hx hf => (h fuel cs x hx hf).elim fun a ha => g a cs ha
theorem opens_int {t : TypeId} {k : IntKind} (ht : P.underlying t = some (.int k)) : Opens enc P w base spare held t fun (n : Int) cs => cs = [.int k n] ∧ (Lit.int k n).wf = true := fun fuel cs x hx _ => by
  obtain ⟨n, h1, _, h2⟩ := DataW.trod_int ht hx
  exact ⟨n, h1, h2⟩
theorem opens_bool {t : TypeId} (ht : P.underlying t = some .bool) : Opens enc P w base spare held t fun (b : Bool) cs => cs = [.bool b] := fun fuel cs x hx _ => by
  obtain ⟨n, h1, _⟩ := DataW.trod_bool ht hx
  exact ⟨n, h1⟩
theorem opens_string {t : TypeId} (ht : P.underlying t = some .string) : Opens enc P w base spare held t fun (b : ByteArray) cs => cs = [.string b] ∧ b.size ≤ 140737488351232 := fun fuel cs x hx hf => by
  obtain ⟨s, h1, h2, _⟩ := DataW.trod_string ht hx
  subst h2
  have := hf s.data.toList.length (by simp [DataW.weights])
  exact ⟨s, h1, by simpa [reachBytes] using this⟩
theorem fits_struct {t : TypeId} {fs : Array Field} (ht : P.underlying t = some (.struct fs)) {fuel : Nat} {cs : List Value} {x : DataW H × List MemPlace} (hx : DataW.trod enc P w base spare held fuel t cs = some x) (hf : Fits P t x.1) :
    cs.length = P.cellsOf t ∧ ∀ (i : Nat) (f : Field), fs[i]? = some f → ∃ n y, DataW.trod enc P w base spare held n f.type ((cs.drop f.offset).take (P.cellsOf f.type)) = some y ∧ Fits P f.type y.1 := by
  obtain ⟨xs, n, _, rfl, hl, hlen, he⟩ := DataW.trod_struct ht hx
  refine ⟨hl, fun i f hi => ?_⟩
  have hlt : i < xs.length := by rw [hlen]; exact (Array.getElem?_eq_some_iff.1 hi).1
  refine ⟨n, xs[i], by rw [he i f hi, List.getElem?_eq_getElem hlt], fun m hm => hf m ?_⟩
  unfold DataW.weights
  simp only [ht]
  exact DataW.weights_mem_each (j := i) (by simp [hi]) (by simp [hlt]) m hm
theorem opens_struct2 {α β : Type} {t : TypeId} {f0 f1 : Field} {R0 : α → List Value → Prop} {R1 : β → List Value → Prop} (ht : P.underlying t = some (.struct #[f0, f1]))
    (h0 : Opens enc P w base spare held f0.type R0) (h1 : Opens enc P w base spare held f1.type R1) :
    Opens enc P w base spare held t fun (p : α × β) cs => cs.length = P.cellsOf t ∧ R0 p.1 ((cs.drop f0.offset).take (P.cellsOf f0.type)) ∧ R1 p.2 ((cs.drop f1.offset).take (P.cellsOf f1.type)) := fun fuel cs x hx hf => by
  obtain ⟨hl, hh⟩ := fits_struct ht hx hf
  obtain ⟨n0, y0, a0, b0⟩ := hh 0 f0 rfl
  obtain ⟨n1, y1, a1, b1⟩ := hh 1 f1 rfl
  obtain ⟨p0, r0⟩ := h0 _ _ _ a0 b0
  obtain ⟨p1, r1⟩ := h1 _ _ _ a1 b1
  exact ⟨(p0, p1), hl, r0, r1⟩
theorem opens_struct3 {α β γ : Type} {t : TypeId} {f0 f1 f2 : Field} {R0 : α → List Value → Prop} {R1 : β → List Value → Prop} {R2 : γ → List Value → Prop} (ht : P.underlying t = some (.struct #[f0, f1, f2]))
    (h0 : Opens enc P w base spare held f0.type R0) (h1 : Opens enc P w base spare held f1.type R1) (h2 : Opens enc P w base spare held f2.type R2) :
    Opens enc P w base spare held t fun (p : α × β × γ) cs => cs.length = P.cellsOf t ∧ R0 p.1 ((cs.drop f0.offset).take (P.cellsOf f0.type)) ∧ R1 p.2.1 ((cs.drop f1.offset).take (P.cellsOf f1.type)) ∧ R2 p.2.2 ((cs.drop f2.offset).take (P.cellsOf f2.type)) := fun fuel cs x hx hf => by
  obtain ⟨hl, hh⟩ := fits_struct ht hx hf
  obtain ⟨n0, y0, a0, b0⟩ := hh 0 f0 rfl
  obtain ⟨n1, y1, a1, b1⟩ := hh 1 f1 rfl
  obtain ⟨n2, y2, a2, b2⟩ := hh 2 f2 rfl
  obtain ⟨p0, r0⟩ := h0 _ _ _ a0 b0
  obtain ⟨p1, r1⟩ := h1 _ _ _ a1 b1
  obtain ⟨p2, r2⟩ := h2 _ _ _ a2 b2
  exact ⟨(p0, p1, p2), hl, r0, r1, r2⟩
/-- What a slice that came in says: its elements, each by R of its cells. -/
def RowSays {α : Type} (w : World) (size : Nat) (R : α → List Value → Prop) (A : Option Addr) (len : Nat) (l : List α) : Prop :=
  l.length = len ∧ (0 < len → ∃ b off, A = some ⟨b, off, none⟩ ∧ b < w.heap.size ∧ ∀ j (h : j < l.length), ∃ c, c.length = size ∧ R l[j] c ∧ w.rangeAt b (off + j * size) c)
theorem RowSays.get {α : Type} {size : Nat} {R : α → List Value → Prop} {A : Option Addr} {len : Nat} {l : List α} (h : RowSays w size R A len l) (j : Nat) (hj : j < len) :
    ∃ b off a c, A = some ⟨b, off, none⟩ ∧ b < w.heap.size ∧ l[j]? = some a ∧ c.length = size ∧ R a c ∧ w.rangeAt b (off + j * size) c := by
  obtain ⟨b, off, rfl, hb, hc⟩ := h.2 (by omega)
  have hj' : j < l.length := by rw [h.1]; exact hj
  obtain ⟨c, h1, h2, h3⟩ := hc j hj'
  exact ⟨b, off, l[j], c, rfl, hb, List.getElem?_eq_getElem hj', h1, h2, h3⟩
theorem RowSays.below {α : Type} {w' : World} {size : Nat} {R : α → List Value → Prop} {A : Option Addr} {len : Nat} {l : List α} (h : RowSays w size R A len l) (hb : Below w.heap.size w w') : RowSays w' size R A len l :=
  ⟨h.1, fun h0 => by
    obtain ⟨b, off, e, hlt, hc⟩ := h.2 h0
    exact ⟨b, off, e, Nat.lt_of_lt_of_le hlt hb.size, fun j hj => by
      obtain ⟨c, h1, h2, h3⟩ := hc j hj
      exact ⟨c, h1, h2, fun i v hi => (hb.cell (p := ⟨b, off + j * size + i, none⟩) hlt).trans (h3 i v hi)⟩⟩⟩
theorem RowSays.imp {α : Type} {size : Nat} {R R' : α → List Value → Prop} {A : Option Addr} {len : Nat} {l : List α} (h : RowSays w size R A len l) (g : ∀ a c, R a c → R' a c) : RowSays w size R' A len l :=
  ⟨h.1, fun h0 => by
    obtain ⟨b, off, e, hlt, hc⟩ := h.2 h0
    exact ⟨b, off, e, hlt, fun j hj => by
      obtain ⟨c, h1, h2, h3⟩ := hc j hj
      exact ⟨c, h1, g _ _ h2, h3⟩⟩⟩
theorem fits_all {t : TypeId} : ∀ {l : List (DataW H)}, (∀ n ∈ DataW.weightsAll P t l, n ≤ reachBytes) → ∀ d ∈ l, Fits P t d
  | [], _, d, hd => by simp at hd
  | x :: r, h, d, hd => by
    rcases List.mem_cons.1 hd with rfl | hd
    · exact fun n hn => h n (by unfold DataW.weightsAll; exact List.mem_append_left _ hn)
    · exact fits_all (fun n hn => h n (by unfold DataW.weightsAll; exact List.mem_append_right _ hn)) d hd
theorem choose_list {α : Type} {q : Nat → α → Prop} : ∀ n, (∀ i, i < n → ∃ a, q i a) → ∃ l : List α, l.length = n ∧ ∀ i (h : i < l.length), q i l[i]
  | 0, _ => ⟨[], rfl, fun i h => by simp at h⟩
  | n + 1, hq => by
    obtain ⟨l, h1, h2⟩ := choose_list n fun i hi => hq i (by omega)
    obtain ⟨a, ha⟩ := hq n (by omega)
    refine ⟨l ++ [a], by simp [h1], fun i hi => ?_⟩
    rw [List.length_append, List.length_singleton] at hi
    by_cases e : i < l.length
    · rw [List.getElem_append_left e]; exact h2 i e
    · obtain rfl : i = l.length := by omega
      rw [List.getElem_append_right (Nat.le_refl _)]
      simp only [Nat.sub_self, List.getElem_cons_zero]
      rw [h1]
      exact ha
theorem opens_slice {α : Type} {t e : TypeId} {R : α → List Value → Prop} (ht : P.underlying t = some (.slice e)) (hpos : 0 < P.cellsOf e) (he : Opens enc P w base spare held e R) :
    Opens enc P w base spare held t fun (l : List α) cs => ∃ A len cap, cs = [.slice A len cap] ∧ len ≤ cap ∧ cap ≤ maxLen ∧ len * P.bytesOf e ≤ 140737488351232 ∧ RowSays w (P.cellsOf e) R A len l := fun fuel cs x hx hf => by
  rcases DataW.trod_slice ht hx with ⟨rfl, rfl⟩ | ⟨a, len, cap, elems, rest, n, _, rfl, rfl, hb, hl, hm, hlen, hel, hsp, hns⟩
  · exact ⟨[], none, 0, 0, rfl, by omega, by simp [maxLen], by omega, rfl, fun h => by omega⟩
  · have hw : ∀ m ∈ (elems.length + rest.length) * P.bytesOf e :: (DataW.weightsAll P e (elems.map (·.1)) ++ DataW.weightsAll P e (rest.map (·.1))), m ≤ reachBytes := by
      have := hf
      unfold Fits DataW.weights at this
      simpa [ht] using this
    have h1 := hw _ (List.mem_cons_self ..)
    have hfa := fits_all (P := P) (t := e) (l := elems.map (·.1)) fun m hm' => hw m (List.mem_cons_of_mem _ (List.mem_append_left _ hm'))
    have each : ∀ i, i < len → ∃ p : α × List Value, p.2.length = P.cellsOf e ∧ R p.1 p.2 ∧ ∀ j, j < P.cellsOf e → w.cell? ((a.add (i * P.cellsOf e)).add j) = p.2[j]? := by
      intro i hi
      have h2 := hel i hi
      rw [List.getElem?_eq_getElem (show i < elems.length by omega)] at h2
      obtain ⟨cs', h3, h4⟩ := Option.bind_eq_some_iff.1 h2
      obtain ⟨p, hp⟩ := he _ _ _ h4 (hfa _ (List.mem_map.2 ⟨_, List.getElem_mem (show i < elems.length by omega), rfl⟩))
      obtain ⟨_, h5, h6⟩ := World.cells?_some h3
      exact ⟨(p, cs'), h5, hp, h6⟩
    obtain ⟨l, hl1, hl2⟩ := choose_list len each
    refine ⟨l.map (·.1), some a, len, cap, rfl, hl, hm, ?_, by simpa using hl1, fun h0 => ?_⟩
    · have : len * P.bytesOf e ≤ (elems.length + rest.length) * P.bytesOf e := Nat.mul_le_mul_right _ (by omega)
      simp only [reachBytes] at h1
      omega
    · obtain ⟨b, off, spot⟩ := a
      have hz := hl2 0 (by omega)
      have hc0 := hz.2.2 0 hpos
      rw [List.getElem?_eq_getElem (by rw [hz.1]; exact hpos)] at hc0
      have hspot : spot = none := by simpa [Addr.add] using World.cell?_spot hc0
      subst hspot
      have hblk : b < w.heap.size := by simpa [Addr.add] using cell_block_lt hc0
      refine ⟨b, off, rfl, hblk, fun j hj => ?_⟩
      rw [List.length_map] at hj
      obtain ⟨g1, g2, g3⟩ := hl2 j hj
      refine ⟨l[j].2, g1, by rw [List.getElem_map]; exact g2, fun i v hi => ?_⟩
      have hlt := (List.getElem?_eq_some_iff.1 hi).1
      have := g3 i (by rw [← g1]; exact hlt)
      rw [add_plain, add_plain] at this
      rw [this]
      exact hi
end
end Go.Proofs.Ytoandabafkdgjaa.My
