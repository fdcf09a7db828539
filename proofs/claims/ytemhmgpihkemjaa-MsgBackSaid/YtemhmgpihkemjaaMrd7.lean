/- msg.reader: what it holds; what takes a field, as a plain function. -/
import Derived.Test.YtemhmgpihkemjaaMrd6
import Derived.Test.YtemhmgpihkemjaaMsg5
namespace Go.Proofs.Ytemhmgpihkemjaa.My
set_option linter.unusedSimpArgs false
set_option linter.unusedVariables false
open Go.RowKit Go.Proofs.YtemhmgpihkemjaaW.PrintWords Go.Proofs.YtemhmgpihkemjaaW.PrintLast Go.Proofs.Ytemhmgpihkemjaa.Pm

/-- A reader: its message, how many fields are left out, is one of them critical, is it bad? -/
structure RM where
  m : MsgS
  left : Nat
  crit : Bool
  bad : Bool
def RM.arr (r : RM) (A : Option Addr) (n c : Nat) : Array Value := #[.int .i64 r.m.kind, .int .i64 r.m.frm, .int .i64 r.m.tow, .int .i64 r.m.node, .int .i64 r.m.life, .int .i64 r.m.seq, .int .u64 r.m.a, .int .u64 r.m.b, .string r.m.key, .bool r.m.found, .int .u64 r.m.time, .bool r.m.gone, .string r.m.value, .slice A n c, .string r.m.note, .int .u64 r.m.hint, .int .u64 r.m.must, .int .i64 (r.left : Int), .bool r.crit, .bool r.bad]
structure IsRM (w : World) (base g : Nat) (r : RM) (A : Option Addr) (c : Nat) : Prop where
  blk : IsMR w g (r.arr A r.m.ws.length c)
  own : OwnF w base 56 3 wrC (.slice A r.m.ws.length c) r.m.ws
theorem IsRM.below {w w1 : World} {base g c : Nat} {r : RM} {A : Option Addr} (h : IsRM w base g r A c) (hb : Below w.heap.size w w1) : IsRM w1 base g r A c := ⟨h.blk.below hb, h.own.below hb⟩
theorem IsRM.cur {w w1 : World} {base g c gc : Nat} {r : RM} {A : Option Addr} {s : ByteArray} {b : Bool} (h : IsRM w base g r A c) (hc : IsCur w gc s b) (hk : Keeps (Only gc) w w1) : IsRM w1 base g r A c :=
  ⟨h.blk.kept hk (fun e => by
    have e : g = gc := e
    have h1 := h.blk.1
    rw [e, hc] at h1
    injection h1 with h1
    injection h1 with _ h1 _
    exact absurd h1 (by decide)), h.own.cur hc (by decide) hk⟩
/-- A tag's field is taken. -/
def takeS (k : Nat) (s : ByteArray) (r : RM) : RM :=
  if k = 1 then ⟨{ r.m with frm := (((curUint s false).1 % 2147483648 : Nat) : Int) }, r.left, r.crit, (r.bad || !oneD s) || decide (2147483647 < (curUint s false).1)⟩
  else if k = 2 then ⟨{ r.m with tow := (((curUint s false).1 % 2147483648 : Nat) : Int) }, r.left, r.crit, (r.bad || !oneD s) || decide (2147483647 < (curUint s false).1)⟩
  else if k = 3 then ⟨{ r.m with node := (((cur3u s).1 % 2147483648 : Nat) : Int), life := (((cur3u s).2.1 % 2147483648 : Nat) : Int), seq := (((cur3u s).2.2.1 % 2147483648 : Nat) : Int) }, r.left, r.crit,
    (((r.bad || decide (2147483647 < (cur3u s).1)) || decide (2147483647 < (cur3u s).2.1)) || decide (2147483647 < (cur3u s).2.2.1)) || !(cur3u s).2.2.2⟩
  else if k = 4 then ⟨{ r.m with a := (curUint s false).1 }, r.left, r.crit, r.bad || !oneD s⟩
  else if k = 5 then ⟨{ r.m with b := (curUint s false).1 }, r.left, r.crit, r.bad || !oneD s⟩
  else if k = 6 then ⟨{ r.m with key := s }, r.left, r.crit, r.bad⟩
  else if k = 7 then ⟨{ r.m with found := true }, r.left, r.crit, r.bad || !s.toList.isEmpty⟩
  else if k = 8 then ⟨{ r.m with time := (curV s).1, gone := decide (bl (curV s).2.1 = [1]), value := (curV s).2.2.1 }, r.left, r.crit, (r.bad || flB (curV s).2.1) || (curV s).2.2.2⟩
  else if k = 9 then ⟨{ r.m with ws := (wrsS s r.bad).1 }, r.left, r.crit, (wrsS s r.bad).2⟩
  else if k = 10 then ⟨{ r.m with note := s }, r.left, r.crit, r.bad⟩
  else if k = 11 then ⟨{ r.m with hint := (curUint s false).1 }, r.left, r.crit, r.bad || !oneD s⟩
  else ⟨{ r.m with must := (curUint s false).1 }, r.left, r.crit, r.bad || !oneD s⟩
/-- What is looked at behind a field that was taken. -/
def seenB (k h : Nat) (s : ByteArray) (m : MsgS) (bad : Bool) : Bool := ((bad || !(fieldS m k).2) || !((fieldS m k).1.toList == s.toList)) || decide (headS k ≠ h)
def fldM (h : Nat) (s : ByteArray) (last : Nat) (r : RM) : RM :=
  if last < h / 2 then ⟨r.m, r.left + 1, r.crit || decide (h % 2 = 1), r.bad⟩
  else ⟨(takeS (h / 2) s r).m, (takeS (h / 2) s r).left, (takeS (h / 2) s r).crit, seenB (h / 2) h s (takeS (h / 2) s r).m (takeS (h / 2) s r).bad⟩
theorem ite_rm {α : Type} {c : Prop} [Decidable c] {a b : RM} {l : α} {F : RM → α} (ha : c → F a = l) (hb : ¬ c → F b = l) : F (if c then a else b) = l := by
  split
  · exact ha (by assumption)
  · exact hb (by assumption)
theorem takeS_ws {k : Nat} (s : ByteArray) (r : RM) (h : k ≠ 9) : (takeS k s r).m.ws = r.m.ws := by
  unfold takeS
  refine ite_rm (F := fun x => x.m.ws) (fun _ => rfl) fun _ => ?_
  refine ite_rm (F := fun x => x.m.ws) (fun _ => rfl) fun _ => ?_
  refine ite_rm (F := fun x => x.m.ws) (fun _ => rfl) fun _ => ?_
  refine ite_rm (F := fun x => x.m.ws) (fun _ => rfl) fun _ => ?_
  refine ite_rm (F := fun x => x.m.ws) (fun _ => rfl) fun _ => ?_
  refine ite_rm (F := fun x => x.m.ws) (fun _ => rfl) fun _ => ?_
  refine ite_rm (F := fun x => x.m.ws) (fun _ => rfl) fun _ => ?_
  refine ite_rm (F := fun x => x.m.ws) (fun _ => rfl) fun _ => ?_
  refine ite_rm (F := fun x => x.m.ws) (fun e => absurd e h) fun _ => ?_
  refine ite_rm (F := fun x => x.m.ws) (fun _ => rfl) fun _ => ?_
  exact ite_rm (F := fun x => x.m.ws) (fun _ => rfl) fun _ => rfl
theorem row_wrs {w : World} {A : Option Addr} {n : Nat} {l : List WrT} (h : RowF w 3 wrC A n l) : Wrs w A n l := h
section
variable {w : World} {base g bx c : Nat} {r : RM} {A : Option Addr} {s : ByteArray}
theorem RM.a19 (r : RM) (A : Option Addr) (n c : Nat) : (r.arr A n c)[19]? = some (.bool r.bad) := rfl
theorem take_1 (H : IsRM w base g r A c) (hX : IsBx w bx g) (hs : s.size ≤ 1000000) : Calls Try.prog 44 #[.string s, .pointer (some ⟨bx, 0, none⟩)] w fun e w' => e = .returned (.tuple #[]) ∧ IsRM w' base g (takeS 1 s r) A c ∧ Keeps (Only g) w w' := by
  refine (rd_f1 g bx _ s r.bad w H.blk (RM.a19 ..) hX (by omega)).mono ?_
  rintro e w' ⟨rfl, h, hk⟩
  exact ⟨rfl, ⟨h, H.own.mr H.blk (by decide) hk⟩, hk⟩
theorem take_2 (H : IsRM w base g r A c) (hX : IsBx w bx g) (hs : s.size ≤ 1000000) : Calls Try.prog 46 #[.string s, .pointer (some ⟨bx, 0, none⟩)] w fun e w' => e = .returned (.tuple #[]) ∧ IsRM w' base g (takeS 2 s r) A c ∧ Keeps (Only g) w w' := by
  refine (rd_f2 g bx _ s r.bad w H.blk (RM.a19 ..) hX (by omega)).mono ?_
  rintro e w' ⟨rfl, h, hk⟩
  exact ⟨rfl, ⟨h, H.own.mr H.blk (by decide) hk⟩, hk⟩
theorem take_3 (H : IsRM w base g r A c) (hX : IsBx w bx g) (hs : s.size ≤ 1000000) : Calls Try.prog 47 #[.pointer (some ⟨g, 0, none⟩), .string s] w fun e w' => e = .returned (.tuple #[]) ∧ IsRM w' base g (takeS 3 s r) A c ∧ Keeps (Only g) w w' := by
  refine (rd_txn g _ s r.bad w H.blk (RM.a19 ..) (by omega)).mono ?_
  rintro e w' ⟨rfl, h, hk⟩
  rw [show txC (r.arr A r.m.ws.length c) r.bad (cur3u s).1 (cur3u s).2.1 (cur3u s).2.2.1 (cur3u s).2.2.2 = (takeS 3 s r).arr A r.m.ws.length c by kernel_rfl] at h
  exact ⟨rfl, ⟨h, H.own.mr H.blk (by decide) hk⟩, hk⟩
theorem take_4 (H : IsRM w base g r A c) (hX : IsBx w bx g) (hs : s.size ≤ 1000000) : Calls Try.prog 48 #[.string s, .pointer (some ⟨bx, 0, none⟩)] w fun e w' => e = .returned (.tuple #[]) ∧ IsRM w' base g (takeS 4 s r) A c ∧ Keeps (Only g) w w' := by
  refine (rd_f3 g bx _ s r.bad w H.blk (RM.a19 ..) hX (by omega)).mono ?_
  rintro e w' ⟨rfl, h, hk⟩
  exact ⟨rfl, ⟨h, H.own.mr H.blk (by decide) hk⟩, hk⟩
theorem take_5 (H : IsRM w base g r A c) (hX : IsBx w bx g) (hs : s.size ≤ 1000000) : Calls Try.prog 49 #[.string s, .pointer (some ⟨bx, 0, none⟩)] w fun e w' => e = .returned (.tuple #[]) ∧ IsRM w' base g (takeS 5 s r) A c ∧ Keeps (Only g) w w' := by
  refine (rd_f4 g bx _ s r.bad w H.blk (RM.a19 ..) hX (by omega)).mono ?_
  rintro e w' ⟨rfl, h, hk⟩
  exact ⟨rfl, ⟨h, H.own.mr H.blk (by decide) hk⟩, hk⟩
theorem take_6 (H : IsRM w base g r A c) (hX : IsBx w bx g) (hs : s.size ≤ 1000000) : Calls Try.prog 50 #[.string s, .pointer (some ⟨bx, 0, none⟩)] w fun e w' => e = .returned (.tuple #[]) ∧ IsRM w' base g (takeS 6 s r) A c ∧ Keeps (Only g) w w' := by
  refine (rd_f5 g bx _ s w H.blk hX).mono ?_
  rintro e w' ⟨rfl, h, hk⟩
  exact ⟨rfl, ⟨h, H.own.mr H.blk (by decide) hk⟩, hk⟩
theorem take_7 (H : IsRM w base g r A c) (hX : IsBx w bx g) (hs : s.size ≤ 1000000) : Calls Try.prog 51 #[.string s, .pointer (some ⟨bx, 0, none⟩)] w fun e w' => e = .returned (.tuple #[]) ∧ IsRM w' base g (takeS 7 s r) A c ∧ Keeps (Only g) w w' := by
  refine (rd_f6 g bx _ s r.bad w H.blk (RM.a19 ..) hX).mono ?_
  rintro e w' ⟨rfl, h, hk⟩
  exact ⟨rfl, ⟨h, H.own.mr H.blk (by decide) hk⟩, hk⟩
theorem take_8 (H : IsRM w base g r A c) (hX : IsBx w bx g) (hs : s.size ≤ 1000000) : Calls Try.prog 52 #[.pointer (some ⟨g, 0, none⟩), .string s] w fun e w' => e = .returned (.tuple #[]) ∧ IsRM w' base g (takeS 8 s r) A c ∧ Keeps (Only g) w w' := by
  refine (rd_version g _ s r.bad w H.blk (RM.a19 ..) (by omega)).mono ?_
  rintro e w' ⟨rfl, h, hk⟩
  rw [show veC (r.arr A r.m.ws.length c) r.bad (curV s).1 (curV s).2.1 (curV s).2.2.1 (curV s).2.2.2 = (takeS 8 s r).arr A r.m.ws.length c by kernel_rfl] at h
  exact ⟨rfl, ⟨h, H.own.mr H.blk (by decide) hk⟩, hk⟩
theorem take_10 (H : IsRM w base g r A c) (hX : IsBx w bx g) (hs : s.size ≤ 1000000) : Calls Try.prog 54 #[.string s, .pointer (some ⟨bx, 0, none⟩)] w fun e w' => e = .returned (.tuple #[]) ∧ IsRM w' base g (takeS 10 s r) A c ∧ Keeps (Only g) w w' := by
  refine (rd_f7 g bx _ s w H.blk hX).mono ?_
  rintro e w' ⟨rfl, h, hk⟩
  exact ⟨rfl, ⟨h, H.own.mr H.blk (by decide) hk⟩, hk⟩
theorem take_11 (H : IsRM w base g r A c) (hX : IsBx w bx g) (hs : s.size ≤ 1000000) : Calls Try.prog 55 #[.string s, .pointer (some ⟨bx, 0, none⟩)] w fun e w' => e = .returned (.tuple #[]) ∧ IsRM w' base g (takeS 11 s r) A c ∧ Keeps (Only g) w w' := by
  refine (rd_f8 g bx _ s r.bad w H.blk (RM.a19 ..) hX (by omega)).mono ?_
  rintro e w' ⟨rfl, h, hk⟩
  exact ⟨rfl, ⟨h, H.own.mr H.blk (by decide) hk⟩, hk⟩
theorem take_12 (H : IsRM w base g r A c) (hX : IsBx w bx g) (hs : s.size ≤ 1000000) : Calls Try.prog 56 #[.string s, .pointer (some ⟨bx, 0, none⟩)] w fun e w' => e = .returned (.tuple #[]) ∧ IsRM w' base g (takeS 12 s r) A c ∧ Keeps (Only g) w w' := by
  refine (rd_f9 g bx _ s r.bad w H.blk (RM.a19 ..) hX (by omega)).mono ?_
  rintro e w' ⟨rfl, h, hk⟩
  exact ⟨rfl, ⟨h, H.own.mr H.blk (by decide) hk⟩, hk⟩
theorem take_9 (H : IsRM w base g r none 0) (h0 : r.m.ws = []) (hb : base ≤ w.heap.size) (hs : s.size ≤ 1000000) : Calls Try.prog 53 #[.pointer (some ⟨g, 0, none⟩), .string s] w fun e w' => ∃ A c, e = .returned (.tuple #[]) ∧ IsRM w' base g (takeS 9 s r) A c ∧ Keeps (Only g) w w' := by
  have h13 : (r.arr none r.m.ws.length 0)[13]? = some (.slice none 0 0) := by rw [h0]; rfl
  refine (rd_writes g _ s r.bad w H.blk h13 (RM.a19 ..) hs).mono ?_
  rintro e w' ⟨A, c, rfl, h, ho, hk⟩
  exact ⟨A, c, rfl, ⟨h, ho.lower hb⟩, hk⟩
end
end Go.Proofs.Ytemhmgpihkemjaa.My
