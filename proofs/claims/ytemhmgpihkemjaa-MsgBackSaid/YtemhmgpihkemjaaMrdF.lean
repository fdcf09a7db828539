/- msg.Decode, plain: sizes. -/
import Derived.Test.YtemhmgpihkemjaaMrd9
import Derived.Test.YtemhmgpihkemjaaMsg7
namespace Go.Proofs.Ytemhmgpihkemjaa.My
set_option linter.unusedSimpArgs false
set_option linter.unusedVariables false
open Go.RowKit Go.Proofs.YtemhmgpihkemjaaW.PrintWords Go.Proofs.YtemhmgpihkemjaaW.PrintLast Go.Proofs.Ytemhmgpihkemjaa.Pm

theorem curBytes_sz (s : ByteArray) (b : Bool) (n : Int) : (curBytes s b n).1.size + (curBytes s b n).2.1.size ≤ s.size := by
  unfold curBytes
  split
  · exact Nat.le_of_eq (Nat.zero_add _)
  · simp only [ByteArray.size_extract]; omega
theorem curText_sz (s : ByteArray) (b : Bool) : (curText s b).1.size + (curText s b).2.1.size ≤ s.size := by
  have h := curUint_size s b
  unfold curText
  split
  · exact Nat.le_of_eq (Nat.zero_add _)
  · split
    · exact Nat.le_trans (Nat.le_of_eq (Nat.zero_add _)) h
    · exact Nat.le_trans (curBytes_sz _ _ _) h
theorem wrsL_sz : ∀ (k : Nat) (s : ByteArray) (cb bad : Bool) (ws : List WrT) (N : Nat), s.size ≤ N → (∀ p ∈ ws, p.1.size ≤ N ∧ p.2.2.size ≤ N) → (wrsL k s cb bad ws).1.length = ws.length + k ∧ ∀ p ∈ (wrsL k s cb bad ws).1, p.1.size ≤ N ∧ p.2.2.size ≤ N
  | 0, s, cb, bad, ws, N, hs, hw => ⟨rfl, hw⟩
  | k + 1, s, cb, bad, ws, N, hs, hw => by
    unfold wrsL
    have h1 := curBytes_sz s cb 1
    have h2 := curText_sz (curBytes s cb 1).2.1 (curBytes s cb 1).2.2
    have h3 := curText_sz (curText (curBytes s cb 1).2.1 (curBytes s cb 1).2.2).2.1 (curText (curBytes s cb 1).2.1 (curBytes s cb 1).2.2).2.2
    have := wrsL_sz k (curText (curText (curBytes s cb 1).2.1 (curBytes s cb 1).2.2).2.1 (curText (curBytes s cb 1).2.1 (curBytes s cb 1).2.2).2.2).2.1
      (curText (curText (curBytes s cb 1).2.1 (curBytes s cb 1).2.2).2.1 (curText (curBytes s cb 1).2.1 (curBytes s cb 1).2.2).2.2).2.2
      (bad || flB (curBytes s cb 1).1)
      (ws ++ [((curText (curBytes s cb 1).2.1 (curBytes s cb 1).2.2).1, decide (bl (curBytes s cb 1).1 = [1]), (curText (curText (curBytes s cb 1).2.1 (curBytes s cb 1).2.2).2.1 (curText (curBytes s cb 1).2.1 (curBytes s cb 1).2.2).2.2).1)]) N (by omega) (fun p hp => by
        rcases List.mem_append.1 hp with hp | hp
        · exact hw p hp
        · obtain rfl := List.mem_singleton.1 hp
          exact ⟨by show (curText _ _).1.size ≤ N; omega, by show (curText _ _).1.size ≤ N; omega⟩)
    refine ⟨this.1.trans ?_, this.2⟩
    rw [List.length_append, List.length_singleton]
    omega
theorem ok32_mod (x : Nat) : Ok32 ((x % 2147483648 : Nat) : Int) := by unfold Ok32; omega
theorem takeS_fit {k : Nat} {s : ByteArray} {r : RM} (h : r.m.Fit) (hs : s.size ≤ 4000) (h9 : k = 9 → r.m.ws = []) (h1 : 1 ≤ k) (h12 : k ≤ 12) : (takeS k s r).m.Fit := by
  rcases (show k = 1 ∨ k = 2 ∨ k = 3 ∨ k = 4 ∨ k = 5 ∨ k = 6 ∨ k = 7 ∨ k = 8 ∨ k = 9 ∨ k = 10 ∨ k = 11 ∨ k = 12 by omega) with rfl | rfl | rfl | rfl | rfl | rfl | rfl | rfl | rfl | rfl | rfl | rfl
  · exact ⟨ok32_mod _, h.tow, h.node, h.life, h.seq, h.kind, h.a, h.b, h.key, h.time, h.value, h.ws, h.wss, h.note, h.hint, h.must⟩
  · exact ⟨h.frm, ok32_mod _, h.node, h.life, h.seq, h.kind, h.a, h.b, h.key, h.time, h.value, h.ws, h.wss, h.note, h.hint, h.must⟩
  · exact ⟨h.frm, h.tow, ok32_mod _, ok32_mod _, ok32_mod _, h.kind, h.a, h.b, h.key, h.time, h.value, h.ws, h.wss, h.note, h.hint, h.must⟩
  · exact ⟨h.frm, h.tow, h.node, h.life, h.seq, h.kind, curUint_lt64 s false, h.b, h.key, h.time, h.value, h.ws, h.wss, h.note, h.hint, h.must⟩
  · exact ⟨h.frm, h.tow, h.node, h.life, h.seq, h.kind, h.a, curUint_lt64 s false, h.key, h.time, h.value, h.ws, h.wss, h.note, h.hint, h.must⟩
  · exact ⟨h.frm, h.tow, h.node, h.life, h.seq, h.kind, h.a, h.b, Nat.le_trans hs (by decide), h.time, h.value, h.ws, h.wss, h.note, h.hint, h.must⟩
  · exact ⟨h.frm, h.tow, h.node, h.life, h.seq, h.kind, h.a, h.b, h.key, h.time, h.value, h.ws, h.wss, h.note, h.hint, h.must⟩
  · have h1 := curUint_size s false
    have h2 := curBytes_sz (curUint s false).2.1 (curUint s false).2.2 1
    have h3 := curBytes_sz (curBytes (curUint s false).2.1 (curUint s false).2.2 1).2.1 (curBytes (curUint s false).2.1 (curUint s false).2.2 1).2.2 ((curBytes (curUint s false).2.1 (curUint s false).2.2 1).2.1.size : Nat)
    have hv : (curV s).2.2.1.size ≤ 20000 := by unfold curV; simp only; omega
    exact ⟨h.frm, h.tow, h.node, h.life, h.seq, h.kind, h.a, h.b, h.key, curUint_lt64 s false, hv, h.ws, h.wss, h.note, h.hint, h.must⟩
  · have h1 := curUint_size s false
    have hz := wrsL_sz (min (curUint s false).1 8) (curUint s false).2.1 (curUint s false).2.2 r.bad [] 4000 (by omega) (fun p hp => by cases hp)
    have hw1 : (wrsS s r.bad).1.length ≤ 20 := by
      have e : (wrsS s r.bad).1.length = ([] : List WrT).length + min (curUint s false).1 8 := hz.1
      rw [e]
      simp only [List.length_nil]
      omega
    have hw2 : ∀ p ∈ (wrsS s r.bad).1, p.1.size ≤ 20000 ∧ p.2.2.size ≤ 20000 := fun p hp => ⟨Nat.le_trans (hz.2 p hp).1 (by decide), Nat.le_trans (hz.2 p hp).2 (by decide)⟩
    exact ⟨h.frm, h.tow, h.node, h.life, h.seq, h.kind, h.a, h.b, h.key, h.time, h.value, hw1, hw2, h.note, h.hint, h.must⟩
  · exact ⟨h.frm, h.tow, h.node, h.life, h.seq, h.kind, h.a, h.b, h.key, h.time, h.value, h.ws, h.wss, Nat.le_trans hs (by decide), h.hint, h.must⟩
  · exact ⟨h.frm, h.tow, h.node, h.life, h.seq, h.kind, h.a, h.b, h.key, h.time, h.value, h.ws, h.wss, h.note, curUint_lt64 s false, h.must⟩
  · exact ⟨h.frm, h.tow, h.node, h.life, h.seq, h.kind, h.a, h.b, h.key, h.time, h.value, h.ws, h.wss, h.note, h.hint, curUint_lt64 s false⟩
/-- The loop over a message's fields: what is left, is the cursor bad, the reader. -/
def decL (last : Nat) : Nat → ByteArray → Bool → Nat → RM → ByteArray × Bool × RM
  | 0, s, cb, was, r => (s, cb, r)
  | n + 1, s, cb, was, r => if s.size = 0 ∨ cb = true ∨ r.bad = true then (s, cb, r) else
    decL last n (curText (curUint s false).2.1 (curUint s false).2.2).2.1 (curText (curUint s false).2.1 (curUint s false).2.2).2.2 ((curUint s false).1 / 2)
      (if (curText (curUint s false).2.1 (curUint s false).2.2).2.2 = false ∧ was < (curUint s false).1 / 2 then fldM (curUint s false).1 (curText (curUint s false).2.1 (curUint s false).2.2).1 last r
        else ⟨r.m, r.left, r.crit, decide ((curUint s false).1 / 2 ≤ was)⟩)
def decR0 (b : ByteArray) : RM := ⟨{ zeroM with kind := (((curUint b false).1 % 2147483648 : Nat) : Int) }, 0, false, decide (2147483647 < (curUint b false).1)⟩
def decF (last : Nat) (b : ByteArray) : ByteArray × Bool × RM := decL last (b.size + 1) (curUint b false).2.1 (curUint b false).2.2 0 (decR0 b)
/-- msg.Decode: the message, how many are left out, the error. -/
def decM (v : Int) (b : ByteArray) : MsgS × Nat × Nat :=
  if knownS v = 0 then (zeroM, 0, 1) else if 4000 < b.size then (zeroM, 0, 3)
  else if (decF (knownS v) b).2.1 = true ∨ (decF (knownS v) b).2.2.bad = true ∨ rightB (decF (knownS v) b).2.2.m = false then (zeroM, 0, 2)
  else if (decF (knownS v) b).2.2.crit = true then (zeroM, 0, 4) else ((decF (knownS v) b).2.2.m, (decF (knownS v) b).2.2.left, 0)
/-- How far the cursor has to go. -/
def curM (w : World) (g : Nat) : Nat := match w.cell? ⟨g, 0, none⟩, w.cell? ⟨g, 1, none⟩ with
  | some (.string s), some (.bool false) => s.size + 1
  | _, _ => 0
theorem curM_good {w : World} {g : Nat} {s : ByteArray} (h : IsCur w g s false) : curM w g = s.size + 1 := by unfold curM; rw [h.c0, h.c1]
theorem curM_bad {w : World} {g : Nat} {s : ByteArray} (h : IsCur w g s true) : curM w g = 0 := by unfold curM; rw [h.c0, h.c1]
theorem curUint_shrinks (s : ByteArray) (h : (curUint s false).2.2 = false) : (curUint s false).2.1.size < s.size := by
  have e := curUint_split s h
  have hz : s.size = (uvS (curUint s false).1).size + (curUint s false).2.1.size := by
    conv => lhs; rw [e]
    rw [ByteArray.size_append]
  have : 0 < (uvS (curUint s false).1).size := by
    rw [uvS_size]
    unfold uv
    split <;> simp
  omega
theorem curText_cb (s : ByteArray) (h : (curText s true).2.2 = true) : True := trivial
theorem curText_of_bad (s : ByteArray) : (curText s true).2.2 = true := by
  have e : curUint s true = (0, s, true) := by unfold curUint; rw [if_pos rfl]
  unfold curText
  rw [e]
  simp
end Go.Proofs.Ytemhmgpihkemjaa.My
