/- KeysOrder: the walk, as the row asks for it. -/
import Derived.Test.YtbbjnnbabikefaaDoorLawKO
import Derived.Test.YtbbjnnbabikefaaDoorOpenKeys
namespace Go.Proofs.YtbbjnnbabikefaaDoor.My
open Go.RowKit Go.Proofs.YtbbjnnbabikefaaDoorW.PrintWords Go.Proofs.YtbbjnnbabikefaaDoorW.PrintLast Go.Proofs.YtbbjnnbabikefaaDoor.Pm
theorem order_row (A : Option Addr) (n c : Nat) (la : List IR) (B : Option Addr) (m d : Nat) (lb : List IR) (w : World) (hg : Glob w)
    (h1 : n ≤ c) (h2 : n * Tryd.prog.bytesOf 24 ≤ 140737488351232) (h3 : RowSays w (Tryd.prog.cellsOf 24) ItemR A n la)
    (h4 : m ≤ d) (h5 : m * Tryd.prog.bytesOf 24 ≤ 140737488351232) (h6 : RowSays w (Tryd.prog.cellsOf 24) ItemR B m lb) :
    Calls Tryd.prog 4 #[.slice A n c, .slice B m d] w fun e w' => e = .returned (.bool true) ∧ Below w.heap.size w w' := by
  obtain ⟨ra, pa⟩ := items_of h3
  obtain ⟨rb, pb⟩ := items_of h6
  rw [items_bytes] at h2 h5
  exact keys_order_walk A B n c m d la lb w ra rb (by omega) (by omega) (fun x hx => (pa x hx).1) (fun x hx => (pb x hx).1) hg
end Go.Proofs.YtbbjnnbabikefaaDoor.My
