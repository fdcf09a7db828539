/- KeysFirst: the walk, as the row asks for it. -/
import Derived.Test.YtbbjnnbabikefaaDoorKeys7
import Derived.Test.YtbbjnnbabikefaaDoorOpenKeys
namespace Go.Proofs.YtbbjnnbabikefaaDoor.My
open Go.RowKit Go.Proofs.YtbbjnnbabikefaaDoorW.PrintWords Go.Proofs.YtbbjnnbabikefaaDoorW.PrintLast Go.Proofs.YtbbjnnbabikefaaDoor.Pm
theorem first_row (x y : IR) (w : World) (hg : Glob w) (hx : x.In) (hxt : x.t.size ≤ 140737488351232) (hy : y.In) (hyt : y.t.size ≤ 140737488351232) :
    Calls Tryd.prog 3 #[.agg x.arr, .agg y.arr] w fun e w' => e = .returned (.bool true) ∧ Below w.heap.size w w' := keys_first_walk x y w hx hy hxt hyt hg
end Go.Proofs.YtbbjnnbabikefaaDoor.My
