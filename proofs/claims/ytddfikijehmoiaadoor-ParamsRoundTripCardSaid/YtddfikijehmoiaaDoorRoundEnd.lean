/- Law 20: ParamsRoundTrip: the walk at the row's arguments. -/
import Derived.Test.YtddfikijehmoiaaDoorRoundMain
import Derived.Test.YtddfikijehmoiaaDoorLaidAt
import Derived.SizedLaws
import Derived.ChangeMaps5
namespace Go.Proofs.YtddfikijehmoiaaDoor.paramsRoundTrip
open Go.ChangeShapes Go.WideShapes Go.ChangeAt Go.RowKit
set_option maxRecDepth 100000 in
theorem main {H : Type} {enc : TypeId × Value → H} (W : World) (ad : Addr) (hl : Laid ad W) (d0 d1 d2 : DataW H) (hw : (DataW.weightsEach Tryd.prog [23, 3, 9] [d0, d1, d2]).all (· ≤ reachBytes) = true)
    (b0 : Nat) (v0 : Value) (p0 : List MemPlace) (k0 : Value.okWide Tryd.prog W .any b0 23 v0) (h0 : DataW.Trod enc Tryd.prog W 0 (fun _ => true) true 23 v0 d0 p0)
    (b1 : Nat) (v1 : Value) (p1 : List MemPlace) (k1 : Value.okWide Tryd.prog W .any b1 3 v1) (h1 : DataW.Trod enc Tryd.prog W 0 (fun _ => true) true 3 v1 d1 p1)
    (b2 : Nat) (v2 : Value) (p2 : List MemPlace) (k2 : Value.okWide Tryd.prog W .any b2 9 v2) (h2 : DataW.Trod enc Tryd.prog W 0 (fun _ => true) true 9 v2 d2 p2) :
    Calls Tryd.prog 3 #[v0, v1, v2] W fun e w' => e = .returned (.bool true) ∧ Below W.heap.size W w' := by
  obtain ⟨pm, rfl, hok⟩ := open_pm k0 h0
  obtain ⟨n, rfl, _, _, hn⟩ := open_int Tryd.underlying3 k1 h1
  obtain ⟨s, rfl, hd, _, hs⟩ := Go.ChangeMaps.open_string Tryd.underlying9 k2 h2
  have hb := wf_bounds hn
  have hz := sized_string hw (j := 2) rfl (congrArg some hd)
  exact (walk pm hok n hb.1 hb.2 s (by unfold reachBytes at hz; simp at hz; omega) ad W hl).mono fun e w' h => ⟨h.1, h.2.1⟩
end Go.Proofs.YtddfikijehmoiaaDoor.paramsRoundTrip
