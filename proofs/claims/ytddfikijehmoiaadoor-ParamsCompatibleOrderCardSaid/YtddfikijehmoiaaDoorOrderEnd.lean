/- Law 20: ParamsCompatibleOrder: the walk at the row's arguments. -/
import Derived.Test.YtddfikijehmoiaaDoorOrderMain
import Derived.OpenShut
namespace Go.Proofs.YtddfikijehmoiaaDoor.paramsCompatibleOrder
open Go.ChangeShapes Go.WideShapes Go.ChangeAt Go.RowKit
theorem cells37 : Tryd.prog.cellsOf 37 = 3 := by kernel_rfl
theorem cells5 : Tryd.prog.cellsOf 5 = 1 := by kernel_rfl
theorem elem5 {H : Type} {enc : TypeId × Value → H} {W : World} {held : Bool} {n : Nat} {c : Value} {o : Option (DataW H × List MemPlace)} (ho : o.isSome = true)
    (h : DataW.trod enc Tryd.prog W 0 (fun _ => true) held n 5 [c] = o) : ∃ m : Int, c = .int .u8 m ∧ 0 ≤ m ∧ m ≤ 255 := by
  obtain ⟨x, rfl⟩ := Option.isSome_iff_exists.1 ho
  obtain ⟨m, hc, _, hw⟩ := DataW.trod_int Tryd.underlying5 h
  cases hc
  refine ⟨m, rfl, ?_⟩
  simp [Lit.wf, IntKind.min, IntKind.max, IntKind.bits, IntKind.signed] at hw
  omega
theorem okWide_row {P : Program} {w : World} {r : Reach} {base n : Nat} {t e : TypeId} {v : Value} (ht : P.underlying t = some (.array n e)) (h : Value.okWide P w r base t v) : ∃ cs, v = .agg cs ∧ cs.size = P.cellsOf t := by
  simp only [Value.okWide, ht] at h
  obtain ⟨cs, h1, h2, _⟩ := h
  exact ⟨cs, h1, h2⟩
set_option maxRecDepth 100000 in
theorem open_b3 {H : Type} {enc : TypeId × Value → H} {W : World} {held : Bool} {v : Value} {d : DataW H} {p : List MemPlace} {base : Nat} (hv : Value.okWide Tryd.prog W .any base 37 v)
    (h : DataW.Trod enc Tryd.prog W 0 (fun _ => true) held 37 v d p) : ∃ b : B3, v = .agg b.cells ∧ b.ok := by
  obtain ⟨cs, rfl, hsz⟩ := okWide_row Tryd.underlying37 hv
  rw [cells37] at hsz
  obtain ⟨l⟩ := cs
  match l, hsz with
  | [c0, c1, c2], _ =>
    obtain ⟨fuel, hf⟩ := h
    obtain ⟨xs, n, _, _, _, hlen, hg⟩ := DataW.trod_array Tryd.underlying37 hf
    have hs : ∀ i, i < 3 → (xs[i]?).isSome = true := fun i hi => by
      rw [List.getElem?_eq_getElem (by omega)]; rfl
    have g0 := hg 0 (by decide)
    have g1 := hg 1 (by decide)
    have g2 := hg 2 (by decide)
    simp only [cells5, Value.cells] at g0 g1 g2
    obtain ⟨n0, rfl, b0⟩ := elem5 (hs 0 (by decide)) g0
    obtain ⟨n1, rfl, b1⟩ := elem5 (hs 1 (by decide)) g1
    obtain ⟨n2, rfl, b2⟩ := elem5 (hs 2 (by decide)) g2
    exact ⟨⟨n0, n1, n2⟩, rfl, b0, b1, b2⟩
set_option maxRecDepth 100000 in
theorem main {H : Type} {enc : TypeId × Value → H} (W : World) (ad : Addr) (hl : Laid ad W) (d0 d1 d2 : DataW H) (_hw : (DataW.weightsEach Tryd.prog [37, 37, 37] [d0, d1, d2]).all (· ≤ reachBytes) = true)
    (b0 : Nat) (v0 : Value) (p0 : List MemPlace) (k0 : Value.okWide Tryd.prog W .any b0 37 v0) (h0 : DataW.Trod enc Tryd.prog W 0 (fun _ => true) true 37 v0 d0 p0)
    (b1 : Nat) (v1 : Value) (p1 : List MemPlace) (k1 : Value.okWide Tryd.prog W .any b1 37 v1) (h1 : DataW.Trod enc Tryd.prog W 0 (fun _ => true) true 37 v1 d1 p1)
    (b2 : Nat) (v2 : Value) (p2 : List MemPlace) (k2 : Value.okWide Tryd.prog W .any b2 37 v2) (h2 : DataW.Trod enc Tryd.prog W 0 (fun _ => true) true 37 v2 d2 p2) :
    Calls Tryd.prog 5 #[v0, v1, v2] W fun e w' => e = .returned (.bool true) ∧ Below W.heap.size W w' := by
  obtain ⟨a, rfl, ha⟩ := open_b3 k0 h0
  obtain ⟨b, rfl, hb⟩ := open_b3 k1 h1
  obtain ⟨c, rfl, hc⟩ := open_b3 k2 h2
  exact (walk a b c ha hb hc ad W hl).mono fun e w' h => ⟨h.1, h.2.1⟩
end Go.Proofs.YtddfikijehmoiaaDoor.paramsCompatibleOrder
