/- Law 20: what the laid variable gives the walks, and a heap that meets the condition. -/
import Derived.Test.YtddfikijehmoiaaDoorRows
import Derived.Test.YtddfikijehmoiaaDoorS
import Derived.ProofKit
import Derived.LaidMore
import Derived.OpenShut
import Derived.Stop.Joined
import Derived.Stop.LaidErr
namespace Go.Proofs.YtddfikijehmoiaaDoor
open Go.ChangeShapes Go.WideShapes Go.ChangeAt Go.RowKit Go.Stop
abbrev laidL : List (String × DataW Unit) := [("peregrine/params.errParams", Rows.laid_peregrine_params_errParams)]
theorem gErr : Tryd.prog.globalNamed "peregrine/params.errParams" = some 0 := by kernel_rfl
theorem gErrType : (Tryd.prog.globals[0]?).map (·.type) = some 49 := by kernel_rfl
theorem star : "*" ++ "errors.errorString" = "*errors.errorString" := by decide
theorem row98 (u : TypeId) (h : Tryd.prog.typeName? 3 u = some "*errors.errorString") : u = 98 :=
  typeName_ptr_named (nm := "errors.errorString") (by rw [star]; kernel_rfl) (by kernel_rfl) (by decide) u (by rw [star]; exact h)
theorem door_met (os : Os) (args : Array Value) : laidMetH Tryd.prog laidL ((World.doorLaid Tryd.prog 400 os).forCall (fun _ _ => 0) ⟨#[], args, []⟩).memory :=
  laidMetH_of_parts (laidMet_of_run' 8 (by kernel_rfl) (by kernel_rfl)) (by kernel_rfl)
theorem laid_cell {W : World} (h : laidMetH Tryd.prog laidL W) : ∃ ad, Laid ad W := by
  rw [MakeChecks.laidMetH_plain _ _ _ (by kernel_rfl)] at h
  obtain ⟨a, s, hv, _⟩ := laid_sentinel (P := Tryd.prog) h gErr gErrType Tryd.underlying49 row98 Tryd.underlying98 Tryd.underlying124 rfl rfl Tryd.underlying9 (by kernel_rfl) (by kernel_rfl)
  exact ⟨a, by unfold Laid; simpa using World.var?_cell gErr hv 0⟩
theorem wf_bounds {n : Int} (h : (Lit.int .i64 n).wf = true) : -9223372036854775808 ≤ n ∧ n ≤ 9223372036854775807 := by
  simp [Lit.wf, IntKind.min, IntKind.max, IntKind.bits, IntKind.signed] at h
  omega
theorem field3 {H : Type} {enc : TypeId × Value → H} {W : World} {held : Bool} {n : Nat} {c : Value} {o : Option (DataW H × List MemPlace)} (ho : o.isSome = true)
    (h : DataW.trod enc Tryd.prog W 0 (fun _ => true) held n 3 [c] = o) : ∃ m : Int, c = .int .i64 m ∧ -9223372036854775808 ≤ m ∧ m ≤ 9223372036854775807 := by
  obtain ⟨x, rfl⟩ := Option.isSome_iff_exists.1 ho
  obtain ⟨m, hc, _, hw⟩ := DataW.trod_int Tryd.underlying3 h
  cases hc
  exact ⟨m, rfl, wf_bounds hw⟩
theorem cells23 : Tryd.prog.cellsOf 23 = 6 := by kernel_rfl
theorem cells3 : Tryd.prog.cellsOf 3 = 1 := by kernel_rfl
set_option maxRecDepth 100000 in
/-- a struct of six ints by value -/
theorem open_pm {H : Type} {enc : TypeId × Value → H} {W : World} {held : Bool} {v : Value} {d : DataW H} {p : List MemPlace} {base : Nat} (hv : Value.okWide Tryd.prog W .any base 23 v)
    (h : DataW.Trod enc Tryd.prog W 0 (fun _ => true) held 23 v d p) : ∃ pm : Pm, v = .agg pm.cells ∧ pm.ok := by
  obtain ⟨cs, rfl, hsz⟩ := okWide_struct Tryd.underlying23 hv
  rw [cells23] at hsz
  obtain ⟨l⟩ := cs
  match l, hsz with
  | [c0, c1, c2, c3, c4, c5], _ =>
    obtain ⟨fuel, hf⟩ := h
    obtain ⟨xs, n, _, _, _, hlen, hg⟩ := DataW.trod_struct Tryd.underlying23 hf
    have hs : ∀ i, i < 6 → (xs[i]?).isSome = true := fun i hi => by
      have : xs.length = 6 := hlen
      rw [List.getElem?_eq_getElem (by omega)]; rfl
    have g0 := hg 0 _ rfl
    have g1 := hg 1 _ rfl
    have g2 := hg 2 _ rfl
    have g3 := hg 3 _ rfl
    have g4 := hg 4 _ rfl
    have g5 := hg 5 _ rfl
    simp only [Value.cells] at g0 g1 g2 g3 g4 g5
    obtain ⟨n0, rfl, b0⟩ := field3 (hs 0 (by decide)) g0
    obtain ⟨n1, rfl, b1⟩ := field3 (hs 1 (by decide)) g1
    obtain ⟨n2, rfl, b2⟩ := field3 (hs 2 (by decide)) g2
    obtain ⟨n3, rfl, b3⟩ := field3 (hs 3 (by decide)) g3
    obtain ⟨n4, rfl, b4⟩ := field3 (hs 4 (by decide)) g4
    obtain ⟨n5, rfl, b5⟩ := field3 (hs 5 (by decide)) g5
    refine ⟨⟨n0, n1, n2, n3, n4, n5⟩, rfl, ?_⟩
    intro x hx
    simp [Pm.vals] at hx
    rcases hx with rfl | rfl | rfl | rfl | rfl | rfl <;> assumption
end Go.Proofs.YtddfikijehmoiaaDoor
