/- StreamStateTerminal: no event leads out of a terminal state, and a part that was reset is never delivered, nor the other way round. -/
import Derived.Test.YtapddinlfkdkeaaI
namespace Go.Proofs.Ytapddinlfkdkeaa.streamStateTerminal
open Go.RowKit Go.WideShapes Go.ChangeShapes Go.Proofs Go.Proofs.Ytapddinlfkdkeaa
theorem cells3 : Try.prog.cellsOf 3 = 1 := by kernel_rfl
theorem least (n : Nat) : ∃ m : Nat, (if (25:Int) < (n : Int) then (25:Int) else (n : Int)) = (m : Int) ∧ m ≤ n ∧ m ≤ 25 := by
  by_cases h : 25 < n
  · exact ⟨25, by rw [if_pos (by omega)]; rfl, by omega, by omega⟩
  · exact ⟨n, by rw [if_neg (by omega)], by omega, by omega⟩
theorem main {H : Type} {enc : TypeId × Value → H} (W : World) (base0 : Nat) (v0 : Value) (d0 : DataW H) (p0 : List MemPlace) (hv0 : Value.okWide Try.prog W .any base0 24 v0) (h0 : DataW.Trod enc Try.prog W 0 (fun _ => true) true 24 v0 d0 p0)
    (base1 : Nat) (v1 : Value) (d1 : DataW H) (p1 : List MemPlace) (hv1 : Value.okWide Try.prog W .any base1 24 v1) (h1 : DataW.Trod enc Try.prog W 0 (fun _ => true) true 24 v1 d1 p1) :
    Calls Try.prog 4 #[v0, v1] W fun e w' => e = .returned (.bool true) ∧ Below W.heap.size W w' := by
  obtain ⟨zs, hz, hm, hr⟩ := ints_at Try.underlying24 Try.underlying3 cells3 hv0 h0
  obtain ⟨ys, hy, hmy, hry⟩ := ints_at Try.underlying24 Try.underlying3 cells3 hv1 h1
  obtain ⟨a, cap, rfl, hc⟩ := hz.form
  obtain ⟨a2, cap2, rfl, hc2⟩ := hy.form
  obtain ⟨m1, e1, hm1, hm3⟩ := least zs.length
  obtain ⟨m2, e2, hm2, hm4⟩ := least ys.length
  exact term_walk zs ys a a2 cap cap2 W hz hm hr hy hmy hry m1 m2 e1 e2 hm1 hm2 (by omega) (by omega) hm3 hm4
end Go.Proofs.Ytapddinlfkdkeaa.streamStateTerminal
