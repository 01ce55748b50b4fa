/- StreamStateProgress: from every state that events lead to, at most three further events finish the part. -/
import Derived.Test.YtapddinlfkdkeaaQ
namespace Go.Proofs.Ytapddinlfkdkeaa.streamStateProgress
open Go.RowKit Go.WideShapes Go.ChangeShapes Go.Proofs Go.Proofs.Ytapddinlfkdkeaa
theorem near (s : Int) (h : 0 ≤ s ∧ s ≤ 5) : reachF 3 true s ≤ 3 ∧ reachF 3 false s ≤ 3 := by
  have : s = 0 ∨ s = 1 ∨ s = 2 ∨ s = 3 ∨ s = 4 ∨ s = 5 := by omega
  rcases this with rfl | rfl | rfl | rfl | rfl | rfl <;> exact ⟨by decide +kernel, by decide +kernel⟩
theorem reach3 (b : Bool) (s : Int) (w : World) : Calls Try.prog 18 #[.int .i64 s, .bool b, .int .i64 3] w fun e w' => e = .returned (.int .i64 (reachF 3 b s)) ∧ Below w.heap.size w w' := reach_any 3 b s w (by omega)
theorem cells3 : Try.prog.cellsOf 3 = 1 := by kernel_rfl
theorem main {H : Type} {enc : TypeId × Value → H} (W : World) (base0 : Nat) (v0 : Value) (d0 : DataW H) (p0 : List MemPlace) (hv0 : Value.okWide Try.prog W .any base0 24 v0) (h0 : DataW.Trod enc Try.prog W 0 (fun _ => true) true 24 v0 d0 p0) :
    Calls Try.prog 5 #[v0] W fun e w' => e = .returned (.bool true) ∧ Below W.heap.size W w' := by
  obtain ⟨zs, hz, hm, hr⟩ := ints_at Try.underlying24 Try.underlying3 cells3 hv0 h0
  clear hv0 h0
  have HZ := Lib.hid hz
  have HR := Lib.hid hr
  have HM := Lib.hid hm
  have n1 := (near _ (walkS_ok zs)).1
  have n2 := (near _ (walkR_ok zs)).2
  clear hz hr hm
  have C1 := fun w => walk_any zs v0 w
  have hw : ∀ w, Below W.heap.size W w → Calls Try.prog 17 #[v0] w fun e w' => e = .returned (.tuple #[.int .i64 (walkS zs), .int .i64 (walkR zs)]) ∧ Below w.heap.size w w' := fun w h => walk_any zs v0 w (HZ.out.below h) HM.out HR.out
  have HW := Lib.hid hw
  clear C1 hw
  generalize walkS zs = s at *
  generalize walkR zs = r at *
  go_enter Try.func5, Try.ntmps5
  go_wp2_with (first | (go_at_call 7; refine (sane_any _).mono ?_; rintro e w' ⟨rfl, hb⟩) | (go_at_call 17; refine (HW.out _ hb).mono ?_; rintro e w2 ⟨rfl, hb2⟩) | (go_at_call 18; (first | (with_reducible refine (reach3 true _ _).mono ?_; rintro e w3 ⟨rfl, hb3⟩) | (with_reducible refine (reach3 false _ _).mono ?_; rintro e w4 ⟨rfl, hb4⟩))))
  go_ret
  exact ⟨rfl, by repeat (first | assumption | exact Below.refl _ _ | refine btrans ?_ (by assumption))⟩
end Go.Proofs.Ytapddinlfkdkeaa.streamStateProgress
