/- SendBufEncodes: called with any arguments it returns true and leaves its arguments as they were. No condition. -/
import Derived.Test.YtpfkeohaaeiaaaaRows
import Derived.Test.YtpfkeohaaeiaaaaMe1
import Derived.Test.YtpfkeohaaeiaaaaMe9
namespace Go.Proofs.Ytpfkeohaaeiaaaa.sendBufEncodes
open Go.ChangeShapes Go.WideShapes Go.ChangeAt Go.RowKit
set_option linter.unusedVariables false
theorem own : ownKnob Try.prog.godebug = none := by kernel_rfl
set_option maxRecDepth 100000 in
theorem lifted (os : Go.Os) (started : os.Started) (H : Type) (enc : TypeId × Value → H) :
    ReturnsInHanded {} Try.checked os 3 .any (Rows.sendBufEncodesSpec.pre6 enc Try.prog Try.f3 Rows.sendBufEncodesRow.domain false) (Rows.sendBufEncodesSpec.post enc Try.prog Try.f3 false true false false) := by
  refine returnsInHanded_of_change (C := Try.checked) own started (by kernel_rfl) Try.func3
    (ChangeSpec.witness6 (enc := enc) (C := Try.checked) false ⟨#[], #[.int .i64 0, .slice none 0 0], []⟩ 8 (by kernel_rfl) (by kernel_rfl) (by kernel_rfl) (by kernel_rfl)) ?_
  intro W base args ds gs before hval0 hW hcnd _
  have hval : ∀ (j : Nat) t v, Try.f3.params[j]? = some t → args[j]? = some v → Value.okWide Try.prog W .any base t v := hval0
  have hW' := hW
  have hlt : ∀ q ∈ before, q.block < W.heap.size := fun q hq => hW.lt q hq
  obtain ⟨p, q, hA0, hV, rfl, hfz, hnd⟩ := hW
  have hA : DataW.TrodAll enc Try.prog W 0 (fun _ => true) true Try.f3.params.toList args.toList ds p := hA0
  rw [Try.params3] at hA hval
  obtain ⟨v0, vs0, d0, ds0, p0, q0, hargs, rfl, rfl, h0, r0⟩ := trodAll_cons hA
  obtain ⟨v1, vs1, d1, ds1, p1, q1, rfl, rfl, rfl, h1, r1⟩ := trodAll_cons r0
  obtain ⟨rfl, rfl, rfl⟩ := trodAll_nil r1
  obtain rfl : args = #[v0, v1] := by cases args; simp_all
  obtain ⟨rfl, rfl⟩ := trodVars_none hV
  simp only [List.append_nil] at hW'
  clear hA0 hval0
  refine (main W base v0 d0 p0 (hval 0 3 v0 rfl rfl) h0 base v1 d1 p1 (hval 1 22 v1 rfl rfl) h1).mono fun e W' ⟨he, hg⟩ => ?_
  subst he
  have hpa : p0 ++ (p1) = p0 ++ (p1 ++ ([])) := by simp
  exact ⟨_, rfl, post_of_below (pa := p0 ++ (p1 ++ ([]))) (pv := []) hW' (fun _ _ _ => (trodAll_cons_mk (shut_bool Try.underlying4 _) trodAll_mk0)) (fun sp hsp => (trodAll_cons_mk (again1 (by kernel_rfl) (by kernel_rfl) h0 hg (fun x hx => hlt x (by simp [hx])) sp (fun x hx => hsp x (by simp [hx]))) (trodAll_cons_mk (again1 (by kernel_rfl) (by kernel_rfl) h1 hg (fun x hx => hlt x (by simp [hx])) sp (fun x hx => hsp x (by simp [hx]))) trodAll_mk0))) (fun _ _ => rfl) (by simp)
    hg (ok_one (by kernel_rfl) rfl (okWide_bool_mk Try.underlying4 _))⟩
theorem over : Rows.sendBufEncodesRow.holds Try.pinned (OpenSpec.ofChange Rows.sendBufEncodesSpec) :=
  OpenClaim.holds_of_wide 3 Try.f3 rfl rfl rfl rfl rfl rfl rfl ⟨rfl, rfl, rfl, rfl, rfl⟩ rfl rfl rfl rfl rfl (by kernel_rfl) Try.func3 (by kernel_rfl)
    (of_decide_eq_true (by kernel_rfl)) (by unfold Func.isWrapper; first | (rw [if_pos (by decide +kernel)]; kernel_rfl) | (rw [if_neg (by decide +kernel)]; exact ⟨rfl, rfl⟩))
    (fun os started H enc _ => lifted os started H enc)
theorem proved : Rows.SendBufEncodesSaid := over
#print axioms proved
end Go.Proofs.Ytpfkeohaaeiaaaa.sendBufEncodes
