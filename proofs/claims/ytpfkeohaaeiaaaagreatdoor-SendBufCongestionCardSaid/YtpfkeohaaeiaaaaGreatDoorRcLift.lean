/- SendBufCongestion, as a tied card: called with any arguments it returns true and leaves its arguments as they were. No condition. -/
import Derived.Test.YtpfkeohaaeiaaaaGreatDoorRc2
import Derived.Test.YtpfkeohaaeiaaaaGreatDoorRc6
import Derived.Test.YtpfkeohaaeiaaaaGreatDoorRc8
import Derived.Test.YtpfkeohaaeiaaaaGreatDoorRc9
import Derived.Test.YtpfkeohaaeiaaaaGreatDoorRc18
import Derived.Test.YtpfkeohaaeiaaaaGreatDoorRc12
import Derived.Test.YtpfkeohaaeiaaaaGreatDoorRc19
import Derived.Test.YtpfkeohaaeiaaaaGreatDoorRc20
import Derived.Test.YtpfkeohaaeiaaaaGreatDoorRc34
import Derived.Test.YtpfkeohaaeiaaaaGreatDoorRows
import Derived.Test.YtpfkeohaaeiaaaaGreatDoorCards
import Derived.Test.YtpfkeohaaeiaaaaGreatDoorTie
import Derived.Test.YtpfkeohaaeiaaaaGreatDoorRc1
import Derived.SevenTiedAt
namespace Go.Proofs.YtpfkeohaaeiaaaaGreatDoor.sendBufCongestion
open Go.ChangeShapes Go.WideShapes Go.ChangeAt Go.RowKit
theorem own : ownKnob Tryz.prog.godebug = none := by kernel_rfl
set_option maxRecDepth 100000 in
theorem lifted (os : Os) (started : os.Started) (H : Type) (enc : TypeId × Value → H) :
    ReturnsInHanded {} Tryz.checked os 4 .any (fun w args => (Rows.sendBufCongestionSpec.pre enc Tryz.prog Tryz.f4 [] false w args ∧ laidMetH Tryz.prog laidL w) ∧ sizedMet enc Tryz.prog Tryz.f4 (OpenSpec.ofChange Rows.sendBufCongestionSpec) false w args) (Rows.sendBufCongestionSpec.post enc Tryz.prog Tryz.f4 false true false false) := by
  refine returnsInHanded_of_change_and (C := Tryz.checked) (X := fun w _ => laidMetH Tryz.prog laidL w) (fun _ _ _ hh h => h.of_heap hh) own started (by kernel_rfl) Tryz.func4
    (ChangeSpec.witness_shaped (enc := enc) (C := Tryz.checked) (os := os) (X := fun w _ => laidMetH Tryz.prog laidL w) false (World.doorLaid Tryz.prog 400 os) #[.int .i64 0, .slice none 0 0] 8 rfl (World.shaped_of_RefB (by kernel_rfl) (by kernel_rfl)) (by kernel_rfl) (by kernel_rfl) (by kernel_rfl) (door_met os _)) ?_
  intro W base args ds gs before hval0 hW _ hw0 hL _
  have hval : ∀ (j : Nat) t v, Tryz.f4.params[j]? = some t → args[j]? = some v → Value.okWide Tryz.prog W .any base t v := hval0
  have hW' := hW
  have hlt : ∀ q ∈ before, q.block < W.heap.size := fun q hq => hW.lt q hq
  obtain ⟨p, q, hA0, hV, rfl, hfz, hnd⟩ := hW
  have hA : DataW.TrodAll enc Tryz.prog W 0 (fun _ => true) true Tryz.f4.params.toList args.toList ds p := hA0
  rw [Tryz.params4] at hA hval
  obtain ⟨v0, vs0, d0, ds0, p0, q0, hargs, rfl, rfl, h0, r0⟩ := trodAll_cons hA
  obtain ⟨v1, vs1, d1, ds1, p1, q1, rfl, rfl, rfl, h1, r1⟩ := trodAll_cons r0
  obtain ⟨rfl, rfl, rfl⟩ := trodAll_nil r1
  obtain rfl : args = #[v0, v1] := by cases args; simp_all
  obtain ⟨rfl, rfl⟩ := trodVars_none hV
  simp only [List.append_nil] at hW'
  have hw : (DataW.weightsEach Tryz.prog [3, 22] [d0, d1]).all (· ≤ reachBytes) = true := hw0
  clear hA0 hval0
  obtain ⟨ad, hl⟩ := laid_cell hL
  refine (main W ad hl d0 d1 hw base v0 p0 (hval 0 3 v0 rfl rfl) h0 base v1 p1 (hval 1 22 v1 rfl rfl) h1).mono fun e W' ⟨he, hg⟩ => ?_
  subst he
  have hpa : p0 ++ (p1) = p0 ++ (p1 ++ ([])) := by simp
  exact ⟨_, rfl, post_of_below (pa := p0 ++ (p1 ++ ([]))) (pv := []) hW' (fun _ _ _ => (trodAll_cons_mk (shut_bool Tryz.underlying4 _) trodAll_mk0)) (fun sp hsp => (trodAll_cons_mk (again1 (by kernel_rfl) (by kernel_rfl) h0 hg (fun x hx => hlt x (by simp [hx])) sp (fun x hx => hsp x (by simp [hx]))) (trodAll_cons_mk (again1 (by kernel_rfl) (by kernel_rfl) h1 hg (fun x hx => hlt x (by simp [hx])) sp (fun x hx => hsp x (by simp [hx]))) trodAll_mk0))) (fun _ _ => rfl) (by simp)
    hg (ok_one (by kernel_rfl) rfl (okWide_bool_mk Tryz.underlying4 _))⟩
theorem over : Rows.SendBufCongestionSaid :=
  OpenClaim.holds_of_wide 4 Tryz.f4 rfl rfl rfl rfl rfl rfl rfl ⟨rfl, rfl, rfl, rfl, rfl⟩ rfl rfl rfl rfl rfl (by kernel_rfl) Tryz.func4 (by kernel_rfl)
    (of_decide_eq_true (by kernel_rfl)) (by unfold Func.isWrapper; first | (rw [if_pos (by decide +kernel)]; kernel_rfl) | (rw [if_neg (by decide +kernel)]; exact ⟨rfl, rfl⟩))
    (fun os started H enc _ => lifted os started H enc)
theorem proved : Rows.SendBufCongestionCardSaid :=
  Claim7.holds_tied_plain_at .later [] [.sentinel, .sentinel, .sentinel, .sentinel] true (true, "13def335afe2fa14a21ed8743ed26b5b472ac840795680aaca16c5f33360e12d") true
    over (fun _ h => by cases h) (by kernel_rfl) (fun _ h => by cases h) sendBufCongestion_row_tie rfl ⟨rfl, rfl⟩ (by kernel_rfl) rfl
    (fun f fn hf hfn => by
      obtain rfl : f = 4 := Option.some.inj ((show Tryz.prog.funcNamed "peregrine/peregrinelaw17.SendBufCongestion" = some 4 by kernel_rfl).symm.trans hf) |>.symm
      obtain rfl : fn = Tryz.f4 := (Option.some.inj (Tryz.func4.symm.trans hfn)).symm
      exact ⟨by kernel_rfl, fun j t ht => by
        rw [Tryz.params4] at ht
        have hm : t ∈ [3, 22] := by simpa using Array.mem_of_getElem? ht
        have hall : ([3, 22].all fun u => !Tryz.prog.wantsStandIn u) = true := by kernel_rfl
        exact (show Tryz.prog.wantsStandIn t = false by simpa using List.all_eq_true.1 hall t hm)⟩)
    (by kernel_rfl)
#print axioms proved
end Go.Proofs.YtpfkeohaaeiaaaaGreatDoor.sendBufCongestion
