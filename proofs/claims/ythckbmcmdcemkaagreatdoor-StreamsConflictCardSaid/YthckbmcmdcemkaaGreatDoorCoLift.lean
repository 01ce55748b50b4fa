/- StreamsConflict of law 19, as a tied card: called with any arguments it returns true and leaves its arguments as they were. No condition. -/
import Derived.Test.YthckbmcmdcemkaaGreatDoorRows
import Derived.Test.YthckbmcmdcemkaaGreatDoorCards
import Derived.Test.YthckbmcmdcemkaaGreatDoorTie
import Derived.Test.YthckbmcmdcemkaaGreatDoorBs1
import Derived.Test.YthckbmcmdcemkaaGreatDoorBs43
import Derived.Test.YthckbmcmdcemkaaGreatDoorBs42
import Derived.SevenTiedAt
import Derived.Test.YthckbmcmdcemkaaGreatDoorZs7
set_option linter.unusedSimpArgs false
set_option linter.unusedVariables false
namespace Go.Proofs.YthckbmcmdcemkaaGreatDoor.streamsConflict
open Go.ChangeShapes Go.WideShapes Go.ChangeAt Go.RowKit
theorem own : ownKnob Tryz.prog.godebug = none := by kernel_rfl
set_option maxRecDepth 100000 in
theorem lifted (os : Os) (started : os.Started) (H : Type) (enc : TypeId × Value → H) :
    ReturnsInHanded {} Tryz.checked os 6 .any (fun w args => (Rows.streamsConflictSpec.pre enc Tryz.prog Tryz.f6 [] false w args ∧ laidMetH Tryz.prog laidL w) ∧ sizedMet enc Tryz.prog Tryz.f6 (OpenSpec.ofChange Rows.streamsConflictSpec) false w args) (Rows.streamsConflictSpec.post enc Tryz.prog Tryz.f6 false true false false) := by
  refine returnsInHanded_of_change_and (C := Tryz.checked) (X := fun w _ => laidMetH Tryz.prog laidL w) (fun _ _ _ hh h => h.of_heap hh) own started (by kernel_rfl) Tryz.func6
    (ChangeSpec.witness_shaped (enc := enc) (C := Tryz.checked) (os := os) (X := fun w _ => laidMetH Tryz.prog laidL w) false (World.doorLaid Tryz.prog 400 os) #[.int .u8 0, .int .u8 0, .int .u8 0, .int .u8 0] 8 rfl (World.shaped_of_RefB (by kernel_rfl) (by kernel_rfl)) (by kernel_rfl) (by kernel_rfl) (by kernel_rfl) (door_met os _)) ?_
  intro W base args ds gs before hval0 hW _ hw0 hL _
  have hval : ∀ (j : Nat) t v, Tryz.f6.params[j]? = some t → args[j]? = some v → Value.okWide Tryz.prog W .any base t v := hval0
  have hW' := hW
  have hlt : ∀ q ∈ before, q.block < W.heap.size := fun q hq => hW.lt q hq
  obtain ⟨p, q, hA0, hV, rfl, hfz, hnd⟩ := hW
  have hA : DataW.TrodAll enc Tryz.prog W 0 (fun _ => true) true Tryz.f6.params.toList args.toList ds p := hA0
  rw [Tryz.params6] at hA hval
  obtain ⟨v0, vs0, d0, ds0, p0, q0, hargs, rfl, rfl, h0, r0⟩ := trodAll_cons hA
  obtain ⟨v1, vs1, d1, ds1, p1, q1, rfl, rfl, rfl, h1, r1⟩ := trodAll_cons r0
  obtain ⟨v2, vs2, d2, ds2, p2, q2, rfl, rfl, rfl, h2, r2⟩ := trodAll_cons r1
  obtain ⟨v3, vs3, d3, ds3, p3, q3, rfl, rfl, rfl, h3, r3⟩ := trodAll_cons r2
  obtain ⟨rfl, rfl, rfl⟩ := trodAll_nil r3
  obtain rfl : args = #[v0, v1, v2, v3] := by cases args; simp_all
  obtain ⟨rfl, rfl⟩ := trodVars_none hV
  simp only [List.append_nil] at hW'
  have hw : (DataW.weightsEach Tryz.prog [5, 5, 5, 5] [d0, d1, d2, d3]).all (· ≤ reachBytes) = true := hw0
  clear hA0 hval0
  obtain ⟨ad, hl⟩ := laid_cell hL
  refine (main W ad hl d0 d1 d2 d3 hw base v0 p0 (hval 0 5 v0 rfl rfl) h0 base v1 p1 (hval 1 5 v1 rfl rfl) h1 base v2 p2 (hval 2 5 v2 rfl rfl) h2 base v3 p3 (hval 3 5 v3 rfl rfl) h3).mono fun e W' ⟨he, hg⟩ => ?_
  subst he
  have hpa : p0 ++ (p1 ++ (p2 ++ (p3))) = p0 ++ (p1 ++ (p2 ++ (p3 ++ ([])))) := by simp
  exact ⟨_, rfl, post_of_below (pa := p0 ++ (p1 ++ (p2 ++ (p3 ++ ([]))))) (pv := []) hW' (fun _ _ _ => (trodAll_cons_mk (shut_bool Tryz.underlying4 _) trodAll_mk0)) (fun sp hsp => (trodAll_cons_mk (again1 (by kernel_rfl) (by kernel_rfl) h0 hg (fun x hx => hlt x (by simp [hx])) sp (fun x hx => hsp x (by simp [hx]))) (trodAll_cons_mk (again1 (by kernel_rfl) (by kernel_rfl) h1 hg (fun x hx => hlt x (by simp [hx])) sp (fun x hx => hsp x (by simp [hx]))) (trodAll_cons_mk (again1 (by kernel_rfl) (by kernel_rfl) h2 hg (fun x hx => hlt x (by simp [hx])) sp (fun x hx => hsp x (by simp [hx]))) (trodAll_cons_mk (again1 (by kernel_rfl) (by kernel_rfl) h3 hg (fun x hx => hlt x (by simp [hx])) sp (fun x hx => hsp x (by simp [hx]))) trodAll_mk0))))) (fun _ _ => rfl) (by simp)
    hg (ok_one (by kernel_rfl) rfl (okWide_bool_mk Tryz.underlying4 _))⟩
theorem pFn : Tryz.prog.funcNamed "peregrine/peregrinelaw19.StreamsConflict" = some 6 := by kernel_rfl
set_option maxHeartbeats 100000000 in
theorem pCl : joinedFacts Tryz.prog 6 Tryz.f6 Rows.streamsConflictSpec Rows.streamsConflictRow = true := by
  simp only [joinedFacts, Bool.and_eq_true]
  refine ⟨⟨⟨⟨⟨⟨⟨⟨⟨⟨⟨⟨⟨⟨⟨⟨⟨⟨⟨⟨⟨⟨⟨⟨⟨⟨⟨⟨⟨⟨⟨?_, ?_⟩, ?_⟩, ?_⟩, ?_⟩, ?_⟩, ?_⟩, ?_⟩, ?_⟩, ?_⟩, ?_⟩, ?_⟩, ?_⟩, ?_⟩, ?_⟩, ?_⟩, ?_⟩, ?_⟩, ?_⟩, ?_⟩, ?_⟩, ?_⟩, ?_⟩, ?_⟩, ?_⟩, ?_⟩, ?_⟩, ?_⟩, ?_⟩, ?_⟩, ?_⟩, ?_⟩
  all_goals (as_aux_lemma => kernel_rfl)
theorem pWr : Tryz.f6.isWrapper Tryz.prog Rows.streamsConflictRow.wrapper Rows.streamsConflictRow.mainSum := by unfold Func.isWrapper; first | (rw [if_pos (by decide +kernel)]; kernel_rfl) | (rw [if_neg (by decide +kernel)]; exact ⟨rfl, rfl⟩)
theorem over : Rows.StreamsConflictSaid :=
  OpenClaim.holds_of_wide 6 Tryz.f6 rfl rfl rfl rfl rfl rfl rfl ⟨rfl, rfl, rfl, rfl, rfl⟩ rfl rfl rfl rfl rfl pFn Tryz.func6 pCl
    (of_decide_eq_true (by kernel_rfl)) pWr
    (fun os started H enc _ => lifted os started H enc)
theorem pHw : Rows.streamsConflictRow.wfByText (OpenSpec.ofChange Rows.streamsConflictSpec) = true := by kernel_rfl
theorem pSt : ([5, 5, 5, 5].all fun u => !Tryz.prog.wantsStandIn u) = true := by kernel_rfl
theorem pGo : false = Rows.streamsConflictRow.goesBy Tryz.prog := by kernel_rfl
theorem proved : Rows.StreamsConflictCardSaid :=
  Claim7.holds_tied_plain_at .later [] [.sentinel, .sentinel, .sentinel, .sentinel] true (true, "eef46f693fd9202005d34019879f0db1f4fe13921794b3e7002c8302224efa97") true
    over (fun _ h => by cases h) pHw (fun _ h => by cases h) streamsConflict_row_tie rfl ⟨rfl, rfl⟩ pHm rfl
    (fun f fn hf hfn => by
      obtain rfl : f = 6 := Option.some.inj (pFn.symm.trans hf) |>.symm
      obtain rfl : fn = Tryz.f6 := (Option.some.inj (Tryz.func6.symm.trans hfn)).symm
      exact ⟨pLk, fun j t ht => by
        rw [Tryz.params6] at ht
        have hm : t ∈ [5, 5, 5, 5] := by simpa using Array.mem_of_getElem? ht
        exact (show Tryz.prog.wantsStandIn t = false by simpa using List.all_eq_true.1 pSt t hm)⟩)
    pGo
#print axioms proved
end Go.Proofs.YthckbmcmdcemkaaGreatDoor.streamsConflict
