/- Texts Rga Rph LaidAt Rfl Rfm Rfn InvIn Rgd Rpe of this claim, one behind the other. -/
import Derived.Test.YtpfkeohaaeiaaaaDoorWm1
import Derived.Test.YtpfkeohaaeiaaaaDoorRows
import Derived.ProofKit
import Derived.LaidMore
import Derived.OpenShut
import Derived.Stop.Joined
import Derived.Stop.LaidErr
import Derived.Lib.Hide
import Derived.BigQuiet
import Derived.Deep.RegionWith
import Derived.OrdersIn
/- A region that draws its order: the general law: every operation has its slot, its value is known ahead; a relation WR on the world goes with what has run. -/
namespace Go.Proofs.YtpfkeohaaeiaaaaDoor.rea
open Go.RowKit
section
variable {P : Program} {ops : Array Oper} {Q : Exit → Act → World → Prop}
structure AInv (m : Nat) (slot : Nat → Option Nat) (val : Nat → Value) (WR : (Nat → Bool) → World → Prop) (A0 : Act) (L : Nat → Bool) (a : Act) (w : World) : Prop where
  nod : a.defers = A0.defers
  size : a.tmps.size = A0.tmps.size
  old : ∀ p, (∀ i, i < m → slot i ≠ some p) → a.tmps[p]? = A0.tmps[p]?
  new : ∀ i d, i < m → slot i = some d → L i = true → a.tmps[d]? = some (val i)
  w : WR L w
theorem any_region {id : Nat} (m : Nat) (slot : Nat → Option Nat) (val : Nat → Value) (WR : (Nat → Bool) → World → Prop) {A0 : Act} {W0 : World} {tm : Array Value} (hm : P.follows .mixedOrders = true) (hu : upward ops = true) (hz : ops.size = m)
    (hsl : ∀ i d, i < m → slot i = some d → d < A0.tmps.size) (hin : ∀ i j d, i < m → j < m → slot i = some d → slot j = some d → i = j) (h0 : WR (fun _ => false) W0.drew)
    (hop : ∀ i o, i < m → ops[i]? = some o → ∀ L a w, L i = false → (∀ e ∈ o.after, Region.binds .any e = true → L e.on = true) → WR L w → GHas m slot val A0 o a → o.dst = slot i ∧
      ((Region.wanted o (yielded ops a.tmps) = true ∧ ∀ (K : Act → World → Prop), (∀ w', WR (fun j => j == i || L j) w' → K (a.put o.dst (val i)) w') → o.wp P a w K Q) ∨ (Region.wanted o (yielded ops a.tmps) = false ∧ val i = undef ∧ WR (fun j => j == i || L j) w)))
    (htm : setAll slot val m A0.tmps = tm) (h : ∀ L w, (∀ i, i < m → L i = true) → WR L w → Q .normal { tmps := tm, defers := A0.defers } w) : (Code.region id ops true).wp P Q A0 W0 := by
  refine wp_region_inv hm hu (fun L a w => AInv m slot val WR A0 L a w) ⟨rfl, rfl, fun _ _ => rfl, (fun _ _ _ _ h => by cases h), h0⟩ ?_ ?_
  · rintro L a w i o ho hL hdep hI
    have hi : i < m := by have := (Array.getElem?_eq_some_iff.1 ho).1; omega
    obtain ⟨h1, h4⟩ := hop i o hi ho L a w hL hdep hI.w ⟨hI.old, fun e he hb hlt d hd => hI.new _ d hlt hd (hdep e he hb)⟩
    have key : ∀ w', WR (fun j => j == i || L j) w' → AInv m slot val WR A0 (fun j => j == i || L j) (a.put o.dst (val i)) w' := by
      intro w' hb
      rw [h1]
      cases hd : slot i with
      | none =>
        refine ⟨hI.nod, hI.size, hI.old, fun j d hj hs hl => ?_, hb⟩
        rcases Bool.or_eq_true .. ▸ hl with e | e
        · rw [beq_iff_eq] at e; subst e; rw [hd] at hs; cases hs
        · exact hI.new j d hj hs e
      | some d =>
        have hsi : d < a.tmps.size := by rw [hI.size]; exact hsl i d hi hd
        refine ⟨hI.nod, ?_, ?_, ?_, hb⟩
        · show (a.tmps.setIfInBounds _ _).size = _; simpa using hI.size
        · intro p hp
          show (a.tmps.setIfInBounds _ _)[p]? = _
          rw [Array.getElem?_setIfInBounds_ne (fun e => hp i hi (by rw [hd, e]))]
          exact hI.old p hp
        · intro j d2 hj hd2 hl
          show (a.tmps.setIfInBounds _ _)[d2]? = _
          by_cases hji : j = i
          · subst hji
            rw [hd] at hd2; cases hd2
            exact Array.getElem?_setIfInBounds_self_of_lt hsi
          · have hne : d ≠ d2 := fun e => hji (hin j i d2 hj hi hd2 (by rw [hd, e]))
            rw [Array.getElem?_setIfInBounds_ne hne]
            rcases Bool.or_eq_true .. ▸ hl with e | e
            · exact absurd (beq_iff_eq.1 e) hji
            · exact hI.new j d2 hj hd2 e
    refine wpOp_step ho fun K' hK => ?_
    rcases h4 with ⟨hw, h5⟩ | ⟨hw, h5, h6⟩
    · rw [if_pos hw]
      exact h5 _ (fun w' hb => hK _ _ (key w' hb))
    · rw [if_neg (by rw [hw]; decide), ← h5]
      exact hK _ _ (key w h6)
  · rintro L a w hall hI
    have ha : a = { tmps := tm, defers := A0.defers } := by
      obtain ⟨at_, ad⟩ := a
      have h1 : ad = A0.defers := hI.nod
      have h2 : at_ = tm := by
        rw [← htm]
        apply Array.ext_getElem?
        intro p
        rcases setAll_get slot val m A0.tmps hin (fun i d hi hd => hsl i d hi hd) p with ⟨i, hi, hs, hv⟩ | ⟨hs, hv⟩
        · rw [hv]; exact hI.new i p hi hs (hall i (by omega))
        · rw [hv]; exact hI.old p hs
      rw [h1, h2]
    rw [ha]
    exact h L w (fun i hi => hall i (by omega)) hI.w
end
end Go.Proofs.YtpfkeohaaeiaaaaDoor.rea
namespace Go.Proofs.YtpfkeohaaeiaaaaDoor.rea
/-- the first n operations set the slots from s on -/
def slotN (s n i : Nat) : Option Nat := if i < n then some (s + i) else none
theorem slotN_is {s n i d : Nat} (h : slotN s n i = some d) : i < n ∧ d = s + i := by
  unfold slotN at h
  split at h
  · cases h; exact ⟨‹_›, rfl⟩
  · cases h
end Go.Proofs.YtpfkeohaaeiaaaaDoor.rea
/- Reassembly: the checks. -/
namespace Go.Proofs.YtpfkeohaaeiaaaaDoor.rea
open Go.RowKit
theorem cell_al {W : World} {a : Addr} {v : Value} (o : Obj) (h : W.cell? a = some v) : (W.alloc o).cell? a = some v := cell_kept h (World.grownBy_alloc W o none) (fun r e => by cases e)
/-- the package's errors lie in their variables -/
structure Errs (w : World) (a0 a1 a2 a3 : Addr) : Prop where
  e0 : w.cell? ⟨0, 0, none⟩ = some (.iface 116 (.pointer (some a0)))
  e1 : w.cell? ⟨1, 0, none⟩ = some (.iface 116 (.pointer (some a1)))
  e2 : w.cell? ⟨2, 0, none⟩ = some (.iface 116 (.pointer (some a2)))
  e3 : w.cell? ⟨3, 0, none⟩ = some (.iface 116 (.pointer (some a3)))
theorem Errs.below {w w' : World} {a0 a1 a2 a3 : Addr} (h : Errs w a0 a1 a2 a3) (hb : Below w.heap.size w w') : Errs w' a0 a1 a2 a3 :=
  ⟨(hb.cell (World.block_lt_of_cell? _ _ h.e0)).trans h.e0, (hb.cell (World.block_lt_of_cell? _ _ h.e1)).trans h.e1, (hb.cell (World.block_lt_of_cell? _ _ h.e2)).trans h.e2, (hb.cell (World.block_lt_of_cell? _ _ h.e3)).trans h.e3⟩
def ckC (b B : Nat) (a0 a1 a2 a3 : Addr) : Array Value := #[.func (.func 47) #[] #[], .iface 116 (.pointer (some a3)), .func (.func 48) #[.pointer (some ⟨b, 0, none⟩)] #[], .iface 116 (.pointer (some a0)), .func (.func 49) #[.pointer (some ⟨b, 0, none⟩)] #[], .iface 116 (.pointer (some a1)), .func (.func 50) #[] #[.pointer (some ⟨B, 0, none⟩)], .iface 116 (.pointer (some a2))]
theorem below_setRow2 {w W : World} (h : Below w.heap.size w W) {r : Nat} (hr : w.heap.size ≤ r) (cs : Array Value) : Below w.heap.size w (W.setRow r cs) :=
  ⟨h.os, h.tape, h.output, by simpa using h.size, fun k hk => (setRow_other W r k cs (by omega)).trans (h.block k hk)⟩
theorem results_cell1 {P : Program} {fn : Func} {p : Tmp} {ty : TypeId} (h : fn.results = #[.cell p ty]) (tmps : Array Value) (w : World) (g : Nat) (t : TypeId) (cs : Array Value) (fr : Nat × Nat) (d : TypeDesc)
    (hp : tmps.getD p undef = .pointer (some ⟨g, 0, none⟩)) (hg : w.heap[g]? = some (.cells cs t fr))
    (hu : P.underlying ty = some d) (hd : (match d with | .struct _ | .array _ _ => true | _ => false) = true) (hi : (P.info? ty).map (·.size) = some cs.size) :
    (results fn tmps).run P w = .ok (.agg cs) w := by
  have hp' : tmps[p]?.getD undef = .pointer (some ⟨g, 0, none⟩) := by simpa using hp
  simp [results, h, hp', asAddr, run_loadVar_row w g t ty cs fr d hg hu hd hi]
set_option maxRecDepth 100000 in
set_option maxHeartbeats 4000000 in
theorem checks_any (b : Nat) (a0 a1 a2 a3 : Addr) (w : World) (h : Errs w a0 a1 a2 a3) :
    Calls Tryd.prog 41 #[.pointer (some ⟨b, 0, none⟩)] w fun e w' => e = .returned (.agg (ckC b w.heap.size a0 a1 a2 a3)) ∧ Below w.heap.size w w' ∧ w'.heap[w.heap.size]? = some (.cells #[.pointer (some ⟨b, 0, none⟩)] 30 (0, 0)) := by
  obtain ⟨e0, e1, e2, e3⟩ := h
  have hmf : ∀ (fn : Fn) (first cap : Array Value) (w : World), (Instr.makeFunc fn first cap).run Tryd.prog w = .ok (.func fn first cap) w := fun _ _ _ _ => rfl
  go_enter Tryd.func41, Tryd.ntmps41
  go_wp2_with fail
  have X := Lib.hid (box2 w (.cells #[.pointer (some ⟨b, 0, none⟩)] 30) (.cells #[.nilFunc, .nilIface, .nilFunc, .nilIface, .nilFunc, .nilIface, .nilFunc, .nilIface] 91))
  have OL : Hid (∀ p v, w.cell? p = some v → ((w.alloc (.cells #[.pointer (some ⟨b, 0, none⟩)] 30)).alloc (.cells #[.nilFunc, .nilIface, .nilFunc, .nilIface, .nilFunc, .nilIface, .nilFunc, .nilIface] 91)).cell? p = some v) := Lib.hid (fun p v hv => cell_al _ (cell_al _ hv))
  have e0 := OL.out _ _ e0
  have e1 := OL.out _ _ e1
  have e2 := OL.out _ _ e2
  have e3 := OL.out _ _ e3
  generalize (w.alloc _).alloc _ = V at X OL e0 e1 e2 e3 ⊢
  have c0 := at_whole X.out.1 0 rfl
  simp only [List.getElem_toArray, List.getElem_cons_zero] at c0
  have ON : Hid ((ckC b w.heap.size a0 a1 a2 a3).all (·.oneCell') = true) := Lib.hid (by simp [ckC, Value.oneCell'])
  have size91 : (Tryd.prog.info? 91).map (·.size) = some 8 := by kernel_rfl
  have S91 := Lib.hid size91
  unfold ckC at *
  clear OL size91
  refine any_region 17 (slotN 3 16) (fun jj => (#[.iface 116 (.pointer (some a3)), .agg #[.func (.func 47) #[] #[], .iface 116 (.pointer (some a3))], .pointer (some ⟨b, 0, none⟩), .pointer (some ⟨b, 0, none⟩), .pointer (some ⟨b, 0, none⟩), .func (.func 48) #[.pointer (some ⟨b, 0, none⟩)] #[], .iface 116 (.pointer (some a0)), .agg #[.func (.func 48) #[.pointer (some ⟨b, 0, none⟩)] #[], .iface 116 (.pointer (some a0))], .pointer (some ⟨b, 0, none⟩), .func (.func 49) #[.pointer (some ⟨b, 0, none⟩)] #[], .iface 116 (.pointer (some a1)), .agg #[.func (.func 49) #[.pointer (some ⟨b, 0, none⟩)] #[], .iface 116 (.pointer (some a1))], .func (.func 50) #[] #[.pointer (some ⟨w.heap.size, 0, none⟩)], .iface 116 (.pointer (some a2)), .agg #[.func (.func 50) #[] #[.pointer (some ⟨w.heap.size, 0, none⟩)], .iface 116 (.pointer (some a2))], .agg #[.func (.func 47) #[] #[], .iface 116 (.pointer (some a3)), .func (.func 48) #[.pointer (some ⟨b, 0, none⟩)] #[], .iface 116 (.pointer (some a0)), .func (.func 49) #[.pointer (some ⟨b, 0, none⟩)] #[], .iface 116 (.pointer (some a1)), .func (.func 50) #[] #[.pointer (some ⟨w.heap.size, 0, none⟩)], .iface 116 (.pointer (some a2))]] : Array Value)[jj]?.getD undef) (tm := #[.pointer (some ⟨b, 0, none⟩), .pointer (some ⟨w.heap.size, 0, none⟩), .pointer (some ⟨w.heap.size + 1, 0, none⟩), .iface 116 (.pointer (some a3)), .agg #[.func (.func 47) #[] #[], .iface 116 (.pointer (some a3))], .pointer (some ⟨b, 0, none⟩), .pointer (some ⟨b, 0, none⟩), .pointer (some ⟨b, 0, none⟩), .func (.func 48) #[.pointer (some ⟨b, 0, none⟩)] #[], .iface 116 (.pointer (some a0)), .agg #[.func (.func 48) #[.pointer (some ⟨b, 0, none⟩)] #[], .iface 116 (.pointer (some a0))], .pointer (some ⟨b, 0, none⟩), .func (.func 49) #[.pointer (some ⟨b, 0, none⟩)] #[], .iface 116 (.pointer (some a1)), .agg #[.func (.func 49) #[.pointer (some ⟨b, 0, none⟩)] #[], .iface 116 (.pointer (some a1))], .func (.func 50) #[] #[.pointer (some ⟨w.heap.size, 0, none⟩)], .iface 116 (.pointer (some a2)), .agg #[.func (.func 50) #[] #[.pointer (some ⟨w.heap.size, 0, none⟩)], .iface 116 (.pointer (some a2))], .agg #[.func (.func 47) #[] #[], .iface 116 (.pointer (some a3)), .func (.func 48) #[.pointer (some ⟨b, 0, none⟩)] #[], .iface 116 (.pointer (some a0)), .func (.func 49) #[.pointer (some ⟨b, 0, none⟩)] #[], .iface 116 (.pointer (some a1)), .func (.func 50) #[] #[.pointer (some ⟨w.heap.size, 0, none⟩)], .iface 116 (.pointer (some a2))]])
    (fun L w' => (L 16 = false ∧ w' = V.drew) ∨ (L 16 = true ∧ (∀ j, j < 16 → L j = true) ∧ w'.heap[w.heap.size + 1]? = some (.cells #[.func (.func 47) #[] #[], .iface 116 (.pointer (some a3)), .func (.func 48) #[.pointer (some ⟨b, 0, none⟩)] #[], .iface 116 (.pointer (some a0)), .func (.func 49) #[.pointer (some ⟨b, 0, none⟩)] #[], .iface 116 (.pointer (some a1)), .func (.func 50) #[] #[.pointer (some ⟨w.heap.size, 0, none⟩)], .iface 116 (.pointer (some a2))] 91 (0, 0)) ∧ w'.heap[w.heap.size]? = some (.cells #[.pointer (some ⟨b, 0, none⟩)] 30 (0, 0)) ∧ Below w.heap.size w w'))
    rfl (by kernel_rfl) rfl (fun i d _ h => by have := slotN_is h; simp; omega) (fun i j d _ _ h1 h2 => by have := slotN_is h1; have := slotN_is h2; omega) (.inl ⟨rfl, rfl⟩) ?_ (by kernel_rfl) ?_
  · rintro j o hj ho L a w1 hLj hdl hW ⟨hold, hdep⟩
    have o1 := hold 1 (fun i hi h => by have := slotN_is h; omega)
    have o2 := hold 2 (fun i hi h => by have := slotN_is h; omega)
    simp at o1 o2
    by_cases hj16 : j = 16
    · subst hj16
      rcases hW with ⟨_, rfl⟩ | ⟨h, _⟩
      · cases ho
        simp [Region.binds, slotN] at hdep hdl
        refine ⟨rfl, .inl ⟨rfl, fun K hK => ?_⟩⟩
        refine wp_store_row 91 (.tmp 2) (.tmp 18) rfl (w.heap.size + 1) (#[.func (.func 47) #[] #[], .iface 116 (.pointer (some a3)), .func (.func 48) #[.pointer (some ⟨b, 0, none⟩)] #[], .iface 116 (.pointer (some a0)), .func (.func 49) #[.pointer (some ⟨b, 0, none⟩)] #[], .iface 116 (.pointer (some a1)), .func (.func 50) #[] #[.pointer (some ⟨w.heap.size, 0, none⟩)], .iface 116 (.pointer (some a2))]) (by simp [Act.eval, o2]) (by simp [Act.eval, hdep]) 91 _ (show V.drew.heap[w.heap.size + 1]? = _ from X.out.2.1) S91.out rfl (by exact ON.out) (hK _ (.inr ⟨rfl, fun j hj => ?_, setRow_heap V.drew _ _ _ 91 _ X.out.2.1, (setRow_other V.drew (w.heap.size + 1) w.heap.size _ (by omega)).trans X.out.1, below_setRow2 X.out.2.2.1.drew (Nat.le_succ _) _⟩))
        have hjj : j = 0 ∨ j = 1 ∨ j = 2 ∨ j = 3 ∨ j = 4 ∨ j = 5 ∨ j = 6 ∨ j = 7 ∨ j = 8 ∨ j = 9 ∨ j = 10 ∨ j = 11 ∨ j = 12 ∨ j = 13 ∨ j = 14 ∨ j = 15 := by omega
        rcases hjj with rfl | rfl | rfl | rfl | rfl | rfl | rfl | rfl | rfl | rfl | rfl | rfl | rfl | rfl | rfl | rfl <;> simp [hdl]
      · rw [h] at hLj; cases hLj
    · rcases hW with ⟨hL16, rfl⟩ | ⟨_, h, _⟩
      · have hWK : (fun j' => j' == j || L j') 16 = false := by simp [hL16]; omega
        have hjj : j = 0 ∨ j = 1 ∨ j = 2 ∨ j = 3 ∨ j = 4 ∨ j = 5 ∨ j = 6 ∨ j = 7 ∨ j = 8 ∨ j = 9 ∨ j = 10 ∨ j = 11 ∨ j = 12 ∨ j = 13 ∨ j = 14 ∨ j = 15 := by omega
        rcases hjj with rfl | rfl | rfl | rfl | rfl | rfl | rfl | rfl | rfl | rfl | rfl | rfl | rfl | rfl | rfl | rfl
        all_goals (cases ho; simp [Region.binds, slotN] at hdep; refine ⟨rfl, .inl ⟨rfl, fun K hK => ?_⟩⟩; unfold Oper.wp; first | (simp [execOp, Oper.upon, go_sem, Act.eval, hdep, o1, c0, e0, e1, e2, e3]; exact hK _ (.inl ⟨hWK, rfl⟩)) | (simp [execOp, Oper.upon, go_sem, Act.eval, o1, o2, c0, e0, e1, e2, e3, hmf]; exact hK _ (.inl ⟨hWK, rfl⟩)))
      · rw [h j (by omega)] at hLj; cases hLj
  · rintro L w2 hall (⟨h, _⟩ | ⟨_, _, h1, h2, h3⟩)
    · rw [hall 16 (by omega)] at h; cases h
    · have G := Lib.hid (And.intro h1 (And.intro h2 h3))
      clear h1 h2 h3
      go_wp2
      refine bodyPost_ret (results_cell1 rfl _ _ _ 91 _ (0, 0) _ rfl G.out.1 Tryd.underlying91 rfl S91.out) rfl ⟨rfl, G.out.2.2, G.out.2.1⟩
end Go.Proofs.YtpfkeohaaeiaaaaDoor.rea
/- SendBufWithinLimits: what the laid variables give the walk, and a heap that meets the condition. -/
namespace Go.Proofs.YtpfkeohaaeiaaaaDoor
open Go.ChangeShapes Go.WideShapes Go.ChangeAt Go.RowKit Go.Stop
abbrev laidL : List (String × DataW Unit) := [("peregrine/reassembly.errArgument", Rows.laid_peregrine_reassembly_errArgument), ("peregrine/reassembly.errConflict", Rows.laid_peregrine_reassembly_errConflict), ("peregrine/reassembly.errFinalSize", Rows.laid_peregrine_reassembly_errFinalSize), ("peregrine/reassembly.errRoom", Rows.laid_peregrine_reassembly_errRoom)]
def Laid (ad : Addr × Addr × Addr × Addr) (W : World) : Prop := rea.Errs W ad.1 ad.2.1 ad.2.2.1 ad.2.2.2
theorem gl0 : Tryd.prog.globalNamed "peregrine/reassembly.errConflict" = some 0 := by kernel_rfl
theorem gl1 : Tryd.prog.globalNamed "peregrine/reassembly.errFinalSize" = some 1 := by kernel_rfl
theorem gl2 : Tryd.prog.globalNamed "peregrine/reassembly.errRoom" = some 2 := by kernel_rfl
theorem gl3 : Tryd.prog.globalNamed "peregrine/reassembly.errArgument" = some 3 := by kernel_rfl
theorem glt0 : (Tryd.prog.globals[0]?).map (·.type) = some 80 := by kernel_rfl
theorem glt1 : (Tryd.prog.globals[1]?).map (·.type) = some 80 := by kernel_rfl
theorem glt2 : (Tryd.prog.globals[2]?).map (·.type) = some 80 := by kernel_rfl
theorem glt3 : (Tryd.prog.globals[3]?).map (·.type) = some 80 := by kernel_rfl
theorem star : "*" ++ "errors.errorString" = "*errors.errorString" := by decide
theorem row116 (u : TypeId) (h : Tryd.prog.typeName? 3 u = some "*errors.errorString") : u = 116 :=
  typeName_ptr_named (nm := "errors.errorString") (by rw [star]; kernel_rfl) (by kernel_rfl) (by decide) u (by rw [star]; exact h)
theorem door_met (os : Os) (args : Array Value) : laidMetH Tryd.prog laidL ((World.doorLaid Tryd.prog 400 os).forCall (fun _ _ => 0) ⟨#[], args, []⟩).memory :=
  laidMetH_of_parts (laidMet_of_run' 8 (by kernel_rfl) (by kernel_rfl)) (by kernel_rfl)
theorem laid_cell {W : World} (h : laidMetH Tryd.prog laidL W) : ∃ ad, Laid ad W := by
  rw [MakeChecks.laidMetH_plain _ _ _ (by kernel_rfl)] at h
  have h1 := h.tail
  have h2 := h1.tail
  have h3 := h2.tail
  obtain ⟨a3, s3, v3, _⟩ := laid_sentinel (P := Tryd.prog) h gl3 glt3 Tryd.underlying80 row116 Tryd.underlying116 Tryd.underlying143 rfl rfl Tryd.underlying9 (by kernel_rfl) (by kernel_rfl)
  obtain ⟨a0, s0, v0, _⟩ := laid_sentinel (P := Tryd.prog) h1 gl0 glt0 Tryd.underlying80 row116 Tryd.underlying116 Tryd.underlying143 rfl rfl Tryd.underlying9 (by kernel_rfl) (by kernel_rfl)
  obtain ⟨a1, s1, v1, _⟩ := laid_sentinel (P := Tryd.prog) h2 gl1 glt1 Tryd.underlying80 row116 Tryd.underlying116 Tryd.underlying143 rfl rfl Tryd.underlying9 (by kernel_rfl) (by kernel_rfl)
  obtain ⟨a2, s2, v2, _⟩ := laid_sentinel (P := Tryd.prog) h3 gl2 glt2 Tryd.underlying80 row116 Tryd.underlying116 Tryd.underlying143 rfl rfl Tryd.underlying9 (by kernel_rfl) (by kernel_rfl)
  exact ⟨(a0, a1, a2, a3), ⟨by simpa using World.var?_cell gl0 v0 0, by simpa using World.var?_cell gl1 v1 0, by simpa using World.var?_cell gl2 v2 0, by simpa using World.var?_cell gl3 v3 0⟩⟩
end Go.Proofs.YtpfkeohaaeiaaaaDoor
/- Flow control: the sender and the receiver. -/
namespace Go.Proofs.YtpfkeohaaeiaaaaDoor.flo
open Go.RowKit
def snC (most used rep : Int) : Array Value := #[.int .i64 most, .int .i64 used, .int .i64 rep]
def rcC (most win hi rd : Int) : Array Value := #[.int .i64 most, .int .i64 win, .int .i64 hi, .int .i64 rd]
set_option maxRecDepth 100000 in
theorem newR_any (n : Nat) (hn : n ≤ 1000000) (w : World) : Calls Tryd.prog 9 #[.int .i64 n] w fun e w' => e = .returned (.tuple #[.pointer (some ⟨w.heap.size, 0, none⟩), .int .i64 0]) ∧ w' = w.alloc (.cells (rcC n n 0 0) 72) := by
  have g1 : ((n : Int) < 0) = False := eq_false (by omega)
  have g2 : (1073741824 < (n : Int)) = False := eq_false (by omega)
  have g3 : decide ((n : Int) > 1073741824) = false := decide_eq_false (by omega)
  unfold rcC
  go_enter Tryd.func9, Tryd.ntmps9
  go_wp2
  go_returns
  exact ⟨rfl, rfl⟩
set_option maxRecDepth 100000 in
theorem newS_any (n : Nat) (hn : n ≤ 1000000) (w : World) : Calls Tryd.prog 10 #[.int .i64 n] w fun e w' => e = .returned (.tuple #[.pointer (some ⟨w.heap.size, 0, none⟩), .int .i64 0]) ∧ w' = w.alloc (.cells (snC n 0 0) 74) := by
  have g1 : ((n : Int) < 0) = False := eq_false (by omega)
  have g2 : (1099511627776 < (n : Int)) = False := eq_false (by omega)
  have g3 : decide ((n : Int) > 1099511627776) = false := decide_eq_false (by omega)
  unfold snC
  go_enter Tryd.func10, Tryd.ntmps10
  go_wp2
  go_returns
  exact ⟨rfl, rfl⟩
set_option maxRecDepth 100000 in
set_option maxHeartbeats 2000000 in
theorem avail_any (b : Nat) (most used rep : Int) (w : World) (h : w.heap[b]? = some (.cells (snC most used rep) 74 (0, 0))) (h1 : 0 ≤ used) (h2 : used ≤ most) (h3 : most ≤ 1099511627776) :
    Calls Tryd.prog 15 #[.pointer (some ⟨b, 0, none⟩)] w fun e w' => e = .returned (.int .i64 (most - used)) ∧ ∃ n, w' = w.drewN n := by
  have c0 : w.cell? ⟨b, 0, none⟩ = some (.int .i64 most) := at_whole h 0 rfl
  have c1 : w.cell? ⟨b, 1, none⟩ = some (.int .i64 used) := at_whole h 1 rfl
  have hw : IntKind.i64.wrap (most - used) = most - used := IntWalk.i64_in _ (by omega)
  go_enter Tryd.func15, Tryd.ntmps15
  go_wp2_with fail
  go_quiet (fail)
  go_wp2
  go_ret
  exact ⟨rfl, _, rfl⟩
set_option maxRecDepth 100000 in
set_option maxHeartbeats 2000000 in
theorem use_ok (b : Nat) (most used rep n : Int) (w : World) (h : w.heap[b]? = some (.cells (snC most used rep) 74 (0, 0))) (h1 : 0 ≤ used) (h2 : used ≤ most) (h3 : most ≤ 1099511627776) (h4 : 0 ≤ n) (h5 : n ≤ most - used) :
    Calls Tryd.prog 16 #[.pointer (some ⟨b, 0, none⟩), .int .i64 n] w fun e w' => e = .returned (.int .i64 0) ∧ Blk b (snC most (used + n) rep) 74 w w' := by
  have A := Lib.hid (avail_any b most used rep w h h1 h2 h3)
  have H := Lib.hid h
  have g1 : (n < 0) = False := eq_false (by omega)
  have g2 : (most - used < n) = False := eq_false (by omega)
  have g3 : decide (n > most - used) = false := decide_eq_false (by omega)
  have hw : IntKind.i64.wrap (used + n) = used + n := IntWalk.i64_in _ (by omega)
  have c1 := at_whole h 1 rfl
  have z1 := frozen_whole h 1
  simp only [snC, List.getElem_toArray, List.getElem_cons_zero, List.getElem_cons_succ] at c1
  clear h
  go_enter Tryd.func16, Tryd.ntmps16
  go_wp2_with (go_at_call 15; refine A.out.mono ?_; rintro e w1 ⟨rfl, q, rfl⟩)
  go_ret
  exact ⟨rfl, ((Blk.start H.out).drewN q).set 1 _⟩
set_option maxRecDepth 100000 in
set_option maxHeartbeats 2000000 in
theorem receive_ok (b : Nat) (most win hi rd n : Int) (w : World) (h : w.heap[b]? = some (.cells (rcC most win hi rd) 72 (0, 0))) (h4 : 0 ≤ n) (h5 : n ≤ most) :
    Calls Tryd.prog 18 #[.pointer (some ⟨b, 0, none⟩), .int .i64 n] w fun e w' => e = .returned (.int .i64 0) ∧ Blk b (rcC most win (max hi n) rd) 72 w w' := by
  have H := Lib.hid h
  have g1 : (n < 0) = False := eq_false (by omega)
  have g2 : (most < n) = False := eq_false (by omega)
  have g3 : decide (n > most) = false := decide_eq_false (by omega)
  have c0 := at_whole h 0 rfl
  have c2 := at_whole h 2 rfl
  have z2 := frozen_whole h 2
  simp only [rcC, List.getElem_toArray, List.getElem_cons_zero, List.getElem_cons_succ] at c0 c2
  have hm : (if hi < n then n else hi) = max hi n := by split <;> omega
  have F := Lib.hid ((Blk.start H.out).set 2 (.int .i64 (max hi n)))
  clear h
  go_enter Tryd.func18, Tryd.ntmps18
  go_wp2
  go_ret
  exact ⟨rfl, F.out⟩
end Go.Proofs.YtpfkeohaaeiaaaaDoor.flo
/- Flow control: raise, Raise, Limit, Read. -/
namespace Go.Proofs.YtpfkeohaaeiaaaaDoor.flo
open Go.RowKit
set_option maxRecDepth 100000 in
set_option maxHeartbeats 2000000 in
theorem raise_any (b : Nat) (T : TypeId) (cs : Array Value) (most n : Int) (w : World) (h : w.heap[b]? = some (.cells cs T (0, 0))) (h0 : cs[0]? = some (.int .i64 most)) (hn : n ≤ 1099511627776) :
    Calls Tryd.prog 36 #[.pointer (some ⟨b, 0, none⟩), .int .i64 n] w fun e w' => e = .returned (.tuple #[]) ∧ w' = w.setCell ⟨b, 0, none⟩ (.int .i64 (max most n)) := by
  have c0 := at_whole h 0 h0
  have z0 := frozen_whole h 0
  have m1 : (if 1099511627776 < n then (1099511627776 : Int) else n) = n := by split <;> omega
  have m2 : (if most < n then n else most) = max most n := by split <;> omega
  have m3 : (if n < 1099511627776 then n else (1099511627776 : Int)) = n := by split <;> omega
  clear h h0
  go_enter Tryd.func36, Tryd.ntmps36
  go_wp2
  go_end0
  exact ⟨rfl, rfl⟩
set_option maxRecDepth 100000 in
set_option maxHeartbeats 2000000 in
theorem limit_any (b : Nat) (most win hi rd : Int) (w : World) (h : w.heap[b]? = some (.cells (rcC most win hi rd) 72 (0, 0))) :
    Calls Tryd.prog 24 #[.pointer (some ⟨b, 0, none⟩)] w fun e w' => e = .returned (.int .i64 most) ∧ w = w' := by
  have c0 : w.cell? ⟨b, 0, none⟩ = some (.int .i64 most) := at_whole h 0 rfl
  clear h
  go_enter Tryd.func24, Tryd.ntmps24
  go_wp2
  go_ret
  exact ⟨rfl, rfl⟩
set_option maxRecDepth 100000 in
set_option maxHeartbeats 2000000 in
theorem raiseS_any (b : Nat) (most used rep n : Int) (w : World) (h : w.heap[b]? = some (.cells (snC most used rep) 74 (0, 0))) (hn : n ≤ 1099511627776) :
    Calls Tryd.prog 23 #[.pointer (some ⟨b, 0, none⟩), .int .i64 n] w fun e w' => e = .returned (.tuple #[]) ∧ Blk b (snC (max most n) used rep) 74 w w' := by
  have R := Lib.hid (raise_any b 74 (snC most used rep) most n w h rfl hn)
  have F := Lib.hid ((Blk.start h).set 0 (.int .i64 (max most n)))
  clear h
  go_enter Tryd.func23, Tryd.ntmps23
  go_wp2_with (go_at_call 36; refine R.out.mono ?_; rintro e w1 ⟨rfl, rfl⟩)
  go_end0
  exact ⟨rfl, F.out⟩
set_option maxRecDepth 100000 in
set_option maxHeartbeats 2000000 in
theorem readR_any (b : Nat) (most win hi rd n : Int) (w : World) (h : w.heap[b]? = some (.cells (rcC most win hi rd) 72 (0, 0))) (h1 : 0 ≤ rd) (h2 : rd ≤ hi) (h3 : hi ≤ 1099511627776) (h4 : 0 ≤ n) (h5 : n ≤ 1099511627776) :
    Calls Tryd.prog 21 #[.pointer (some ⟨b, 0, none⟩), .int .i64 n] w fun e w' => e = .returned (.tuple #[]) ∧ Blk b (rcC most win hi (rd + min n (hi - rd))) 72 w w' := by
  have c2 : w.cell? ⟨b, 2, none⟩ = some (.int .i64 hi) := at_whole h 2 rfl
  have c3 : w.cell? ⟨b, 3, none⟩ = some (.int .i64 rd) := at_whole h 3 rfl
  have z3 := frozen_whole h 3
  have e1 : IntKind.i64.wrap (hi - rd) = hi - rd := IntWalk.i64_in _ (by omega)
  have m1 : (if hi - rd < n then hi - rd else n) = min n (hi - rd) := by split <;> omega
  have m2 : (if n < hi - rd then n else hi - rd) = min n (hi - rd) := by split <;> omega
  have e2 : IntKind.i64.wrap (rd + min n (hi - rd)) = rd + min n (hi - rd) := IntWalk.i64_in _ (by omega)
  have F := Lib.hid (((Blk.start h).set 3 (.int .i64 (rd + min n (hi - rd)))).drew)
  have B := Lib.hid (Blk.start h)
  clear h
  by_cases hz : n = 0
  · subst hz
    have e0 : Hid (rd + min 0 (hi - rd) = rd) := Lib.hid (by omega)
    clear e1 m1 m2 e2 F
    go_enter Tryd.func21, Tryd.ntmps21
    go_wp2
    go_end0
    exact ⟨rfl, by rw [e0.out]; exact B.out⟩
  · have hp : 0 < n := by omega
    have hp2 : decide (n > 0) = true := decide_eq_true hp
    generalize min n (hi - rd) = q at *
    go_enter Tryd.func21, Tryd.ntmps21
    go_wp2_with fail
    go_region
    go_wp2
    go_end0
    exact ⟨rfl, F.out⟩
end Go.Proofs.YtpfkeohaaeiaaaaDoor.flo
/- Flow control: Update. -/
namespace Go.Proofs.YtpfkeohaaeiaaaaDoor.flo
open Go.RowKit
set_option maxRecDepth 100000 in
set_option maxHeartbeats 4000000 in
/-- the window is more than half open: nothing -/
theorem update_no (b : Nat) (most win hi rd : Int) (w : World) (h : w.heap[b]? = some (.cells (rcC most win hi rd) 72 (0, 0))) (h1 : 0 ≤ rd) (h2 : rd ≤ most) (h3 : most ≤ 1099511627776) (h4 : 0 ≤ win) (h5 : win ≤ 1099511627776) (hc : win / 2 < most - rd) :
    Calls Tryd.prog 22 #[.pointer (some ⟨b, 0, none⟩)] w fun e w' => e = .returned (.tuple #[.int .i64 0, .bool false]) ∧ ∃ n, w' = w.drewN n := by
  have c0 : w.cell? ⟨b, 0, none⟩ = some (.int .i64 most) := at_whole h 0 rfl
  have c1 : w.cell? ⟨b, 1, none⟩ = some (.int .i64 win) := at_whole h 1 rfl
  have c3 : w.cell? ⟨b, 3, none⟩ = some (.int .i64 rd) := at_whole h 3 rfl
  have e1 : IntKind.i64.wrap (most - rd) = most - rd := IntWalk.i64_in _ (by omega)
  have e2 : win.tdiv 2 = win / 2 := Int.tdiv_eq_ediv_of_nonneg h4
  have e3 : IntKind.i64.wrap (win / 2) = win / 2 := IntWalk.i64_in _ (by omega)
  have d0 : decide (most - rd > win / 2) = true := decide_eq_true hc
  clear h
  go_enter Tryd.func22, Tryd.ntmps22
  go_wp2_with fail
  go_quiet (fail)
  go_wp2
  go_returns
  exact ⟨rfl, _, rfl⟩
set_option maxRecDepth 100000 in
set_option maxHeartbeats 4000000 in
theorem update_yes (b : Nat) (most win hi rd : Int) (w : World) (h : w.heap[b]? = some (.cells (rcC most win hi rd) 72 (0, 0))) (h1 : 0 ≤ rd) (h2 : rd ≤ most) (h3 : most ≤ 1099511627776) (h4 : 0 ≤ win) (h5 : rd + win ≤ 1099511627776) (hc : most - rd ≤ win / 2) :
    Calls Tryd.prog 22 #[.pointer (some ⟨b, 0, none⟩)] w fun e w' => (∃ v up, e = .returned (.tuple #[.int .i64 v, .bool up]) ∧ (up = true → v = max most (rd + win)) ∧ (up = false → max most (rd + win) = most)) ∧ Blk b (rcC (max most (rd + win)) win hi rd) 72 w w' := by
  have c0 : w.cell? ⟨b, 0, none⟩ = some (.int .i64 most) := at_whole h 0 rfl
  have c1 : w.cell? ⟨b, 1, none⟩ = some (.int .i64 win) := at_whole h 1 rfl
  have c3 : w.cell? ⟨b, 3, none⟩ = some (.int .i64 rd) := at_whole h 3 rfl
  have e1 : IntKind.i64.wrap (most - rd) = most - rd := IntWalk.i64_in _ (by omega)
  have e2 : win.tdiv 2 = win / 2 := Int.tdiv_eq_ediv_of_nonneg h4
  have e3 : IntKind.i64.wrap (win / 2) = win / 2 := IntWalk.i64_in _ (by omega)
  have e4 : IntKind.i64.wrap (rd + win) = rd + win := IntWalk.i64_in _ (by omega)
  have d0 : decide (most - rd > win / 2) = false := decide_eq_false (by omega)
  have d1 : (win / 2 < most - rd) = False := eq_false (by omega)
  have hmf : ∀ (fn : Fn) (first cap : Array Value) (w : World), (Instr.makeFunc fn first cap).run Tryd.prog w = .ok (.func fn first cap) w := fun _ _ _ _ => rfl
  have B := Lib.hid (Blk.start h)
  clear h
  go_enter Tryd.func22, Tryd.ntmps22
  go_wp2_with fail
  go_quiet (fail)
  go_wp2_with fail
  go_region
  go_wp2_with fail
  go_region_with (go_at_call 36; refine (raise_any b 72 (rcC most win hi rd) most (rd + win) _ (by exact B.out.1) rfl h5).mono ?_; rintro e w1 ⟨rfl, hw1⟩)
  all_goals
    subst hw1
    have G := Lib.hid ((B.out.drewN (nq + 1 + 1)).set 0 (.int .i64 (max most (rd + win))))
    generalize World.setCell _ _ _ = W at G ⊢
    have q0 : W.cell? ⟨b, 0, none⟩ = some (.int .i64 (max most (rd + win))) := at_whole G.out.1 0 rfl
    clear c0 c1 c3 e1 e2 e3 e4 d0 d1 hmf
    by_cases hm : max most (rd + win) = most
    · have hb : (max most (rd + win) == most) = true := beq_iff_eq.2 hm
      have HM := Lib.hid hm
      clear hm
      go_wp2
      go_returns
      exact ⟨⟨0, false, rfl, (fun h => by cases h), fun _ => HM.out⟩, G.out⟩
    · have hb : (max most (rd + win) == most) = false := beq_eq_false_iff_ne.2 hm
      clear hm
      go_wp2
      go_returns
      exact ⟨⟨_, true, rfl, (fun _ => rfl), fun h => by cases h⟩, G.out⟩
end Go.Proofs.YtpfkeohaaeiaaaaDoor.flo
/- A region that draws its order inside a fence (and inside a round): every operation but the last yields a value that is known ahead and leaves the world alone; the last one (a store) comes behind all of them. -/
namespace Go.Proofs.YtpfkeohaaeiaaaaDoor
open Go.RowKit
section
variable {F : Fence} {n : Nat} {P : Program} {ops : Array Oper} {Q : Exit → Act → World → Prop}
theorem wpAnyIn_inv (I : (Nat → Bool) → Act → World → Prop) (hu : upward ops = true)
    (hs : ∀ (L : Nat → Bool) a w i o, ops[i]? = some o → L i = false → (∀ e ∈ o.after, Region.binds .any e = true → L e.on = true) → I L a w → wpOpIn F n P ops Q i (I (fun j => j == i || L j)) a w)
    (he : ∀ L a w, (∀ i, i < ops.size → L i = true) → I L a w → Q .normal a w) :
    ∀ (fuel : Nat) (l : Array Bool) a w, l.size = ops.size → left ops.size l ≤ fuel → I (fun j => l.getD j false) a w → wpAnyIn F n P .any ops Q fuel l a w := by
  intro fuel
  induction fuel with
  | zero =>
    intro l a w hz hf hI
    have hr : Region.ready .any ops l = [] := by
      rw [List.eq_nil_iff_forall_not_mem]
      intro i hi
      obtain ⟨o, ho, h1, _⟩ := mem_ready.1 hi
      have := left_set (Array.getElem?_eq_some_iff.1 ho).1 hz h1
      omega
    exact ⟨hr, he _ a w (all_listed hz hu hr) hI⟩
  | succ fuel ih =>
    intro l a w hz hf hI
    refine ⟨fun hr => he _ a w (all_listed hz hu hr) hI, fun i hi => ?_⟩
    obtain ⟨o, ho, h1, h2⟩ := mem_ready.1 hi
    have hlt := (Array.getElem?_eq_some_iff.1 ho).1
    have hL : l.getD i false = false := by rw [← getD_is (by omega)]; exact h1
    have hd := left_set hlt hz h1
    refine wpOpIn_mono (fun a' w' hI' => ih _ a' w' (by simpa using hz) (by omega) ?_) (hs _ a w i o ho hL h2 hI)
    have e : (fun j => (l.setIfInBounds i true).getD j false) = fun j => j == i || l.getD j false := by
      funext j
      by_cases e : j = i
      · subst e; simp [Array.getD, hz, hlt]
      · by_cases hj : j < l.size
        · simp [Array.getD, hj, Ne.symm e, e]
        · simp [Array.getD, hj, e]
    rw [e]
    exact hI'
theorem wpIn_region_inv {id : Nat} {a : Act} {w : World} (hm : P.follows .mixedOrders = true) (hu : upward ops = true) (I : (Nat → Bool) → Act → World → Prop) (h0 : I (fun _ => false) a w.drew)
    (hs : ∀ (L : Nat → Bool) a w i o, ops[i]? = some o → L i = false → (∀ e ∈ o.after, Region.binds .any e = true → L e.on = true) → I L a w → wpOpIn F n P ops Q i (I (fun j => j == i || L j)) a w)
    (he : ∀ L a w, (∀ i, i < ops.size → L i = true) → I L a w → Q .normal a w) : (Code.region id ops true).wpIn F n P Q a w := by
  refine wpIn_region_any hm (wpAnyIn_inv I hu hs he _ _ _ _ (by simp) ?_ ?_)
  · refine Nat.le_trans List.countP_le_length (by simp)
  · have e : (fun j => (Array.replicate ops.size false).getD j false) = fun _ => false := by
      funext j
      by_cases hj : j < ops.size <;> simp [Array.getD, hj]
    rw [e]
    exact h0
/-- the slots that are set hold their values; the others are as they were -/
structure PInv (s m : Nat) (val : Nat → Value) (A0 : Act) (W0 W1 : World) (L : Nat → Bool) (a : Act) (w : World) : Prop where
  nod : a.defers = A0.defers
  size : a.tmps.size = A0.tmps.size
  old : ∀ p, p < s ∨ s + m ≤ p → a.tmps[p]? = A0.tmps[p]?
  new : ∀ j, j < m → a.tmps[s + j]? = if L j then some (val j) else A0.tmps[s + j]?
  w : w = if L m then W1 else W0
/-- what an operation may lean on -/
structure PHas (s m : Nat) (val : Nat → Value) (A0 : Act) (o : Oper) (a : Act) : Prop where
  old : ∀ p, p < s ∨ s + m ≤ p → a.tmps[p]? = A0.tmps[p]?
  dep : ∀ e ∈ o.after, Region.binds .any e = true → e.on < m → a.tmps[s + e.on]? = some (val e.on)
/-- each operation ahead of the last is waited for by one behind it -/
def covers (ops : Array Oper) (m : Nat) : Bool := (List.range m).all fun j => (List.range (m + 1)).any fun k => decide (j < k) && ((ops[k]?).map (·.after.any fun e => Region.binds .any e && e.on == j)).getD false
theorem all_of_last {m : Nat} {L : Nat → Bool} (hc : covers ops m = true) (hcl : ∀ j o e, (L j = true ∨ j = m) → ops[j]? = some o → e ∈ o.after → Region.binds .any e = true → L e.on = true) : ∀ d j, m = j + d → 0 < d → L j = true := by
  intro d
  induction d using Nat.strongRecOn with
  | ind d ih =>
    intro j hj hd
    have h1 := List.all_eq_true.1 hc j (List.mem_range.2 (by omega))
    obtain ⟨k, hk, h2⟩ := List.any_eq_true.1 h1
    rw [Bool.and_eq_true, decide_eq_true_eq] at h2
    have hk2 := List.mem_range.1 hk
    cases ho : ops[k]? with
    | none => rw [ho] at h2; simp at h2
    | some o =>
      rw [ho] at h2
      obtain ⟨hjk, h3⟩ := h2
      have h3 : (o.after.any fun e => Region.binds .any e && e.on == j) = true := h3
      rw [Array.any_eq_true'] at h3
      simp only [Bool.and_eq_true, beq_iff_eq] at h3
      obtain ⟨e, he, hb, rfl⟩ := h3
      refine hcl k o e ?_ ho he hb
      by_cases hkm : k = m
      · exact .inr hkm
      · exact .inl (ih (m - k) (by omega) k (by omega) (by omega))
theorem foldl_set (s m : Nat) (val : Nat → Value) (t : Array Value) (hsz : s + m ≤ t.size) : ∀ p, ((List.range m).foldl (fun t j => t.setIfInBounds (s + j) (val j)) t)[p]? = if s ≤ p ∧ p < s + m then some (val (p - s)) else t[p]? := by
  induction m with
  | zero => intro p; rw [if_neg (by omega)]; rfl
  | succ m ih =>
    intro p
    have hz : ∀ (l : List Nat) (u : Array Value), (l.foldl (fun t j => t.setIfInBounds (s + j) (val j)) u).size = u.size := by
      intro l
      induction l with
      | nil => intro u; rfl
      | cons x l ih2 => intro u; rw [List.foldl_cons, ih2]; simp
    rw [List.range_succ, List.foldl_append]
    show (Array.setIfInBounds _ _ _)[p]? = _
    rw [Array.getElem?_setIfInBounds, ih (by omega) p, hz]
    by_cases h1 : s + m = p
    · subst h1
      rw [if_pos rfl, if_pos (by omega), if_pos (by omega)]
      simp
    · rw [if_neg h1]
      by_cases h2 : s ≤ p ∧ p < s + m
      · rw [if_pos h2, if_pos (by omega)]
      · rw [if_neg h2, if_neg (by omega)]
theorem pure_region {id : Nat} (s m : Nat) (val : Nat → Value) {A0 : Act} {W0 W1 : World} {tm : Array Value} (hm : P.follows .mixedOrders = true) (hu : upward ops = true) (hc : covers ops m = true) (hz : ops.size = m + 1) (hsz : s + m ≤ A0.tmps.size)
    (hop : ∀ i o, i < m → ops[i]? = some o → ∀ a, PHas s m val A0 o a → o.dst = some (s + i) ∧ o.guard = none ∧ (∀ f, o.about P W0.drew a.eval = some f → F.fn f) ∧ (o.semAt F.round a.eval).run P W0.drew = .ok (.value (val i)) W0.drew)
    (hst : ∀ o, ops[m]? = some o → ∀ a, PHas s m val A0 o a → o.dst = none ∧ o.guard = none ∧ (∀ f, o.about P W0.drew a.eval = some f → F.fn f) ∧ (o.semAt F.round a.eval).run P W0.drew = .ok .skip W1)
    (htm : (List.range m).foldl (fun t j => t.setIfInBounds (s + j) (val j)) A0.tmps = tm) (h : Q .normal { tmps := tm, defers := A0.defers } W1) : (Code.region id ops true).wpIn F n P Q A0 W0 := by
  refine wpIn_region_inv hm hu (fun L a w => PInv s m val A0 W0.drew W1 L a w ∧ ∀ j o e, L j = true → ops[j]? = some o → e ∈ o.after → Region.binds .any e = true → L e.on = true) ⟨⟨rfl, rfl, fun _ _ => rfl, fun _ _ => rfl, rfl⟩, fun _ _ _ h => by cases h⟩ ?_ ?_
  · rintro L a w i o ho hL hdep ⟨hI, hcl⟩
    have hi : i < m + 1 := by have := (Array.getElem?_eq_some_iff.1 ho).1; omega
    have hcl' : ∀ j o' e, (j == i || L j) = true → ops[j]? = some o' → e ∈ o'.after → Region.binds .any e = true → (e.on == i || L e.on) = true := by
      intro j o' e hj ho' he hb
      rw [Bool.or_eq_true] at hj ⊢
      rcases hj with hj | hj
      · rw [beq_iff_eq] at hj
        subst hj
        rw [ho] at ho'
        cases ho'
        exact .inr (hdep e he hb)
      · exact .inr (hcl j o' e hj ho' he hb)
    have hdep' : ∀ e ∈ o.after, Region.binds .any e = true → e.on < m → a.tmps[s + e.on]? = some (val e.on) := fun e he hb hlt => by rw [hI.new _ hlt, hdep e he hb]; rfl
    by_cases him : i = m
    · subst him
      have hall : ∀ j, j < i → L j = true := fun j hj => all_of_last hc (fun k o' e hk ho' he hb => by
        rcases hk with hk | rfl
        · exact hcl k o' e hk ho' he hb
        · rw [ho] at ho'; cases ho'; exact hdep e he hb) (i - j) j (by omega) (by omega)
      have hw : w = W0.drew := by rw [hI.w, hL]; rfl
      subst hw
      obtain ⟨h1, h2, h3, h4⟩ := hst o ho a ⟨hI.old, hdep'⟩
      refine wpOpIn_step ho fun K' hK => ?_
      rw [if_pos (by simp [Region.wanted, h2])]
      unfold Oper.wpIn
      refine ⟨h3, ?_⟩
      rw [h4]
      refine hK _ _ ⟨⟨?_, ?_, ?_, ?_, ?_⟩, hcl'⟩
      · rw [h1]; exact hI.nod
      · rw [h1]; exact hI.size
      · rw [h1]; exact hI.old
      · rw [h1]
        intro j hj
        show a.tmps[s + j]? = _
        rw [hI.new j hj, hall j hj]
        simp
      · simp
    · have hlt : i < m := by omega
      have hLm : L m = false := by
        cases e : L m with
        | false => rfl
        | true =>
          have := all_of_last (L := L) hc (fun k o' e' hk ho' he hb => by
            rcases hk with hk | rfl
            · exact hcl k o' e' hk ho' he hb
            · exact hcl k o' e' e ho' he hb) (m - i) i (by omega) (by omega)
          rw [this] at hL
          cases hL
      have hw : w = W0.drew := by rw [hI.w, hLm]; rfl
      subst hw
      obtain ⟨h1, h2, h3, h4⟩ := hop i o hlt ho a ⟨hI.old, hdep'⟩
      refine wpOpIn_step ho fun K' hK => ?_
      rw [if_pos (by simp [Region.wanted, h2])]
      unfold Oper.wpIn
      refine ⟨h3, ?_⟩
      rw [h4]
      have hsi : s + i < a.tmps.size := by rw [hI.size]; omega
      refine hK _ _ ⟨⟨?_, ?_, ?_, ?_, ?_⟩, hcl'⟩
      · rw [h1]; exact hI.nod
      · rw [h1]; show (a.tmps.setIfInBounds _ _).size = _; simpa using hI.size
      · rw [h1]
        intro p hp
        show (a.tmps.setIfInBounds _ _)[p]? = _
        rw [Array.getElem?_setIfInBounds_ne (by omega)]
        exact hI.old p hp
      · rw [h1]
        intro j hj
        show (a.tmps.setIfInBounds _ _)[s + j]? = _
        by_cases hji : j = i
        · subst hji
          rw [Array.getElem?_setIfInBounds_self_of_lt hsi]
          simp
        · rw [Array.getElem?_setIfInBounds_ne (by omega), hI.new j hj]
          simp [hji]
      · rw [show ((m == i) || L m) = false from by rw [hLm, Bool.or_false]; exact beq_eq_false_iff_ne.2 (fun e => him e.symm)]
        rfl
  · rintro L a w hall ⟨hI, _⟩
    have hw : w = W1 := by rw [hI.w, hall m (by omega)]; rfl
    have ha : a = { tmps := tm, defers := A0.defers } := by
      obtain ⟨at_, ad⟩ := a
      have h1 : ad = A0.defers := hI.nod
      have h2 : at_ = tm := by
        rw [← htm]
        apply Array.ext_getElem?
        intro p
        rw [foldl_set s m val A0.tmps hsz p]
        by_cases hp : s ≤ p ∧ p < s + m
        · rw [if_pos hp]
          have := hI.new (p - s) (by omega)
          rw [hall _ (by omega), if_pos rfl, show s + (p - s) = p by omega] at this
          exact this
        · rw [if_neg hp]
          exact hI.old p (by omega)
      rw [h1, h2]
    rw [hw, ha]
    exact h
end
end Go.Proofs.YtpfkeohaaeiaaaaDoor
/- A region that draws its order inside a fence and only reads, with guards: every operation yields a value that is known ahead, or is not wanted. -/
namespace Go.Proofs.YtpfkeohaaeiaaaaDoor.rea
open Go.RowKit
section
variable {F : Fence} {n : Nat} {P : Program} {ops : Array Oper} {Q : Exit → Act → World → Prop}
structure RInv (s m : Nat) (val : Nat → Value) (A0 : Act) (W1 : World) (L : Nat → Bool) (a : Act) (w : World) : Prop where
  nod : a.defers = A0.defers
  size : a.tmps.size = A0.tmps.size
  old : ∀ p, p < s ∨ s + m ≤ p → a.tmps[p]? = A0.tmps[p]?
  new : ∀ j, j < m → a.tmps[s + j]? = if L j then some (val j) else A0.tmps[s + j]?
  w : w = W1
theorem read_region {id : Nat} (s m : Nat) (val : Nat → Value) {A0 : Act} {W0 : World} {tm : Array Value} (hm : P.follows .mixedOrders = true) (hu : upward ops = true) (hz : ops.size = m) (hsz : s + m ≤ A0.tmps.size)
    (hop : ∀ i o, i < m → ops[i]? = some o → ∀ a, PHas s m val A0 o a → o.dst = some (s + i) ∧ (∀ f, o.about P W0.drew a.eval = some f → F.fn f) ∧
      ((Region.wanted o (yielded ops a.tmps) = true ∧ (o.semAt F.round a.eval).run P W0.drew = .ok (.value (val i)) W0.drew) ∨ (Region.wanted o (yielded ops a.tmps) = false ∧ val i = undef)))
    (htm : (List.range m).foldl (fun t j => t.setIfInBounds (s + j) (val j)) A0.tmps = tm) (h : Q .normal { tmps := tm, defers := A0.defers } W0.drew) : (Code.region id ops true).wpIn F n P Q A0 W0 := by
  refine wpIn_region_inv hm hu (fun L a w => RInv s m val A0 W0.drew L a w) ⟨rfl, rfl, fun _ _ => rfl, fun _ _ => rfl, rfl⟩ ?_ ?_
  · rintro L a w i o ho hL hdep hI
    have hi : i < m := by have := (Array.getElem?_eq_some_iff.1 ho).1; omega
    have hdep' : ∀ e ∈ o.after, Region.binds .any e = true → e.on < m → a.tmps[s + e.on]? = some (val e.on) := fun e he hb hlt => by rw [hI.new _ hlt, hdep e he hb]; rfl
    have hw : w = W0.drew := hI.w
    subst hw
    obtain ⟨h1, h3, h4⟩ := hop i o hi ho a ⟨hI.old, hdep'⟩
    have hsi : s + i < a.tmps.size := by rw [hI.size]; omega
    have key : RInv s m val A0 W0.drew (fun j => j == i || L j) (a.put o.dst (val i)) W0.drew := by
      rw [h1]
      refine ⟨hI.nod, ?_, ?_, ?_, rfl⟩
      · show (a.tmps.setIfInBounds _ _).size = _; simpa using hI.size
      · intro p hp
        show (a.tmps.setIfInBounds _ _)[p]? = _
        rw [Array.getElem?_setIfInBounds_ne (by omega)]
        exact hI.old p hp
      · intro j hj
        show (a.tmps.setIfInBounds _ _)[s + j]? = _
        by_cases hji : j = i
        · subst hji
          rw [Array.getElem?_setIfInBounds_self_of_lt hsi]
          simp
        · rw [Array.getElem?_setIfInBounds_ne (by omega), hI.new j hj]
          simp [hji]
    refine wpOpIn_step ho fun K' hK => ?_
    rcases h4 with ⟨hw, h5⟩ | ⟨hw, h5⟩
    · rw [if_pos hw]
      unfold Oper.wpIn
      refine ⟨h3, ?_⟩
      rw [h5]
      exact hK _ _ key
    · rw [if_neg (by rw [hw]; decide)]
      refine ⟨h3, ?_⟩
      rw [h5] at key
      exact hK _ _ key
  · rintro L a w hall hI
    have hw : w = W0.drew := hI.w
    have ha : a = { tmps := tm, defers := A0.defers } := by
      obtain ⟨at_, ad⟩ := a
      have h1 : ad = A0.defers := hI.nod
      have h2 : at_ = tm := by
        rw [← htm]
        apply Array.ext_getElem?
        intro p
        rw [foldl_set s m val A0.tmps hsz p]
        by_cases hp : s ≤ p ∧ p < s + m
        · rw [if_pos hp]
          have := hI.new (p - s) (by omega)
          rw [hall _ (by omega), if_pos rfl, show s + (p - s) = p by omega] at this
          exact this
        · rw [if_neg hp]
          exact hI.old p (by omega)
      rw [h1, h2]
    rw [hw, ha]
    exact h
end
end Go.Proofs.YtpfkeohaaeiaaaaDoor.rea
/- Reassembly: agrees. -/
namespace Go.Proofs.YtpfkeohaaeiaaaaDoor.rea
open Go.RowKit Go.Shelf
attribute [local go_sem] Oper.semAt_some
def bytesOf (s : ByteArray) : List Int := s.data.toList.map fun b => (b.toNat : Int)
theorem bytesOf_length (s : ByteArray) : (bytesOf s).length = s.size := by simp [bytesOf]
theorem bytesOf_get (s : ByteArray) (k : Nat) (h : k < s.size) : gd (bytesOf s) k = ((s[k]'h).toNat : Int) := by
  have h2 : k < s.data.toList.length := by simpa using h
  unfold bytesOf gd
  rw [List.getElem?_map, List.getElem?_eq_getElem h2]
  rfl
theorem boxes5 (w : World) (o1 o2 o3 o4 o5 : Obj) : (((((w.alloc o1).alloc o2).alloc o3).alloc o4).alloc o5).heap[w.heap.size]? = some o1 ∧ (((((w.alloc o1).alloc o2).alloc o3).alloc o4).alloc o5).heap[w.heap.size + 1]? = some o2 ∧ (((((w.alloc o1).alloc o2).alloc o3).alloc o4).alloc o5).heap[w.heap.size + 2]? = some o3 ∧
    (((((w.alloc o1).alloc o2).alloc o3).alloc o4).alloc o5).heap[w.heap.size + 3]? = some o4 ∧ (((((w.alloc o1).alloc o2).alloc o3).alloc o4).alloc o5).heap[w.heap.size + 4]? = some o5 ∧ Below w.heap.size w (((((w.alloc o1).alloc o2).alloc o3).alloc o4).alloc o5) ∧ (((((w.alloc o1).alloc o2).alloc o3).alloc o4).alloc o5).heap.size = w.heap.size + 5 := by
  obtain ⟨a, a', a'', b, c⟩ := box3 w o1 o2 o3
  obtain ⟨d, d', e, f⟩ := box2 (((w.alloc o1).alloc o2).alloc o3) o4 o5
  rw [c] at d d' f
  refine ⟨(e.block _ (by omega)).trans a, (e.block _ (by omega)).trans a', (e.block _ (by omega)).trans a'', d, d', b.trans (e.mono (by omega)), by omega⟩
theorem heap_own {β : Type} (B : Nat) (k : Nat) (cs : Array Value) (T : TypeId) : OwnFrom B (fun (_ : β) W => W.heap[k]? = some (.cells cs T (0, 0))) := fun s X Y row hs hg hr =>
  (hg.block k (heap_lt hs) (fun e => by obtain ⟨_, o, ho, hc⟩ := hr k e.symm; rw [hs] at ho; cases ho; cases hc)).trans hs
abbrev OvS (R : Rb) (off : Nat) (s : ByteArray) := { x : Nat × Nat // x ∈ ovl R.at_ off R.bs.length s.size }
def agP (R : Rb) (s : ByteArray) {off : Nat} (l : List (OvS R off s)) : Bool := l.all fun x => agAt R.bs R.hs (bytesOf s) x.1.1 x.1.2
theorem agP_snoc (R : Rb) (s : ByteArray) {off : Nat} (l : List (OvS R off s)) (x : OvS R off s) : agP R s (l ++ [x]) = (agP R s l && agAt R.bs R.hs (bytesOf s) x.1.1 x.1.2) := by simp [agP]
theorem agP_whole {R : Rb} {s : ByteArray} {off : Nat} {l : List (OvS R off s)} (h : l.map (·.1) = ovl R.at_ off R.bs.length s.size) : agP R s l = agF R.at_ R.bs R.hs off (bytesOf s) := by
  have : ∀ (m : List (Nat × Nat)), l.map (·.1) = m → (l.all fun x => agAt R.bs R.hs (bytesOf s) x.1.1 x.1.2) = m.all fun x => agAt R.bs R.hs (bytesOf s) x.1 x.2 := by
    rintro m rfl; rw [List.all_map]; rfl
  unfold agP agF
  rw [bytesOf_length]
  exact this _ h
theorem agP_bad {R : Rb} {s : ByteArray} {off : Nat} {l : List (OvS R off s)} (h : agP R s l = false) : agF R.at_ R.bs R.hs off (bytesOf s) = false := by
  unfold agP at h
  rw [List.all_eq_false] at h
  obtain ⟨x, hx, h⟩ := h
  unfold agF
  rw [List.all_eq_false]
  exact ⟨x.1, by rw [bytesOf_length]; exact x.2, h⟩
set_option maxRecDepth 100000 in
set_option maxHeartbeats 4000000 in
theorem agrees_any (b g1 g2 : Nat) (R : Rb) (off : Nat) (s : ByteArray) (fin : Bool) (w : World) (h : RbAt w b g1 g2 R) (hoff : off ≤ 1099511627776) (hs : s.size ≤ 8192) (ha : R.at_ ≤ 1125899906842624) :
    Calls Tryd.prog 48 #[.pointer (some ⟨b, 0, none⟩), .agg (pcO off s fin)] w fun e w' => e = .returned (.bool (agF R.at_ R.bs R.hs off (bytesOf s))) ∧ Below w.heap.size w w' := by
  have X := Lib.hid (boxes5 w (.cells #[.pointer (some ⟨b, 0, none⟩)] 94) (.cells (pcO off s fin) 83) (.cells #[.bool false] 4) (.cells #[.pointer (some ⟨b, 0, none⟩)] 94) (.cells (pcO off s fin) 83))
  have HT := Lib.hid h
  have OV := Lib.hid (fun wx => over_any b off s fin wx)
  clear h
  have hsm := HT.out.sm
  unfold pcO at *
  refine (callsIn_wide (n := 8)).1 ?_
  refine callsIn_of_wp_marks Tryd.func48 rfl trivial ?_ rfl
  simp only [Tryd.ntmps48, List.size_toArray, List.length_cons, List.length_nil, Nat.reduceAdd, Nat.reduceSub, Array.replicate_succ, Array.replicate_zero, List.push_toArray, List.append_toArray, List.nil_append, List.cons_append]
  gi_wp2_with (refine ⟨trivial, (callsIn_wide.2 (OV.out _)).mono ?_⟩; rintro e w' ⟨rfl, rfl⟩)
  generalize ((((w.alloc _).alloc _).alloc _).alloc _).alloc _ = W0 at X ⊢
  obtain ⟨X0, X1, X2, X3, X4, X5, X6⟩ := X.out
  have lb := heap_lt HT.out.ob
  refine wpIn_rangeFunc_ownH rfl (by decide) (gf := 52) (lb := #[.pointer (some ⟨w.heap.size + 3, 0, none⟩), .pointer (some ⟨w.heap.size + 4, 0, none⟩)]) rfl trivial (enters_of Tryd.func52 (by kernel_rfl) rfl)
    (ov_stops 7 (by decide) (w.heap.size + 3) (w.heap.size + 4) b g1 g2 R off s fin hoff hs ha hsm W0 X3 X4 ((X5.block b lb).trans HT.out.ob))
    (fun h k => h.trans k) (kpO_b (by omega) (by omega) (by omega)) (Below.refl _ _) (fun _ => rfl)
    (fun pre W => (W.heap[w.heap.size]? = some (.cells #[.pointer (some ⟨b, 0, none⟩)] 94 (0, 0)) ∧ (W.heap[w.heap.size + 1]? = some (.cells #[.int .i64 off, .string s, .bool fin] 83 (0, 0)) ∧ (W.heap[w.heap.size + 2]? = some (.cells #[.bool false] 4 (0, 0)) ∧ agP R s pre = true))) ∧ Below w.heap.size w W)
    (fun c pre W => (W.heap[w.heap.size + 2]? = some (.cells #[.bool false] 4 (0, 0)) ∧ (c = .ret ∧ agP R s pre = false)) ∧ Below w.heap.size w W)
    (OwnFrom.and (OwnFrom.and (heap_own _ _ _ _) (OwnFrom.and (heap_own _ _ _ _) (OwnFrom.and (heap_own _ _ _ _) (fun s _ _ _ hs _ _ => hs)))) (ownFrom_below (Nat.le_refl _) (by omega)))
    (fun c => OwnFrom.and (OwnFrom.and (heap_own _ _ _ _) (fun s _ _ _ hs _ _ => hs)) (ownFrom_below (Nat.le_refl _) (by omega)))
    ⟨⟨X0, X1, X2, rfl⟩, X5⟩
    (fun x a' W => a' = { tmps := #[.pointer (some ⟨b, 0, none⟩), .agg #[.int .i64 off, .string s, .bool fin], .pointer (some ⟨w.heap.size, 0, none⟩), .pointer (some ⟨w.heap.size + 1, 0, none⟩), .pointer (some ⟨w.heap.size + 2, 0, none⟩), .int .i64 x.1.1, .int .i64 x.1.2, .pointer (some ⟨b, 0, none⟩), .agg #[.int .i64 off, .string s, .bool fin], .func (.func 52) #[] #[.pointer (some ⟨w.heap.size + 3, 0, none⟩), .pointer (some ⟨w.heap.size + 4, 0, none⟩)], .int .i64 x.1.1, .int .i64 x.1.2, undef, undef, undef, undef, undef, undef, undef, undef, undef, undef, undef, undef, undef, undef, undef, undef, undef, undef, undef, undef, undef], defers := [] })
    (fun x a' s A C row hs hg hr => hs)
    ?assign ?body ?done ?stop
  case assign =>
    rintro ly pre ⟨⟨i, k⟩, hx⟩ W K hi hK
    simp only [encO] at hK ⊢
    have H1 := Lib.hid (And.intro hi hK)
    clear hi hK
    gi_wp2
    exact H1.out.2 _ _ ((KeepsOthers.refl _).from _) (KpO.refl _ _ _ _) H1.out.1 rfl
  case body =>
    rintro ly pre ⟨⟨i, k⟩, hx⟩ a' W hl ⟨r, hr⟩ ⟨⟨q0, q1, q2, q3⟩, q4⟩ rfl hlen
    obtain ⟨hi, hkm, _⟩ := ovl_mem hx
    simp only at hi hkm ⊢
    have R2 := HT.out.below q4
    have c0 := at_whole q0 0 rfl
    have c1 := at_whole q1 1 rfl
    have y1 := R2.cells.2.1
    have y2 := R2.cells.2.2.1
    have f1 := R2.byte k hkm
    have f2 := R2.flag k hkm
    have z2 := frozen_of_row W (w.heap.size + 2) 0 _ 4 q2
    have c2 := at_whole q2 0 rfl
    simp only [List.getElem_toArray, List.getElem_cons_zero, List.getElem_cons_succ] at c0 c1 c2
    have i0 : (0 : Int) ≤ (k : Int) := by omega
    have i1 : (k : Int) < (R.bs.length : Int) := by omega
    have i2 : (0 : Int) ≤ (i : Int) := by omega
    have i3 : (i : Int) < (s.size : Int) := by omega
    have AS := Lib.hid (agP_snoc R s pre ⟨(i, k), hx⟩)
    have BG := Lib.hid (bytesOf_get s i hi)
    have G := Lib.hid (And.intro q0 (And.intro q1 (And.intro q2 (And.intro q3 q4))))
    clear q0 q1 q2 q3 q4 R2
    obtain ⟨v, hv⟩ : ∃ v, gd R.bs k = v := ⟨_, rfl⟩
    have HV := Lib.hid hv
    rw [hv] at f1
    clear hv
    cases hf : hg R.hs k with
    | false =>
      rw [hf] at f2
      have e : Hid (agAt R.bs R.hs (bytesOf s) i k = true) := Lib.hid (by unfold agAt; rw [hf]; rfl)
      gi_wp2
      refine read_region 12 21 (fun jj => (#[.pointer (some ⟨b, 0, none⟩), .pointer (some ⟨b, 0, none⟩), .pointer (some ⟨b, 2, none⟩), .slice (some ⟨g2, 0, none⟩) R.bs.length R.bs.length, .int .i64 k, .pointer (some ⟨g2, k, none⟩), .bool false, .bool false, undef, undef, undef, undef, undef, undef, undef, undef, undef, undef, undef, undef, .bool false] : Array Value)[jj]?.getD undef) (tm := #[.pointer (some ⟨b, 0, none⟩), .agg #[.int .i64 off, .string s, .bool fin], .pointer (some ⟨w.heap.size, 0, none⟩), .pointer (some ⟨w.heap.size + 1, 0, none⟩), .pointer (some ⟨w.heap.size + 2, 0, none⟩), .int .i64 i, .int .i64 k, .pointer (some ⟨b, 0, none⟩), .agg #[.int .i64 off, .string s, .bool fin], .func (.func 52) #[] #[.pointer (some ⟨w.heap.size + 3, 0, none⟩), .pointer (some ⟨w.heap.size + 4, 0, none⟩)], .int .i64 i, .int .i64 k, .pointer (some ⟨b, 0, none⟩), .pointer (some ⟨b, 0, none⟩), .pointer (some ⟨b, 2, none⟩), .slice (some ⟨g2, 0, none⟩) R.bs.length R.bs.length, .int .i64 k, .pointer (some ⟨g2, k, none⟩), .bool false, .bool false, undef, undef, undef, undef, undef, undef, undef, undef, undef, undef, undef, undef, .bool false]) rfl (by kernel_rfl) rfl (by simp) ?_ (by kernel_rfl) ?_
      · rintro j o hj ho a ⟨hold, hdep⟩
        have o2 := hold 2 (by decide)
        have o6 := hold 6 (by decide)
        simp at o2 o6
        have hjj : j = 0 ∨ j = 1 ∨ j = 2 ∨ j = 3 ∨ j = 4 ∨ j = 5 ∨ j = 6 ∨ j = 7 ∨ j = 8 ∨ j = 9 ∨ j = 10 ∨ j = 11 ∨ j = 12 ∨ j = 13 ∨ j = 14 ∨ j = 15 ∨ j = 16 ∨ j = 17 ∨ j = 18 ∨ j = 19 ∨ j = 20 := by omega
        rcases hjj with rfl | rfl | rfl | rfl | rfl | rfl | rfl | rfl | rfl | rfl | rfl | rfl | rfl | rfl | rfl | rfl | rfl | rfl | rfl | rfl | rfl
        all_goals (cases ho; simp [Region.binds] at hdep; refine ⟨rfl, fun _ hf => absurd hf (by simp [Oper.about]), ?_⟩)
        all_goals first | exact .inr ⟨(by simp [Region.wanted, yielded, hdep]; done), rfl⟩ | exact .inl ⟨(by simp [Region.wanted]; done), (by simp [go_sem, Act.eval, hdep, o2, o6, c0, y2, f2, i0, i1]; done)⟩ | exact .inl ⟨rfl, (by simp [go_sem, Act.eval, hdep, o2, o6, c0, c1, y1, y2, f1, f2, i0, i1, i2, i3]; done)⟩ | exact .inl ⟨rfl, (by simp [go_sem, Act.eval, o2, o6, c0, c1, y1, y2, f1, f2, i0, i1, i2, i3]; done)⟩
      gi_wp2
      exact ⟨(KeepsOthers.drew _).from _, ⟨rfl, rfl, rfl⟩, ⟨⟨G.out.1, G.out.2.1, G.out.2.2.1, by rw [AS.out, G.out.2.2.2.1]; exact e.out⟩, G.out.2.2.2.2.drew⟩⟩
    | true =>
      rw [hf] at f2
      by_cases hc : v = ((s[i]'hi).toNat : Int)
      · have e : Hid (agAt R.bs R.hs (bytesOf s) i k = true) := Lib.hid (by unfold agAt; rw [HV.out, BG.out, decide_eq_true hc, Bool.or_true])
        have hcb : (v == ((s[i]'hi).toNat : Int)) = true := beq_iff_eq.2 hc
        have hcn : (v != ((s[i]'hi).toNat : Int)) = false := by rw [bne, hcb]; rfl
        clear hc
        gi_wp2
        refine read_region 12 21 (fun jj => (#[.pointer (some ⟨b, 0, none⟩), .pointer (some ⟨b, 0, none⟩), .pointer (some ⟨b, 2, none⟩), .slice (some ⟨g2, 0, none⟩) R.bs.length R.bs.length, .int .i64 k, .pointer (some ⟨g2, k, none⟩), .bool true, .bool true, .pointer (some ⟨b, 0, none⟩), .pointer (some ⟨b, 0, none⟩), .pointer (some ⟨b, 1, none⟩), .slice (some ⟨g1, 0, none⟩) R.bs.length R.bs.length, .int .i64 k, .pointer (some ⟨g1, k, none⟩), .int .u8 v, .pointer (some ⟨w.heap.size + 1, 1, none⟩), .string s, .int .i64 i, .int .u8 ((s[i]'hi).toNat : Int), .bool false, .bool false] : Array Value)[jj]?.getD undef) (tm := #[.pointer (some ⟨b, 0, none⟩), .agg #[.int .i64 off, .string s, .bool fin], .pointer (some ⟨w.heap.size, 0, none⟩), .pointer (some ⟨w.heap.size + 1, 0, none⟩), .pointer (some ⟨w.heap.size + 2, 0, none⟩), .int .i64 i, .int .i64 k, .pointer (some ⟨b, 0, none⟩), .agg #[.int .i64 off, .string s, .bool fin], .func (.func 52) #[] #[.pointer (some ⟨w.heap.size + 3, 0, none⟩), .pointer (some ⟨w.heap.size + 4, 0, none⟩)], .int .i64 i, .int .i64 k, .pointer (some ⟨b, 0, none⟩), .pointer (some ⟨b, 0, none⟩), .pointer (some ⟨b, 2, none⟩), .slice (some ⟨g2, 0, none⟩) R.bs.length R.bs.length, .int .i64 k, .pointer (some ⟨g2, k, none⟩), .bool true, .bool true, .pointer (some ⟨b, 0, none⟩), .pointer (some ⟨b, 0, none⟩), .pointer (some ⟨b, 1, none⟩), .slice (some ⟨g1, 0, none⟩) R.bs.length R.bs.length, .int .i64 k, .pointer (some ⟨g1, k, none⟩), .int .u8 v, .pointer (some ⟨w.heap.size + 1, 1, none⟩), .string s, .int .i64 i, .int .u8 ((s[i]'hi).toNat : Int), .bool false, .bool false]) rfl (by kernel_rfl) rfl (by simp) ?_ (by kernel_rfl) ?_
        · rintro j o hj ho a ⟨hold, hdep⟩
          have o2 := hold 2 (by decide)
          have o3 := hold 3 (by decide)
          have o5 := hold 5 (by decide)
          have o6 := hold 6 (by decide)
          simp at o2 o3 o5 o6
          have hjj : j = 0 ∨ j = 1 ∨ j = 2 ∨ j = 3 ∨ j = 4 ∨ j = 5 ∨ j = 6 ∨ j = 7 ∨ j = 8 ∨ j = 9 ∨ j = 10 ∨ j = 11 ∨ j = 12 ∨ j = 13 ∨ j = 14 ∨ j = 15 ∨ j = 16 ∨ j = 17 ∨ j = 18 ∨ j = 19 ∨ j = 20 := by omega
          rcases hjj with rfl | rfl | rfl | rfl | rfl | rfl | rfl | rfl | rfl | rfl | rfl | rfl | rfl | rfl | rfl | rfl | rfl | rfl | rfl | rfl | rfl
          all_goals (cases ho; simp [Region.binds] at hdep; refine ⟨rfl, fun _ hf => absurd hf (by simp [Oper.about]), ?_⟩)
          all_goals first | exact .inr ⟨(by simp [Region.wanted, yielded, hdep]; done), rfl⟩ | exact .inl ⟨(by simp [Region.wanted, yielded, hdep]; done), (by simp [go_sem, Act.eval, hdep, o2, o3, o5, o6, c0, c1, y1, y2, f1, f2, i0, i1, i2, i3, hcn]; done)⟩ | exact .inl ⟨rfl, (by simp [go_sem, Act.eval, hdep, o2, o3, o5, o6, c0, c1, y1, y2, f1, f2, i0, i1, i2, i3, hcb, hcn]; done)⟩ | exact .inl ⟨rfl, (by simp [go_sem, Act.eval, o2, o3, o5, o6, c0, c1, y1, y2, f1, f2, i0, i1, i2, i3, hcb, hcn]; done)⟩
        gi_wp2
        exact ⟨(KeepsOthers.drew _).from _, ⟨rfl, rfl, rfl⟩, ⟨⟨G.out.1, G.out.2.1, G.out.2.2.1, by rw [AS.out, G.out.2.2.2.1]; exact e.out⟩, G.out.2.2.2.2.drew⟩⟩
      · have e : Hid (agAt R.bs R.hs (bytesOf s) i k = false) := Lib.hid (by unfold agAt; rw [HV.out, BG.out, decide_eq_false hc, hf]; rfl)
        have hcb : (v == ((s[i]'hi).toNat : Int)) = false := beq_eq_false_iff_ne.2 hc
        have hcn : (v != ((s[i]'hi).toNat : Int)) = true := by rw [bne, hcb]; rfl
        gi_wp2
        refine read_region 12 21 (fun jj => (#[.pointer (some ⟨b, 0, none⟩), .pointer (some ⟨b, 0, none⟩), .pointer (some ⟨b, 2, none⟩), .slice (some ⟨g2, 0, none⟩) R.bs.length R.bs.length, .int .i64 k, .pointer (some ⟨g2, k, none⟩), .bool true, .bool true, .pointer (some ⟨b, 0, none⟩), .pointer (some ⟨b, 0, none⟩), .pointer (some ⟨b, 1, none⟩), .slice (some ⟨g1, 0, none⟩) R.bs.length R.bs.length, .int .i64 k, .pointer (some ⟨g1, k, none⟩), .int .u8 v, .pointer (some ⟨w.heap.size + 1, 1, none⟩), .string s, .int .i64 i, .int .u8 ((s[i]'hi).toNat : Int), .bool true, .bool true] : Array Value)[jj]?.getD undef) (tm := #[.pointer (some ⟨b, 0, none⟩), .agg #[.int .i64 off, .string s, .bool fin], .pointer (some ⟨w.heap.size, 0, none⟩), .pointer (some ⟨w.heap.size + 1, 0, none⟩), .pointer (some ⟨w.heap.size + 2, 0, none⟩), .int .i64 i, .int .i64 k, .pointer (some ⟨b, 0, none⟩), .agg #[.int .i64 off, .string s, .bool fin], .func (.func 52) #[] #[.pointer (some ⟨w.heap.size + 3, 0, none⟩), .pointer (some ⟨w.heap.size + 4, 0, none⟩)], .int .i64 i, .int .i64 k, .pointer (some ⟨b, 0, none⟩), .pointer (some ⟨b, 0, none⟩), .pointer (some ⟨b, 2, none⟩), .slice (some ⟨g2, 0, none⟩) R.bs.length R.bs.length, .int .i64 k, .pointer (some ⟨g2, k, none⟩), .bool true, .bool true, .pointer (some ⟨b, 0, none⟩), .pointer (some ⟨b, 0, none⟩), .pointer (some ⟨b, 1, none⟩), .slice (some ⟨g1, 0, none⟩) R.bs.length R.bs.length, .int .i64 k, .pointer (some ⟨g1, k, none⟩), .int .u8 v, .pointer (some ⟨w.heap.size + 1, 1, none⟩), .string s, .int .i64 i, .int .u8 ((s[i]'hi).toNat : Int), .bool true, .bool true]) rfl (by kernel_rfl) rfl (by simp) ?_ (by kernel_rfl) ?_
        · rintro j o hj ho a ⟨hold, hdep⟩
          have o2 := hold 2 (by decide)
          have o3 := hold 3 (by decide)
          have o5 := hold 5 (by decide)
          have o6 := hold 6 (by decide)
          simp at o2 o3 o5 o6
          have hjj : j = 0 ∨ j = 1 ∨ j = 2 ∨ j = 3 ∨ j = 4 ∨ j = 5 ∨ j = 6 ∨ j = 7 ∨ j = 8 ∨ j = 9 ∨ j = 10 ∨ j = 11 ∨ j = 12 ∨ j = 13 ∨ j = 14 ∨ j = 15 ∨ j = 16 ∨ j = 17 ∨ j = 18 ∨ j = 19 ∨ j = 20 := by omega
          rcases hjj with rfl | rfl | rfl | rfl | rfl | rfl | rfl | rfl | rfl | rfl | rfl | rfl | rfl | rfl | rfl | rfl | rfl | rfl | rfl | rfl | rfl
          all_goals (cases ho; simp [Region.binds] at hdep; refine ⟨rfl, fun _ hf => absurd hf (by simp [Oper.about]), ?_⟩)
          all_goals first | exact .inr ⟨(by simp [Region.wanted, yielded, hdep]; done), rfl⟩ | exact .inl ⟨(by simp [Region.wanted, yielded, hdep]; done), (by simp [go_sem, Act.eval, hdep, o2, o3, o5, o6, c0, c1, y1, y2, f1, f2, i0, i1, i2, i3, hcn]; done)⟩ | exact .inl ⟨rfl, (by simp [go_sem, Act.eval, hdep, o2, o3, o5, o6, c0, c1, y1, y2, f1, f2, i0, i1, i2, i3, hcb, hcn]; done)⟩ | exact .inl ⟨rfl, (by simp [go_sem, Act.eval, o2, o3, o5, o6, c0, c1, y1, y2, f1, f2, i0, i1, i2, i3, hcb, hcn]; done)⟩
        gi_wp2
        refine ⟨(((KeepsOthers.drew _).trans (KeepsOthers.setCell _ _ _))).from _, ⟨⟨?_, rfl, by rw [AS.out]; simp only [e.out, Bool.and_false]⟩, G.out.2.2.2.2.drew.setCell (p := ⟨w.heap.size + 2, 0, none⟩) (by simp) _⟩⟩
        exact heap_setCell_same W.drew (w.heap.size + 2) 0 _ 4 _ G.out.2.2.1
  case done =>
    rintro D ys W hD hys ⟨⟨_, _, q2, q3⟩, q4⟩ hK
    have hag : Hid (agF R.at_ R.bs R.hs off (bytesOf s) = true) := Lib.hid (by rw [← agP_whole hys]; exact q3)
    have H := Lib.hid (And.intro q2 (And.intro q4 hK))
    have c1 := at_whole q2 0 rfl
    have z1 := frozen_of_row W (w.heap.size + 2) 0 _ 4 q2
    simp only [List.getElem_toArray, List.getElem_cons_zero] at c1
    clear q2 q3 q4 hK hys
    gi_wp2
    refine ⟨by simp, .inl ⟨_, _, rfl, run_takeDeferred ((KeepsOthers.setCell _ _ _).same D _ H.out.2.2 rfl), ?_⟩⟩
    have hD2 : w.heap.size + 2 ≠ D := by omega
    have hc := at_whole ((World.putObj_heap_other (w := W.setCell ⟨w.heap.size + 2, 0, none⟩ (.bool true)) (o := .deferred none) hD2).trans (heap_setCell_same W (w.heap.size + 2) 0 _ 4 (.bool true) H.out.1)) 0 rfl
    refine ⟨.bool true, by simp [results, Tryd.f48, go_sem, hc], ?_, ?_⟩
    · rw [hag.out]
    · have hb := H.out.2.1.setCell (p := ⟨w.heap.size + 2, 0, none⟩) (by simp) (.bool true)
      exact hb.trans (belowK_b (w := w) (Nat.le_refl _) _ D _ _ (by omega) ((KeepsOthers.setCell W ⟨w.heap.size + 2, 0, none⟩ (.bool true)).same D _ H.out.2.2 rfl) rfl rfl)
  case stop =>
    rintro D c pre W hD _ ⟨⟨q1, rfl, q2⟩, q3⟩ hK
    have H := Lib.hid (And.intro q1 (And.intro (agP_bad q2) (And.intro q3 hK)))
    have c1 := at_whole q1 0 rfl
    simp only [List.getElem_toArray, List.getElem_cons_zero] at c1
    clear q1 q2 q3 hK
    gi_wp2
    refine ⟨by simp, .inl ⟨_, _, rfl, run_takeDeferred H.out.2.2.2, ?_⟩⟩
    have hD2 : w.heap.size + 2 ≠ D := by omega
    have hc := at_whole ((World.putObj_heap_other (w := W) (o := .deferred none) hD2).trans H.out.1) 0 rfl
    refine ⟨.bool false, by simp [results, Tryd.f48, go_sem, hc], ?_, ?_⟩
    · rw [H.out.2.1]
    · exact H.out.2.2.1.trans (belowK_b (w := w) (Nat.le_refl _) _ D _ _ (by omega) H.out.2.2.2 rfl rfl)
end Go.Proofs.YtpfkeohaaeiaaaaDoor.rea
