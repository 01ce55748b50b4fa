/- Texts of this claim, one behind the other: Rgw. -/
import Derived.Test.YthckbmcmdcemkaaGreatDoorBs1
import Derived.Lib.Hide
set_option maxRecDepth 100000
set_option maxHeartbeats 16000000
set_option linter.unusedSimpArgs false
set_option linter.unusedVariables false
namespace Go.Proofs.YthckbmcmdcemkaaGreatDoor.rea
set_option maxRecDepth 100000
set_option maxHeartbeats 16000000
open Go.RowKit
section
variable {P : Program} {ops : Array Oper} {Q : Exit → Act → World → Prop}
def setAll (slot : Nat → Option Nat) (val : Nat → Value) (m : Nat) (t : Array Value) : Array Value:=(List.range m).foldl (fun t i=>match slot i with | some d=>t.setIfInBounds d (val i) | none=>t) t
theorem setAll_succ (slot : Nat → Option Nat) (val : Nat → Value) (m : Nat) (t : Array Value) : setAll slot val (m + 1) t = (match slot m with | some d=>(setAll slot val m t).setIfInBounds d (val m) | none=>setAll slot val m t):=by
 unfold setAll
 rw [List.range_succ,List.foldl_append]
 rfl
theorem setAll_size (slot : Nat → Option Nat) (val : Nat → Value) (m : Nat) (t : Array Value) : (setAll slot val m t).size = t.size:=by
 induction m with
 | zero=>rfl
 | succ m ih=>
  rw [setAll_succ]
  cases slot m with
  | none=>exact ih
  | some d=>simpa using ih
theorem setAll_get (slot : Nat → Option Nat) (val : Nat → Value) (m : Nat) (t : Array Value) (hin : ∀ i j d,i < m → j < m → slot i = some d → slot j = some d → i = j) (hz : ∀ i d,i < m → slot i = some d → d < t.size) (p : Nat) :
  (∃ i,i < m ∧ slot i = some p ∧ (setAll slot val m t)[p]? = some (val i)) ∨ ((∀ i,i < m → slot i ≠ some p) ∧ (setAll slot val m t)[p]? = t[p]?):=by
 induction m with
 | zero=>exact .inr ⟨fun i hi=>absurd hi (Nat.not_lt_zero i),rfl⟩
 | succ m ih=>
  have ih:=ih (fun i j d hi hj=>hin i j d (by omega) (by omega)) (fun i d hi=>hz i d (by omega))
  rw [setAll_succ]
  cases hs : slot m with
  | none=>
   rcases ih with ⟨i,hi,h1,h2⟩ | ⟨h1,h2⟩
   ·exact .inl ⟨i,by omega,h1,h2⟩
   ·refine .inr ⟨fun i hi=>?_,h2⟩
    by_cases e : i = m
    ·subst e;rw [hs];intro h;cases h
    ·exact h1 i (by omega)
  | some d=>
   have hd:=hz m d (by omega) hs
   by_cases e : d = p
   ·subst e
    exact .inl ⟨m,by omega,hs,Array.getElem?_setIfInBounds_self_of_lt (by rw [setAll_size];exact hd)⟩
   ·show (∃ i,i < m + 1 ∧ slot i = some p ∧ (Array.setIfInBounds _ _ _)[p]? = _) ∨ (_ ∧ (Array.setIfInBounds _ _ _)[p]? = _)
    rw [Array.getElem?_setIfInBounds_ne e]
    rcases ih with ⟨i,hi,h1,h2⟩ | ⟨h1,h2⟩
    ·exact .inl ⟨i,by omega,h1,h2⟩
    ·refine .inr ⟨fun i hi=>?_,h2⟩
     by_cases e2 : i = m
     ·subst e2;rw [hs];intro h;cases h;exact e rfl
     ·exact h1 i (by omega)
structure GInv (m : Nat) (slot : Nat → Option Nat) (val : Nat → Value) (A0 : Act) (W0 : World) (L : Nat → Bool) (a : Act) (w : World) : Prop where
 nod : a.defers = A0.defers
 size : a.tmps.size = A0.tmps.size
 old : ∀ p,(∀ i,i < m → slot i ≠ some p) → a.tmps[p]? = A0.tmps[p]?
 new : ∀ i d,i < m → slot i = some d → L i = true → a.tmps[d]? = some (val i)
 w : Below W0.heap.size W0 w
structure GHas (m : Nat) (slot : Nat → Option Nat) (val : Nat → Value) (A0 : Act) (o : Oper) (a : Act) : Prop where
 old : ∀ p,(∀ i,i < m → slot i ≠ some p) → a.tmps[p]? = A0.tmps[p]?
 dep : ∀ e ∈ o.after,Region.binds .any e = true → e.on < m → ∀ d,slot e.on = some d → a.tmps[d]? = some (val e.on)
theorem grow_region {id : Nat} (m : Nat) (slot : Nat → Option Nat) (val : Nat → Value) {A0 : Act} {W0 : World} {tm : Array Value} (hm : P.follows .mixedOrders = true) (hu : upward ops = true) (hz : ops.size = m)
  (hsl : ∀ i d,i < m → slot i = some d → d < A0.tmps.size) (hin : ∀ i j d,i < m → j < m → slot i = some d → slot j = some d → i = j)
  (hop : ∀ i o,i < m → ops[i]? = some o → ∀ a w,Below W0.heap.size W0 w → GHas m slot val A0 o a → o.dst = slot i ∧ (slot i).isSome = true ∧
   ((Region.wanted o (yielded ops a.tmps) = true ∧ ∀ (K : Act → World → Prop),(∀ w',Below w.heap.size w w' → K (a.put o.dst (val i)) w') → o.wp P a w K Q) ∨ (Region.wanted o (yielded ops a.tmps) = false ∧ val i = undef)))
  (htm : setAll slot val m A0.tmps = tm) (h : ∀ w,Below W0.heap.size W0 w → Q .normal { tmps:=tm,defers:=A0.defers } w) : (Code.region id ops true).wp P Q A0 W0:=by
 refine wp_region_inv hm hu (fun L a w=>GInv m slot val A0 W0 L a w) ⟨rfl,rfl,fun _ _=>rfl,(fun _ _ _ _ h=>by cases h),(Below.refl _ W0).drew⟩ ?_ ?_
 ·rintro L a w i o ho hL hdep hI
  have hi : i < m:=by have:=(Array.getElem?_eq_some_iff.1 ho).1;omega
  obtain ⟨h1,hsm,h4⟩:=hop i o hi ho a w hI.w ⟨hI.old,fun e he hb hlt d hd=>hI.new _ d hlt hd (hdep e he hb)⟩
  obtain ⟨d,hd⟩:=Option.isSome_iff_exists.1 hsm
  have hsi : d < a.tmps.size:=by rw [hI.size];exact hsl i d hi hd
  have key : ∀ w',Below w.heap.size w w' → GInv m slot val A0 W0 (fun j=>j == i || L j) (a.put o.dst (val i)) w':=by
   intro w' hb
   rw [h1,hd]
   refine ⟨hI.nod,?_,?_,?_,hI.w.trans (hb.mono hI.w.size)⟩
   ·show (a.tmps.setIfInBounds _ _).size = _;simpa using hI.size
   ·intro p hp
    show (a.tmps.setIfInBounds _ _)[p]? = _
    rw [Array.getElem?_setIfInBounds_ne (fun e=>hp i hi (by rw [hd,e]))]
    exact hI.old p hp
   ·intro j d2 hj hd2 hl
    show (a.tmps.setIfInBounds _ _)[d2]? = _
    by_cases hji : j = i
    ·subst hji
     rw [hd] at hd2;cases hd2
     exact Array.getElem?_setIfInBounds_self_of_lt hsi
    ·have hne : d ≠ d2:=fun e=>hji (hin j i d2 hj hi hd2 (by rw [hd,e]))
     rw [Array.getElem?_setIfInBounds_ne hne]
     rcases Bool.or_eq_true .. ▸ hl with e | e
     ·exact absurd (beq_iff_eq.1 e) hji
     ·exact hI.new j d2 hj hd2 e
  refine wpOp_step ho fun K' hK=>?_
  rcases h4 with ⟨hw,h5⟩ | ⟨hw,h5⟩
  ·rw [if_pos hw]
   exact h5 _ (fun w' hb=>hK _ _ (key w' hb))
  ·rw [if_neg (by rw [hw];decide),← h5]
   exact hK _ _ (key w (Below.refl _ w))
 ·rintro L a w hall hI
  have ha : a = { tmps:=tm,defers:=A0.defers }:=by
   obtain ⟨at_,ad⟩:=a
   have h1 : ad = A0.defers:=hI.nod
   have h2 : at_ = tm:=by
    rw [← htm]
    apply Array.ext_getElem?
    intro p
    rcases setAll_get slot val m A0.tmps hin (fun i d hi hd=>hsl i d hi hd) p with ⟨i,hi,hs,hv⟩ | ⟨hs,hv⟩
    ·rw [hv];exact hI.new i p hi hs (hall i (by omega))
    ·rw [hv];exact hI.old p hs
   rw [h1,h2]
  rw [ha]
  exact h w hI.w
end
end Go.Proofs.YthckbmcmdcemkaaGreatDoor.rea
namespace Go.Proofs.YthckbmcmdcemkaaGreatDoor.rea
def slotG (s n x i : Nat) : Option Nat:=if i < n then some (s + i) else if i = n then some x else none
theorem slotG_is {s n x i d : Nat} (h : slotG s n x i = some d) : (i < n ∧ d = s + i) ∨ (i = n ∧ d = x):=by
 unfold slotG at h
 split at h
 ·cases h;exact .inl ⟨‹_›,rfl⟩
 ·split at h
  ·cases h;exact .inr ⟨‹_›,rfl⟩
  ·cases h
end Go.Proofs.YthckbmcmdcemkaaGreatDoor.rea
