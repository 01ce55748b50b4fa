/- Texts of this claim, one behind the other: Rpq Prg Prh Lri Lrt. -/
import Derived.Test.YthckbmcmdcemkaaGreatDoorBs19
import Derived.LaidEql
import Derived.Stop.Asserts
import Derived.Stop.IfaceNil
import Derived.RowKitTokens
import Derived.Test.YthckbmcmdcemkaaGreatDoorBs17
import Derived.Test.YthckbmcmdcemkaaGreatDoorBs15
import Derived.Test.YthckbmcmdcemkaaGreatDoorBs1
import Derived.Test.YthckbmcmdcemkaaGreatDoorBs13
set_option maxRecDepth 100000
set_option maxHeartbeats 16000000
set_option linter.unusedSimpArgs false
set_option linter.unusedVariables false
namespace Go.Proofs.YthckbmcmdcemkaaGreatDoor.rea
section
open Go.RowKit Go.Extern.Stop Go.Stop Go.Extern
theorem isTypeOf (v : Value) (w : World) : (Extern.ReflectliteType.typeOf #[.iface 377 v]).run Tryz.prog w = .ok (.iface 367 (.agg #[.pointer (some ⟨4,377,none⟩)])) w:=by kernel_rfl
theorem isComparable (w : World) : ((Extern.ReflectliteType.method fun t => do Go.Extern.Rtype.noPackHeld "Comparable" t; (fun a => Value.bool a.comparable) <$> typeInfo t) #[.agg #[.pointer (some ⟨4, 377, none⟩)]]).run Tryz.prog w = .ok (.bool true) w := by kernel_rfl
theorem isComp : (Tryz.prog.info? 377).map (·.comparable) = some true:=by kernel_rfl
theorem isSize : (Tryz.prog.info? 399).map (·.size) = some 1:=by kernel_rfl
theorem is_same (a : Addr) (w : World) :
  Calls Tryz.prog 303 #[.iface 377 (.pointer (some a)),.iface 377 (.pointer (some a))] w fun e w'=>e = .returned (.bool true) ∧ w = w':=by
 obtain ⟨i,hi,hcmp⟩:=Option.map_eq_some_iff.1 isComp
 obtain ⟨j,hj,hjs⟩:=Option.map_eq_some_iff.1 isSize
 have h8:=@run_callFunc_extern Tryz.prog 322 _ Extern.ReflectliteType.typeOf Tryz.func322 (by kernel_rfl) (by kernel_rfl) (by kernel_rfl) (by kernel_rfl)
 have h32 := @run_callFunc_extern Tryz.prog 362 _ (Extern.ReflectliteType.method fun t => do Go.Extern.Rtype.noPackHeld "Comparable" t; pure (.bool (← typeInfo t).comparable)) Tryz.func362 (by kernel_rfl) (by kernel_rfl) (by kernel_rfl) (by kernel_rfl)
 have tT:=isTypeOf
 have cT:=isComparable
 have heq:=run_eql_iface_ptr_same (P:=Tryz.prog) w a Tryz.underlying170 Tryz.underlying377 hi hcmp hj
 go_enter Tryz.func303,Tryz.ntmps303
 go_wp2
 refine wp_loop_rounds 1 ?_
 rw [rounds_succ]
 go_wp2
 go_ret
 exact ⟨rfl,rfl⟩
theorem noIsE (v : Value) (xT : TypeId) (w : World) : (Instr.typeAssert (.iface 377 v) xT 369 true).run Tryz.prog w = .ok (.tuple #[.nilIface,.bool false]) w:=run_typeAssert_lacksB Tryz.underlying369 (by kernel_rfl) (by kernel_rfl) v xT w
theorem noUnwrapE (v : Value) (xT : TypeId) (w : World) : (Instr.typeAssert (.iface 377 v) xT 372 true).run Tryz.prog w = .ok (.tuple #[.nilIface,.bool false]) w:=run_typeAssert_lacksB Tryz.underlying372 (by kernel_rfl) (by kernel_rfl) v xT w
theorem noUnwrapsE (v : Value) (xT : TypeId) (w : World) : (Instr.typeAssert (.iface 377 v) xT 374 true).run Tryz.prog w = .ok (.tuple #[.nilIface,.bool false]) w:=run_typeAssert_lacksB Tryz.underlying374 (by kernel_rfl) (by kernel_rfl) v xT w
theorem is_other (a b : Addr) (ca cb : Array Value) (ta tb : TypeId) (w : World) (hne : a ≠ b) (ha : w.heap[a.block]? = some (.cells ca ta (0,0))) (hb : w.heap[b.block]? = some (.cells cb tb (0,0))) :
  Calls Tryz.prog 303 #[.iface 377 (.pointer (some a)),.iface 377 (.pointer (some b))] w fun e w'=>e = .returned (.bool false) ∧ w = w':=by
 obtain ⟨i,hi,hcmp⟩:=Option.map_eq_some_iff.1 isComp
 obtain ⟨j,hj,hjs⟩:=Option.map_eq_some_iff.1 isSize
 have h8:=@run_callFunc_extern Tryz.prog 322 _ Extern.ReflectliteType.typeOf Tryz.func322 (by kernel_rfl) (by kernel_rfl) (by kernel_rfl) (by kernel_rfl)
 have h32 := @run_callFunc_extern Tryz.prog 362 _ (Extern.ReflectliteType.method fun t => do Go.Extern.Rtype.noPackHeld "Comparable" t; pure (.bool (← typeInfo t).comparable)) Tryz.func362 (by kernel_rfl) (by kernel_rfl) (by kernel_rfl) (by kernel_rfl)
 have tT:=isTypeOf
 have cT:=isComparable
 have nE:=noIsE
 have uE:=noUnwrapE
 have vE:=noUnwrapsE
 have heq:=run_eql_iface_ptr_other (P:=Tryz.prog) w Tryz.underlying170 Tryz.underlying377 hi hcmp hj (by rw [hjs];decide) hne ha hb
 go_enter Tryz.func303,Tryz.ntmps303
 go_wp2
 refine wp_loop_rounds 1 ?_
 rw [rounds_succ]
 go_wp2
 go_ret
 exact ⟨rfl,rfl⟩
theorem errno_conflict (a0 a1 a2 a3 : Addr) (w : World) (hE : Errs w a0 a1 a2 a3) : Calls Tryz.prog 269 #[.iface 377 (.pointer (some a0))] w fun e w'=>e = .returned (.int .i64 160) ∧ w = w':=by
 have e0:=hE.e0
 have hn : Tryz.prog.isIface 170 = true:=by kernel_rfl
 have IS:=Lib.hid (is_same a0 w)
 clear hE
 go_enter Tryz.func269,Tryz.ntmps269
 go_wp2_with (go_at_call 303;refine IS.out.mono ?_;rintro e w' ⟨rfl,rfl⟩)
 go_ret
 exact ⟨rfl,rfl⟩
structure Apt (w : World) (a0 a1 : Addr) : Prop where
 ne : a0 ≠ a1
 b0 : ∃ c t,w.heap[a0.block]? = some (.cells c t (0,0))
 b1 : ∃ c t,w.heap[a1.block]? = some (.cells c t (0,0))
theorem errno_final (a0 a1 a2 a3 : Addr) (w : World) (hE : Errs w a0 a1 a2 a3) (hA : Apt w a0 a1) : Calls Tryz.prog 269 #[.iface 377 (.pointer (some a1))] w fun e w'=>e = .returned (.int .i64 161) ∧ w = w':=by
 have e0:=hE.e0
 have e1:=hE.e1
 obtain ⟨c0,t0,h0⟩:=hA.b0
 obtain ⟨c1,t1,h1⟩:=hA.b1
 have hn : Tryz.prog.isIface 170 = true:=by kernel_rfl
 have Iq:=Lib.hid (is_other a1 a0 c1 c0 t1 t0 w (Ne.symm hA.ne) h1 h0)
 have IS:=Lib.hid (is_same a1 w)
 have T1:=Lib.hid trivial
 clear hE hA h0 h1
 go_enter Tryz.func269,Tryz.ntmps269
 go_wp2_with (first | (have T0:=T1.out;clear T0 T1;go_at_call 303;refine Iq.out.mono ?_;rintro e w' ⟨rfl,rfl⟩) | (go_at_call 303;refine IS.out.mono ?_;rintro e w' ⟨rfl,rfl⟩))
 go_ret
 exact ⟨rfl,rfl⟩
theorem Apt.below {w w' : World} {a0 a1 : Addr} (h : Apt w a0 a1) (hb : Below w.heap.size w w') : Apt w' a0 a1:=by
 obtain ⟨h1,⟨c0,t0,h2⟩,⟨c1,t1,h3⟩⟩:=h
 exact ⟨h1,⟨c0,t0,heap_below hb h2⟩,⟨c1,t1,heap_below hb h3⟩⟩
theorem Put_conflict (b g1 g2 : Nat) (R : Rb) (off : Nat) (s : ByteArray) (fin : Bool) (a0 a1 a2 a3 : Addr) (w : World) (h : RbAt w b g1 g2 R) (hE : Errs w a0 a1 a2 a3) (hsz : s.size ≤ 8192) (hmx : (off : Int) + s.size ≤ 1099511627776) (hat : R.at_ ≤ 1125899906842624) (hag : agF R.at_ R.bs R.hs off (bytesOf s) = false) :
  Calls Tryz.prog 212 #[.pointer (some ⟨b,0,none⟩),.int .i64 off,.string s,.bool fin] w fun e w'=>e = .returned (.int .i64 160) ∧ Below w.heap.size w w':=by
 have P:=Lib.hid (put_ag b g1 g2 R off s fin a0 a1 a2 a3 w h hE hsz hmx hat hag)
 have ER:=Lib.hid (fun wx (hb : Below w.heap.size w wx)=>errno_conflict a0 a1 a2 a3 wx (hE.below hb))
 clear h hE hsz hmx hat hag
 unfold pcO at *
 go_enter Tryz.func212,Tryz.ntmps212
 go_wp2_with (first | (go_at_call 270;refine P.out.mono ?_;rintro e w1 ⟨rfl,hb⟩;have G:=Lib.hid hb;clear hb) | (go_at_call 269;refine (ER.out _ G.out).mono ?_;rintro e w2 ⟨rfl,rfl⟩))
 go_ret
 exact ⟨rfl,G.out⟩
theorem Put_final (b g1 g2 : Nat) (R : Rb) (off : Nat) (s : ByteArray) (fin : Bool) (a0 a1 a2 a3 : Addr) (w : World) (h : RbAt w b g1 g2 R) (hE : Errs w a0 a1 a2 a3) (hA : Apt w a0 a1) (hsz : s.size ≤ 8192) (hmx : (off : Int) + s.size ≤ 1099511627776) (hat : R.at_ ≤ 1125899906842624) (hag : agF R.at_ R.bs R.hs off (bytesOf s) = true)
  (hfn : (fin = true ∧ (off : Int) + s.size < R.hi) ∨ ((fin = true → R.hi ≤ (off : Int) + s.size) ∧ R.kn = true ∧ ((off : Int) + s.size > R.fin ∨ ((off : Int) + s.size < R.fin ∧ fin = true)))) :
  Calls Tryz.prog 212 #[.pointer (some ⟨b,0,none⟩),.int .i64 off,.string s,.bool fin] w fun e w'=>e = .returned (.int .i64 161) ∧ Below w.heap.size w w':=by
 have P:=Lib.hid (put_fin b g1 g2 R off s fin a0 a1 a2 a3 w h hE hsz hmx hat hag hfn)
 have ER:=Lib.hid (fun wx (hb : Below w.heap.size w wx)=>errno_final a0 a1 a2 a3 wx (hE.below hb) (hA.below hb))
 clear h hE hsz hmx hat hag hfn
 unfold pcO at *
 go_enter Tryz.func212,Tryz.ntmps212
 go_wp2_with (first | (go_at_call 270;refine P.out.mono ?_;rintro e w1 ⟨rfl,hb⟩;have G:=Lib.hid hb;clear hb) | (go_at_call 269;refine (ER.out _ G.out).mono ?_;rintro e w2 ⟨rfl,rfl⟩))
 go_ret
 exact ⟨rfl,G.out⟩
def finB (R : Rb) (e : Int) (fin : Bool) : Bool:=!(fin && decide (e < R.hi)) && (!R.kn || decide (e = R.fin) || (decide (e < R.fin) && !fin))
def putE (R : Rb) (off : Nat) (s : ByteArray) (fin : Bool) : Int:=if agF R.at_ R.bs R.hs off (bytesOf s) then (if finB R ((off : Int) + s.size) fin then 0 else 161) else 160
theorem Put_any (b g1 g2 : Nat) (R : Rb) (off : Nat) (s : ByteArray) (fin : Bool) (a0 a1 a2 a3 : Addr) (w : World) (h : RbAt w b g1 g2 R) (hE : Errs w a0 a1 a2 a3) (hA : Apt w a0 a1) (hsz : s.size ≤ 8192) (hmx : (off : Int) + s.size ≤ 1099511627776) (hat : R.at_ ≤ 1125899906842624) (hrm : off + s.size ≤ R.at_ + R.bs.length) :
  Calls Tryz.prog 212 #[.pointer (some ⟨b,0,none⟩),.int .i64 off,.string s,.bool fin] w fun e w'=>e = .returned (.int .i64 (putE R off s fin)) ∧ Tr b g1 g2 w w' ∧ RbAt w' b g1 g2 (if putE R off s fin = 0 then R.put off s fin else R):=by
 have hno : ∀ w',Below w.heap.size w w' → Tr b g1 g2 w w' ∧ RbAt w' b g1 g2 R:=fun w' hb=>⟨(Tr.refl b g1 g2 w).below hb,h.below hb⟩
 cases hag : agF R.at_ R.bs R.hs off (bytesOf s) with
 | false=>
  have e : putE R off s fin = 160:=by unfold putE;rw [hag];rfl
  rw [e]
  refine (Put_conflict b g1 g2 R off s fin a0 a1 a2 a3 w h hE hsz hmx hat hag).mono ?_
  rintro e w' ⟨rfl,hb⟩
  exact ⟨rfl,hno w' hb⟩
 | true=>
  cases hfb : finB R ((off : Int) + s.size) fin with
  | false=>
   have e : putE R off s fin = 161:=by unfold putE;rw [hag,hfb];rfl
   rw [e]
   refine (Put_final b g1 g2 R off s fin a0 a1 a2 a3 w h hE hA hsz hmx hat hag ?_).mono ?_
   ·unfold finB at hfb
    cases fin <;> cases hk : R.kn <;> simp [hk] at hfb ⊢ <;> omega
   ·rintro e w' ⟨rfl,hb⟩
    exact ⟨rfl,hno w' hb⟩
  | true=>
   have e : putE R off s fin = 0:=by unfold putE;rw [hag,hfb];rfl
   rw [e]
   refine (Put_ok b g1 g2 R off s fin a0 a1 a2 a3 w h hE ⟨hsz,hmx,hag,?_,?_,hrm,hat⟩).mono ?_
   ·intro hf
    unfold finB at hfb
    subst hf
    simp at hfb
    omega
   ·unfold finB at hfb
    cases fin <;> cases hk : R.kn <;> simp [hk] at hfb ⊢ <;> omega
   ·rintro e w' ⟨rfl,h1,h2⟩
    exact ⟨rfl,h1,h2⟩
end
section
open Go.RowKit
section
variable {P : Program} {ops : Array Oper} {Q : Exit → Act → World → Prop}
structure RInv2 (m : Nat) (slot : Nat → Option Nat) (val : Nat → Value) (WR : (Nat → Bool) → World → Prop) (A0 : Act) (L : Nat → Bool) (a : Act) (w : World) : Prop where
 nod : a.defers = A0.defers
 size : a.tmps.size = A0.tmps.size
 old : ∀ p,(∀ i,i < m → slot i ≠ some p) → a.tmps[p]? = A0.tmps[p]?
 new : ∀ i d,i < m → slot i = some d → L i = true → a.tmps[d]? = some (val i)
 unr : ∀ i d,i < m → slot i = some d → L i = false → a.tmps[d]? = A0.tmps[d]?
 w : WR L w
theorem any_regionR {τ : Type} (x0 : τ) {id : Nat} (m : Nat) (slot : Nat → Option Nat) (val : τ → Nat → Value) (WR : τ → (Nat → Bool) → World → Prop) {A0 : Act} {W0 : World} {tm : τ → Array Value} (hm : P.follows .mixedOrders = true) (hu : upward ops = true) (hz : ops.size = m)
  (hsl : ∀ i d,i < m → slot i = some d → d < A0.tmps.size) (hin : ∀ i j d,i < m → j < m → slot i = some d → slot j = some d → i = j) (h0 : WR x0 (fun _=>false) W0.drew)
  (hop : ∀ x i o,i < m → ops[i]? = some o → ∀ L a w,L i = false → (∀ e ∈ o.after,Region.binds .any e = true → L e.on = true) → WR x L w → GHas m slot (val x) A0 o a → (∀ i d,i < m → slot i = some d → L i = false → a.tmps[d]? = A0.tmps[d]?) → o.dst = slot i ∧ Region.wanted o (yielded ops a.tmps) = true ∧
   ∀ (K : Act → World → Prop),(∀ y w',(∀ j,L j = true → val y j = val x j) → WR y (fun j=>j == i || L j) w' → K (a.put o.dst (val y i)) w') → o.wp P a w K Q)
  (htm : ∀ x,setAll slot (val x) m A0.tmps = tm x) (h : ∀ x L w,(∀ i,i < m → L i = true) → WR x L w → Q .normal { tmps:=tm x,defers:=A0.defers } w) : (Code.region id ops true).wp P Q A0 W0:=by
 refine wp_region_inv hm hu (fun L a w=>∃ x,RInv2 m slot (val x) (WR x) A0 L a w) ⟨x0,rfl,rfl,fun _ _=>rfl,(fun _ _ _ _ h=>by cases h),fun _ _ _ _ _=>rfl,h0⟩ ?_ ?_
 ·rintro L a w i o ho hL hdep ⟨x,hI⟩
  have hi : i < m:=by have:=(Array.getElem?_eq_some_iff.1 ho).1;omega
  obtain ⟨h1,hw,h4⟩:=hop x i o hi ho L a w hL hdep hI.w ⟨hI.old,fun e he hb hlt d hd=>hI.new _ d hlt hd (hdep e he hb)⟩ hI.unr
  have key : ∀ y w',(∀ j,L j = true → val y j = val x j) → WR y (fun j=>j == i || L j) w' → RInv2 m slot (val y) (WR y) A0 (fun j=>j == i || L j) (a.put o.dst (val y i)) w':=by
   intro y w' hy hb
   rw [h1]
   cases hd : slot i with
   | none=>
    refine ⟨hI.nod,hI.size,hI.old,fun j d hj hs hl=>?_,?_,hb⟩
    ·rcases Bool.or_eq_true .. ▸ hl with e | e
     ·rw [beq_iff_eq] at e;subst e;rw [hd] at hs;cases hs
     ·rw [hy j e];exact hI.new j d hj hs e
    ·intro j d2 hj hd2 hl
     rw [Bool.or_eq_false_iff] at hl
     exact hI.unr j d2 hj hd2 hl.2
   | some d=>
    have hsi : d < a.tmps.size:=by rw [hI.size];exact hsl i d hi hd
    refine ⟨hI.nod,?_,?_,?_,?_,hb⟩
    ·show (a.tmps.setIfInBounds _ _).size = _;simpa using hI.size
    ·intro p hp
     show (a.tmps.setIfInBounds _ _)[p]? = _
     rw [Array.getElem?_setIfInBounds_ne (fun e=>hp i hi (by rw [hd,e]))]
     exact hI.old p hp
    ·intro j d2 hj hd2 hl
     show (a.tmps.setIfInBounds _ _)[d2]? = _
     by_cases hji : j = i
     ·subst hji
      rw [hd] at hd2;cases hd2
      exact Array.getElem?_setIfInBounds_self_of_lt hsi
     ·have hne : d ≠ d2:=fun e=>hji (hin j i d2 hj hi hd2 (by rw [hd,e]))
      rw [Array.getElem?_setIfInBounds_ne hne]
      rcases Bool.or_eq_true .. ▸ hl with e | e
      ·exact absurd (beq_iff_eq.1 e) hji
      ·rw [hy j e];exact hI.new j d2 hj hd2 e
    ·intro j d2 hj hd2 hl
     rw [Bool.or_eq_false_iff] at hl
     have hji : j ≠ i:=fun e=>by rw [e] at hl;simp at hl
     have hne : d ≠ d2:=fun e=>hji (hin j i d2 hj hi hd2 (by rw [hd,e]))
     show (a.tmps.setIfInBounds _ _)[d2]? = _
     rw [Array.getElem?_setIfInBounds_ne hne]
     exact hI.unr j d2 hj hd2 hl.2
  refine wpOp_step ho fun K' hK=>?_
  rw [if_pos hw]
  exact h4 _ (fun y w' hy hb=>hK _ _ ⟨y,key y w' hy hb⟩)
 ·rintro L a w hall ⟨x,hI⟩
  have ha : a = { tmps:=tm x,defers:=A0.defers }:=by
   obtain ⟨at_,ad⟩:=a
   have h1 : ad = A0.defers:=hI.nod
   have h2 : at_ = tm x:=by
    rw [← htm]
    apply Array.ext_getElem?
    intro p
    rcases setAll_get slot (val x) m A0.tmps hin (fun i d hi hd=>hsl i d hi hd) p with ⟨i,hi,hs,hv⟩ | ⟨hs,hv⟩
    ·rw [hv];exact hI.new i p hi hs (hall i (by omega))
    ·rw [hv];exact hI.old p hs
   rw [h1,h2]
  rw [ha]
  exact h x L w (fun i hi=>hall i (by omega)) hI.w
end
end
section
open Go.RowKit
section
variable {F : Fence} {n : Nat} {P : Program} {ops : Array Oper} {Q : Exit → Act → World → Prop}
theorem grow_regionIn {id : Nat} (m : Nat) (slot : Nat → Option Nat) (val : Nat → Value) {A0 : Act} {W0 : World} {tm : Array Value} (hF : ∀ f,F.fn f) (hm : P.follows .mixedOrders = true) (hu : upward ops = true) (hz : ops.size = m)
  (hsl : ∀ i d,i < m → slot i = some d → d < A0.tmps.size) (hin : ∀ i j d,i < m → j < m → slot i = some d → slot j = some d → i = j)
  (hop : ∀ i o,i < m → ops[i]? = some o → ∀ a w,Below W0.heap.size W0 w → GHas m slot val A0 o a → o.dst = slot i ∧ (slot i).isSome = true ∧
   ((Region.wanted o (yielded ops a.tmps) = true ∧ ∀ (K : Act → World → Prop),(∀ w',Below w.heap.size w w' → K (a.put o.dst (val i)) w') → o.wpIn F n P a w K Q) ∨ (Region.wanted o (yielded ops a.tmps) = false ∧ val i = undef)))
  (htm : setAll slot val m A0.tmps = tm) (h : ∀ w,Below W0.heap.size W0 w → Q .normal { tmps:=tm,defers:=A0.defers } w) : (Code.region id ops true).wpIn F n P Q A0 W0:=by
 refine wpIn_region_inv hm hu (fun L a w=>GInv m slot val A0 W0 L a w) ⟨rfl,rfl,fun _ _=>rfl,(fun _ _ _ _ h=>by cases h),(Below.refl _ W0).drew⟩ ?_ ?_
 ·rintro L a w i o ho hL hdep hI
  have hi : i < m:=by have:=(Array.getElem?_eq_some_iff.1 ho).1;omega
  obtain ⟨h1,hsm,h4⟩:=hop i o hi ho a w hI.w ⟨hI.old,fun e he hb hlt d hd=>hI.new _ d hlt hd (hdep e he hb)⟩
  obtain ⟨d,hd⟩:=Option.isSome_iff_exists.1 hsm
  have hsi : d < a.tmps.size:=by rw [hI.size];exact hsl i d hi hd
  have key : ∀ w',Below w.heap.size w w' → GInv m slot val A0 W0 (fun j=>j == i || L j) (a.put o.dst (val i)) w':=by
   intro w' hb
   rw [h1,hd]
   refine ⟨hI.nod,?_,?_,?_,hI.w.trans (hb.mono hI.w.size)⟩
   ·show (a.tmps.setIfInBounds _ _).size = _;simpa using hI.size
   ·intro p hp
    show (a.tmps.setIfInBounds _ _)[p]? = _
    rw [Array.getElem?_setIfInBounds_ne (fun e=>hp i hi (by rw [hd,e]))]
    exact hI.old p hp
   ·intro j d2 hj hd2 hl
    show (a.tmps.setIfInBounds _ _)[d2]? = _
    by_cases hji : j = i
    ·subst hji
     rw [hd] at hd2;cases hd2
     exact Array.getElem?_setIfInBounds_self_of_lt hsi
    ·have hne : d ≠ d2:=fun e=>hji (hin j i d2 hj hi hd2 (by rw [hd,e]))
     rw [Array.getElem?_setIfInBounds_ne hne]
     rcases Bool.or_eq_true .. ▸ hl with e | e
     ·exact absurd (beq_iff_eq.1 e) hji
     ·exact hI.new j d2 hj hd2 e
  refine wpOpIn_step ho fun K' hK=>?_
  rcases h4 with ⟨hw,h5⟩ | ⟨hw,h5⟩
  ·rw [if_pos hw]
   exact h5 _ (fun w' hb=>hK _ _ (key w' hb))
  ·rw [if_neg (by rw [hw];decide),← h5]
   exact ⟨fun f _=>hF f,hK _ _ (key w (Below.refl _ w))⟩
 ·rintro L a w hall hI
  have ha : a = { tmps:=tm,defers:=A0.defers }:=by
   obtain ⟨at_,ad⟩:=a
   have h1 : ad = A0.defers:=hI.nod
   have h2 : at_ = tm:=by
    rw [← htm]
    apply Array.ext_getElem?
    intro p
    rcases setAll_get slot val m A0.tmps hin (fun i d hi hd=>hsl i d hi hd) p with ⟨i,hi,hs,hv⟩ | ⟨hs,hv⟩
    ·rw [hv];exact hI.new i p hi hs (hall i (by omega))
    ·rw [hv];exact hI.old p hs
   rw [h1,h2]
  rw [ha]
  exact h w hI.w
end
end
section
open Go.RowKit
section
variable {F : Fence} {n : Nat} {P : Program} {ops : Array Oper} {Q : Exit → Act → World → Prop}
structure QInv (s m : Nat) (val : Nat → Value) (A0 : Act) (W0 : World) (R : Value → World → Prop) (L : Nat → Bool) (a : Act) (w : World) : Prop where
 nod : a.defers = A0.defers
 size : a.tmps.size = A0.tmps.size
 old : ∀ p,p < s ∨ s + m + 1 ≤ p → a.tmps[p]? = A0.tmps[p]?
 new : ∀ j,j < m → a.tmps[s + j]? = if L j then some (val j) else A0.tmps[s + j]?
 lst : (L m = true ∧ ∃ v,a.tmps[s + m]? = some v ∧ R v w) ∨ (L m = false ∧ a.tmps[s + m]? = A0.tmps[s + m]? ∧ w = W0)
theorem QInv.has {s m : Nat} {val : Nat → Value} {A0 : Act} {W0 : World} {R : Value → World → Prop} {L : Nat → Bool} {a : Act} {w : World} (h : QInv s m val A0 W0 R L a w) (hL : L m = false) {o : Oper} (hd : ∀ e ∈ o.after,Region.binds .any e = true → L e.on = true) : PHas s m val A0 o a ∧ w = W0:=by
 rcases h.lst with ⟨c,_⟩ | ⟨_,h1,h2⟩
 ·rw [hL] at c;cases c
 ·refine ⟨⟨fun p hp=>?_,fun e he hb hlt=>by rw [h.new _ hlt,hd e he hb];rfl⟩,h2⟩
  by_cases hq : p = s + m
  ·subst hq;exact h1
  ·exact h.old p (by omega)
theorem tail_region {id : Nat} (s m : Nat) (val : Nat → Value) (R : Value → World → Prop) {A0 : Act} {W0 : World} {tm : Value → Array Value} (hm : P.follows .mixedOrders = true) (hu : upward ops = true) (hc : covers ops m = true) (hz : ops.size = m + 1) (hsz : s + m + 1 ≤ A0.tmps.size)
  (hop : ∀ i o,i < m → ops[i]? = some o → ∀ a,PHas s m val A0 o a → o.dst = some (s + i) ∧ o.guard = none ∧ (∀ f,o.about P W0.drew a.eval = some f → F.fn f) ∧ (o.semAt F.round a.eval).run P W0.drew = .ok (.value (val i)) W0.drew)
  (hst : ∀ o,ops[m]? = some o → ∀ a,PHas s m val A0 o a → o.dst = some (s + m) ∧ o.guard = none ∧ ∀ K : Act → World → Prop,(∀ v w',R v w' → K (a.put o.dst v) w') → o.wpIn F n P a W0.drew K Q)
  (htm : ∀ v,((List.range m).foldl (fun t j=>t.setIfInBounds (s + j) (val j)) A0.tmps).setIfInBounds (s + m) v = tm v) (h : ∀ v w,R v w → Q .normal { tmps:=tm v,defers:=A0.defers } w) : (Code.region id ops true).wpIn F n P Q A0 W0:=by
 refine wpIn_region_inv hm hu (fun L a w=>QInv s m val A0 W0.drew R L a w ∧ ∀ j o e,L j = true → ops[j]? = some o → e ∈ o.after → Region.binds .any e = true → L e.on = true) ⟨⟨rfl,rfl,fun _ _=>rfl,fun _ _=>rfl,.inr ⟨rfl,rfl,rfl⟩⟩,fun _ _ _ h=>by cases h⟩ ?_ ?_
 ·rintro L a w i o ho hL hdep ⟨hI,hcl⟩
  have hi : i < m + 1:=by have:=(Array.getElem?_eq_some_iff.1 ho).1;omega
  have hcl' : ∀ j o' e,(j == i || L j) = true → ops[j]? = some o' → e ∈ o'.after → Region.binds .any e = true → (e.on == i || L e.on) = true:=by
   intro j o' e hj ho' he hb
   rw [Bool.or_eq_true] at hj ⊢
   rcases hj with hj | hj
   ·rw [beq_iff_eq] at hj
    subst hj
    rw [ho] at ho'
    cases ho'
    exact .inr (hdep e he hb)
   ·exact .inr (hcl j o' e hj ho' he hb)
  by_cases him : i = m
  ·subst him
   have hall : ∀ j,j < i → L j = true:=fun j hj=>all_of_last hc (fun k o' e hk ho' he hb=>by
    rcases hk with hk | rfl
    ·exact hcl k o' e hk ho' he hb
    ·rw [ho] at ho';cases ho';exact hdep e he hb) (i - j) j (by omega) (by omega)
   obtain ⟨hP,hw⟩:=hI.has hL hdep
   subst hw
   obtain ⟨h1,h2,h3⟩:=hst o ho a hP
   refine wpOpIn_step ho fun K' hK=>?_
   rw [if_pos (by simp [Region.wanted,h2])]
   refine h3 _ (fun v w' hR=>hK _ _ ⟨⟨?_,?_,?_,?_,?_⟩,hcl'⟩)
   ·rw [h1];exact hI.nod
   ·rw [h1];show (a.tmps.setIfInBounds _ _).size = _;simpa using hI.size
   ·rw [h1]
    intro p hp
    show (a.tmps.setIfInBounds _ _)[p]? = _
    rw [Array.getElem?_setIfInBounds_ne (by omega)]
    exact hI.old p hp
   ·rw [h1]
    intro j hj
    show (a.tmps.setIfInBounds _ _)[s + j]? = _
    rw [Array.getElem?_setIfInBounds_ne (by omega),hI.new j hj,hall j hj]
    simp
   ·refine .inl ⟨by simp,v,?_,hR⟩
    rw [h1]
    show (a.tmps.setIfInBounds _ _)[s + i]? = _
    exact Array.getElem?_setIfInBounds_self_of_lt (by rw [hI.size];omega)
  ·have hlt : i < m:=by omega
   have hLm : L m = false:=by
    cases e : L m with
    | false=>rfl
    | true=>
     have:=all_of_last (L:=L) hc (fun k o' e' hk ho' he hb=>by
      rcases hk with hk | rfl
      ·exact hcl k o' e' hk ho' he hb
      ·exact hcl k o' e' e ho' he hb) (m - i) i (by omega) (by omega)
     rw [this] at hL
     cases hL
   obtain ⟨hP,hw⟩:=hI.has hLm hdep
   subst hw
   obtain ⟨h1,h2,h3,h4⟩:=hop i o hlt ho a hP
   refine wpOpIn_step ho fun K' hK=>?_
   rw [if_pos (by simp [Region.wanted,h2])]
   unfold Oper.wpIn
   refine ⟨h3,?_⟩
   rw [h4]
   have hsi : s + i < a.tmps.size:=by rw [hI.size];omega
   refine hK _ _ ⟨⟨?_,?_,?_,?_,?_⟩,hcl'⟩
   ·rw [h1];exact hI.nod
   ·rw [h1];show (a.tmps.setIfInBounds _ _).size = _;simpa using hI.size
   ·rw [h1]
    intro p hp
    show (a.tmps.setIfInBounds _ _)[p]? = _
    rw [Array.getElem?_setIfInBounds_ne (by omega)]
    exact hI.old p hp
   ·rw [h1]
    intro j hj
    show (a.tmps.setIfInBounds _ _)[s + j]? = _
    by_cases hji : j = i
    ·subst hji
     rw [Array.getElem?_setIfInBounds_self_of_lt hsi]
     simp
    ·rw [Array.getElem?_setIfInBounds_ne (by omega),hI.new j hj]
     simp [hji]
   ·refine .inr ⟨by rw [hLm,Bool.or_false];exact beq_eq_false_iff_ne.2 (fun e=>him e.symm),?_,rfl⟩
    rw [h1]
    show (a.tmps.setIfInBounds _ _)[s + m]? = _
    rw [Array.getElem?_setIfInBounds_ne (by omega)]
    exact hP.old _ (by omega)
 ·rintro L a w hall ⟨hI,_⟩
  rcases hI.lst with ⟨_,v,hv,hR⟩ | ⟨c,_⟩
  ·have ha : a = { tmps:=tm v,defers:=A0.defers }:=by
    obtain ⟨at_,ad⟩:=a
    have h1 : ad = A0.defers:=hI.nod
    have h2 : at_ = tm v:=by
     rw [← htm]
     have hz : ∀ (l : List Nat) (u : Array Value),(l.foldl (fun t j=>t.setIfInBounds (s + j) (val j)) u).size = u.size:=by
      intro l
      induction l with
      | nil=>intro u;rfl
      | cons x l ih2=>intro u;rw [List.foldl_cons,ih2];simp
     apply Array.ext_getElem?
     intro p
     rw [Array.getElem?_setIfInBounds,hz,foldl_set s m val A0.tmps (by omega) p]
     by_cases hq : s + m = p
     ·subst hq
      rw [if_pos rfl,if_pos (by omega)]
      exact hv
     ·rw [if_neg hq]
      by_cases hp : s ≤ p ∧ p < s + m
      ·rw [if_pos hp]
       have:=hI.new (p - s) (by omega)
       rw [hall _ (by omega),if_pos rfl,show s + (p - s) = p by omega] at this
       exact this
      ·rw [if_neg hp]
       exact hI.old p (by omega)
    rw [h1,h2]
   rw [ha]
   exact h v w hR
  ·rw [hall m (by omega)] at c;cases c
end
end
section
open Go.RowKit
section
variable {P : Program} {ops : Array Oper} {Q : Exit → Act → World → Prop}
structure TInv (m : Nat) (slot : Nat → Option Nat) (val : Nat → Value) (WR : (Nat → Bool) → World → Prop) (A0 : Act) (L : Nat → Bool) (a : Act) (w : World) : Prop where
 nod : a.defers = A0.defers
 size : a.tmps.size = A0.tmps.size
 old : ∀ p,(∀ i,i < m → slot i ≠ some p) → a.tmps[p]? = A0.tmps[p]?
 new : ∀ i d,i < m → slot i = some d → L i = true → a.tmps[d]? = some (val i)
 w : WR L w
theorem any_regionT {τ : Type} (x0 : τ) {id : Nat} (m : Nat) (slot : Nat → Option Nat) (val : τ → Nat → Value) (WR : τ → (Nat → Bool) → World → Prop) {A0 : Act} {W0 : World} {tm : τ → Array Value} (hm : P.follows .mixedOrders = true) (hu : upward ops = true) (hz : ops.size = m)
  (hsl : ∀ i d,i < m → slot i = some d → d < A0.tmps.size) (hin : ∀ i j d,i < m → j < m → slot i = some d → slot j = some d → i = j) (h0 : WR x0 (fun _=>false) W0.drew)
  (hop : ∀ x i o,i < m → ops[i]? = some o → ∀ L a w,L i = false → (∀ e ∈ o.after,Region.binds .any e = true → L e.on = true) → WR x L w → GHas m slot (val x) A0 o a → o.dst = slot i ∧ Region.wanted o (yielded ops a.tmps) = true ∧
   ∀ (K : Act → World → Prop),(∀ y w',(∀ j,L j = true → val y j = val x j) → WR y (fun j=>j == i || L j) w' → K (a.put o.dst (val y i)) w') → o.wp P a w K Q)
  (htm : ∀ x,setAll slot (val x) m A0.tmps = tm x) (h : ∀ x L w,(∀ i,i < m → L i = true) → WR x L w → Q .normal { tmps:=tm x,defers:=A0.defers } w) : (Code.region id ops true).wp P Q A0 W0:=by
 refine wp_region_inv hm hu (fun L a w=>∃ x,TInv m slot (val x) (WR x) A0 L a w) ⟨x0,rfl,rfl,fun _ _=>rfl,(fun _ _ _ _ h=>by cases h),h0⟩ ?_ ?_
 ·rintro L a w i o ho hL hdep ⟨x,hI⟩
  have hi : i < m:=by have:=(Array.getElem?_eq_some_iff.1 ho).1;omega
  obtain ⟨h1,hw,h4⟩:=hop x i o hi ho L a w hL hdep hI.w ⟨hI.old,fun e he hb hlt d hd=>hI.new _ d hlt hd (hdep e he hb)⟩
  have key : ∀ y w',(∀ j,L j = true → val y j = val x j) → WR y (fun j=>j == i || L j) w' → TInv m slot (val y) (WR y) A0 (fun j=>j == i || L j) (a.put o.dst (val y i)) w':=by
   intro y w' hy hb
   rw [h1]
   cases hd : slot i with
   | none=>
    refine ⟨hI.nod,hI.size,hI.old,fun j d hj hs hl=>?_,hb⟩
    rcases Bool.or_eq_true .. ▸ hl with e | e
    ·rw [beq_iff_eq] at e;subst e;rw [hd] at hs;cases hs
    ·rw [hy j e];exact hI.new j d hj hs e
   | some d=>
    have hsi : d < a.tmps.size:=by rw [hI.size];exact hsl i d hi hd
    refine ⟨hI.nod,?_,?_,?_,hb⟩
    ·show (a.tmps.setIfInBounds _ _).size = _;simpa using hI.size
    ·intro p hp
     show (a.tmps.setIfInBounds _ _)[p]? = _
     rw [Array.getElem?_setIfInBounds_ne (fun e=>hp i hi (by rw [hd,e]))]
     exact hI.old p hp
    ·intro j d2 hj hd2 hl
     show (a.tmps.setIfInBounds _ _)[d2]? = _
     by_cases hji : j = i
     ·subst hji
      rw [hd] at hd2;cases hd2
      exact Array.getElem?_setIfInBounds_self_of_lt hsi
     ·have hne : d ≠ d2:=fun e=>hji (hin j i d2 hj hi hd2 (by rw [hd,e]))
      rw [Array.getElem?_setIfInBounds_ne hne]
      rcases Bool.or_eq_true .. ▸ hl with e | e
      ·exact absurd (beq_iff_eq.1 e) hji
      ·rw [hy j e];exact hI.new j d2 hj hd2 e
  refine wpOp_step ho fun K' hK=>?_
  rw [if_pos hw]
  exact h4 _ (fun y w' hy hb=>hK _ _ ⟨y,key y w' hy hb⟩)
 ·rintro L a w hall ⟨x,hI⟩
  have ha : a = { tmps:=tm x,defers:=A0.defers }:=by
   obtain ⟨at_,ad⟩:=a
   have h1 : ad = A0.defers:=hI.nod
   have h2 : at_ = tm x:=by
    rw [← htm]
    apply Array.ext_getElem?
    intro p
    rcases setAll_get slot (val x) m A0.tmps hin (fun i d hi hd=>hsl i d hi hd) p with ⟨i,hi,hs,hv⟩ | ⟨hs,hv⟩
    ·rw [hv];exact hI.new i p hi hs (hall i (by omega))
    ·rw [hv];exact hI.old p hs
   rw [h1,h2]
  rw [ha]
  exact h x L w (fun i hi=>hall i (by omega)) hI.w
end
end
end Go.Proofs.YthckbmcmdcemkaaGreatDoor.rea
