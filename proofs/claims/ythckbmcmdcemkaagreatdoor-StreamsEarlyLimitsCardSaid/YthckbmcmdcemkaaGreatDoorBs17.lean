/- Texts of this claim, one behind the other: Rga Rph Rpi Rpj Rpk Rta. -/
import Derived.Test.YthckbmcmdcemkaaGreatDoorBs15
import Derived.Test.YthckbmcmdcemkaaGreatDoorBs13
import Derived.Test.YthckbmcmdcemkaaGreatDoorBs14
import Derived.Test.YthckbmcmdcemkaaGreatDoorBs16
import Derived.Lib.SliceRun
import Derived.Laws.BytesArg
import Derived.Laws.CopyRow
set_option maxRecDepth 100000
set_option maxHeartbeats 16000000
set_option linter.unusedSimpArgs false
set_option linter.unusedVariables false
namespace Go.Proofs.YthckbmcmdcemkaaGreatDoor.rea
set_option maxRecDepth 100000
set_option maxHeartbeats 16000000
open Go.RowKit
section
variable {P : Program} {ops : Array Oper} {Q : Exit → Act → World → Prop}
structure AInv (m : Nat) (slot : Nat → Option Nat) (val : Nat → Value) (WR : (Nat → Bool) → World → Prop) (A0 : Act) (L : Nat → Bool) (a : Act) (w : World) : Prop where
 nod : a.defers = A0.defers
 size : a.tmps.size = A0.tmps.size
 old : ∀ p,(∀ i,i < m → slot i ≠ some p) → a.tmps[p]? = A0.tmps[p]?
 new : ∀ i d,i < m → slot i = some d → L i = true → a.tmps[d]? = some (val i)
 w : WR L w
theorem any_region {id : Nat} (m : Nat) (slot : Nat → Option Nat) (val : Nat → Value) (WR : (Nat → Bool) → World → Prop) {A0 : Act} {W0 : World} {tm : Array Value} (hm : P.follows .mixedOrders = true) (hu : upward ops = true) (hz : ops.size = m)
  (hsl : ∀ i d,i < m → slot i = some d → d < A0.tmps.size) (hin : ∀ i j d,i < m → j < m → slot i = some d → slot j = some d → i = j) (h0 : WR (fun _=>false) W0.drew)
  (hop : ∀ i o,i < m → ops[i]? = some o → ∀ L a w,L i = false → (∀ e ∈ o.after,Region.binds .any e = true → L e.on = true) → WR L w → GHas m slot val A0 o a → o.dst = slot i ∧
   ((Region.wanted o (yielded ops a.tmps) = true ∧ ∀ (K : Act → World → Prop),(∀ w',WR (fun j=>j == i || L j) w' → K (a.put o.dst (val i)) w') → o.wp P a w K Q) ∨ (Region.wanted o (yielded ops a.tmps) = false ∧ val i = undef ∧ WR (fun j=>j == i || L j) w)))
  (htm : setAll slot val m A0.tmps = tm) (h : ∀ L w,(∀ i,i < m → L i = true) → WR L w → Q .normal { tmps:=tm,defers:=A0.defers } w) : (Code.region id ops true).wp P Q A0 W0:=by
 refine wp_region_inv hm hu (fun L a w=>AInv m slot val WR A0 L a w) ⟨rfl,rfl,fun _ _=>rfl,(fun _ _ _ _ h=>by cases h),h0⟩ ?_ ?_
 ·rintro L a w i o ho hL hdep hI
  have hi : i < m:=by have:=(Array.getElem?_eq_some_iff.1 ho).1;omega
  obtain ⟨h1,h4⟩:=hop i o hi ho L a w hL hdep hI.w ⟨hI.old,fun e he hb hlt d hd=>hI.new _ d hlt hd (hdep e he hb)⟩
  have key : ∀ w',WR (fun j=>j == i || L j) w' → AInv m slot val WR A0 (fun j=>j == i || L j) (a.put o.dst (val i)) w':=by
   intro w' hb
   rw [h1]
   cases hd : slot i with
   | none=>
    refine ⟨hI.nod,hI.size,hI.old,fun j d hj hs hl=>?_,hb⟩
    rcases Bool.or_eq_true .. ▸ hl with e | e
    ·rw [beq_iff_eq] at e;subst e;rw [hd] at hs;cases hs
    ·exact hI.new j d hj hs e
   | some d=>
    have hsi : d < a.tmps.size:=by rw [hI.size];exact hsl i d hi hd
    refine ⟨hI.nod,?_,?_,?_,hb⟩
    ·show (a.tmps.setIfInBounds _ _).size = _;simpa using hI.size
    ·intro p hp
     show (a.tmps.setIfInBounds _ _)[p]? = _
     rw [Array.getElem?_setIfInBounds_ne (fun e=>hp i hi (by rw [hd,e]))]
     exact hI.old p hp
    ·intro j d2 hj hd2 hl
     show (a.tmps.setIfInBounds _ _)[d2]? = _
     by_cases hji : j = i
     ·subst hji
      rw [hd] at hd2;cases hd2
      exact Array.getElem?_setIfInBounds_self_of_lt hsi
     ·have hne : d ≠ d2:=fun e=>hji (hin j i d2 hj hi hd2 (by rw [hd,e]))
      rw [Array.getElem?_setIfInBounds_ne hne]
      rcases Bool.or_eq_true .. ▸ hl with e | e
      ·exact absurd (beq_iff_eq.1 e) hji
      ·exact hI.new j d2 hj hd2 e
  refine wpOp_step ho fun K' hK=>?_
  rcases h4 with ⟨hw,h5⟩ | ⟨hw,h5,h6⟩
  ·rw [if_pos hw]
   exact h5 _ (fun w' hb=>hK _ _ (key w' hb))
  ·rw [if_neg (by rw [hw];decide),← h5]
   exact hK _ _ (key w h6)
 ·rintro L a w hall hI
  have ha : a = { tmps:=tm,defers:=A0.defers }:=by
   obtain ⟨at_,ad⟩:=a
   have h1 : ad = A0.defers:=hI.nod
   have h2 : at_ = tm:=by
    rw [← htm]
    apply Array.ext_getElem?
    intro p
    rcases setAll_get slot val m A0.tmps hin (fun i d hi hd=>hsl i d hi hd) p with ⟨i,hi,hs,hv⟩ | ⟨hs,hv⟩
    ·rw [hv];exact hI.new i p hi hs (hall i (by omega))
    ·rw [hv];exact hI.old p hs
   rw [h1,h2]
  rw [ha]
  exact h L w (fun i hi=>hall i (by omega)) hI.w
end
end Go.Proofs.YthckbmcmdcemkaaGreatDoor.rea
namespace Go.Proofs.YthckbmcmdcemkaaGreatDoor.rea
def slotN (s n i : Nat) : Option Nat:=if i < n then some (s + i) else none
theorem slotN_is {s n i d : Nat} (h : slotN s n i = some d) : i < n ∧ d = s + i:=by
 unfold slotN at h
 split at h
 ·cases h;exact ⟨‹_›,rfl⟩
 ·cases h
end Go.Proofs.YthckbmcmdcemkaaGreatDoor.rea
namespace Go.Proofs.YthckbmcmdcemkaaGreatDoor.rea
section
open Go.RowKit
structure Errs (w : World) (a0 a1 a2 a3 : Addr) : Prop where
 e0 : w.cell? ⟨0,0,none⟩ = some (.iface 377 (.pointer (some a0)))
 e1 : w.cell? ⟨1,0,none⟩ = some (.iface 377 (.pointer (some a1)))
 e2 : w.cell? ⟨2,0,none⟩ = some (.iface 377 (.pointer (some a2)))
 e3 : w.cell? ⟨3,0,none⟩ = some (.iface 377 (.pointer (some a3)))
theorem Errs.below {w w' : World} {a0 a1 a2 a3 : Addr} (h : Errs w a0 a1 a2 a3) (hb : Below w.heap.size w w') : Errs w' a0 a1 a2 a3:=
 ⟨(hb.cell (World.block_lt_of_cell? _ _ h.e0)).trans h.e0,(hb.cell (World.block_lt_of_cell? _ _ h.e1)).trans h.e1,(hb.cell (World.block_lt_of_cell? _ _ h.e2)).trans h.e2,(hb.cell (World.block_lt_of_cell? _ _ h.e3)).trans h.e3⟩
def ckC (b B : Nat) (a0 a1 a2 a3 : Addr) : Array Value:=#[.func (.func 324) #[] #[],.iface 377 (.pointer (some a3)),.func (.func 325) #[.pointer (some ⟨b,0,none⟩)] #[],.iface 377 (.pointer (some a0)),.func (.func 326) #[.pointer (some ⟨b,0,none⟩)] #[],.iface 377 (.pointer (some a1)),.func (.func 327) #[] #[.pointer (some ⟨B,0,none⟩)],.iface 377 (.pointer (some a2))]
theorem below_setRow2 {w W : World} (h : Below w.heap.size w W) {r : Nat} (hr : w.heap.size ≤ r) (cs : Array Value) : Below w.heap.size w (W.setRow r cs):=
 ⟨h.os,h.tape,h.output,by simpa using h.size,fun k hk=>(setRow_other W r k cs (by omega)).trans (h.block k hk)⟩
theorem results_cell1 {P : Program} {fn : Func} {p : Tmp} {ty : TypeId} (h : fn.results = #[.cell p ty]) (tmps : Array Value) (w : World) (g : Nat) (t : TypeId) (cs : Array Value) (fr : Nat × Nat) (d : TypeDesc)
  (hp : tmps.getD p undef = .pointer (some ⟨g,0,none⟩)) (hg : w.heap[g]? = some (.cells cs t fr))
  (hu : P.underlying ty = some d) (hd : (match d with | .struct _ | .array _ _=>true | _=>false) = true) (hi : (P.info? ty).map (·.size) = some cs.size) :
  (results fn tmps).run P w = .ok (.agg cs) w:=by
 have hp' : tmps[p]?.getD undef = .pointer (some ⟨g,0,none⟩):=by simpa using hp
 simp [results,h,hp',asAddr,run_loadVar_row w g t ty cs fr d hg hu hd hi]
theorem checks_any (b : Nat) (a0 a1 a2 a3 : Addr) (w : World) (h : Errs w a0 a1 a2 a3) :
  Calls Tryz.prog 304 #[.pointer (some ⟨b,0,none⟩)] w fun e w'=>e = .returned (.agg (ckC b w.heap.size a0 a1 a2 a3)) ∧ Below w.heap.size w w' ∧ w'.heap[w.heap.size]? = some (.cells #[.pointer (some ⟨b,0,none⟩)] 153 (0,0)):=by
 obtain ⟨e0,e1,e2,e3⟩:=h
 have hmf : ∀ (fn : Fn) (first cap : Array Value) (w : World),(Instr.makeFunc fn first cap).run Tryz.prog w = .ok (.func fn first cap) w:=fun _ _ _ _=>rfl
 go_enter Tryz.func304,Tryz.ntmps304
 go_wp2_with fail
 have X:=Lib.hid (box2 w (.cells #[.pointer (some ⟨b,0,none⟩)] 153) (.cells #[.nilFunc,.nilIface,.nilFunc,.nilIface,.nilFunc,.nilIface,.nilFunc,.nilIface] 337))
 have OL : Hid (∀ p v,w.cell? p = some v → ((w.alloc (.cells #[.pointer (some ⟨b,0,none⟩)] 153)).alloc (.cells #[.nilFunc,.nilIface,.nilFunc,.nilIface,.nilFunc,.nilIface,.nilFunc,.nilIface] 337)).cell? p = some v):=Lib.hid (fun p v hv=>cell_al _ (cell_al _ hv))
 have e0:=OL.out _ _ e0
 have e1:=OL.out _ _ e1
 have e2:=OL.out _ _ e2
 have e3:=OL.out _ _ e3
 generalize (w.alloc _).alloc _ = V at X OL e0 e1 e2 e3 ⊢
 have c0:=at_whole X.out.1 0 rfl
 simp only [List.getElem_toArray,List.getElem_cons_zero] at c0
 have ON : Hid ((ckC b w.heap.size a0 a1 a2 a3).all (·.oneCell') = true):=Lib.hid (by simp [ckC,Value.oneCell'])
 have size337 : (Tryz.prog.info? 337).map (·.size) = some 8:=by kernel_rfl
 have S91:=Lib.hid size337
 unfold ckC at *
 clear OL size337
 refine any_region 17 (slotN 3 16) (fun jj=>(#[.iface 377 (.pointer (some a3)),.agg #[.func (.func 324) #[] #[],.iface 377 (.pointer (some a3))],.pointer (some ⟨b,0,none⟩),.pointer (some ⟨b,0,none⟩),.pointer (some ⟨b,0,none⟩),.func (.func 325) #[.pointer (some ⟨b,0,none⟩)] #[],.iface 377 (.pointer (some a0)),.agg #[.func (.func 325) #[.pointer (some ⟨b,0,none⟩)] #[],.iface 377 (.pointer (some a0))],.pointer (some ⟨b,0,none⟩),.func (.func 326) #[.pointer (some ⟨b,0,none⟩)] #[],.iface 377 (.pointer (some a1)),.agg #[.func (.func 326) #[.pointer (some ⟨b,0,none⟩)] #[],.iface 377 (.pointer (some a1))],.func (.func 327) #[] #[.pointer (some ⟨w.heap.size,0,none⟩)],.iface 377 (.pointer (some a2)),.agg #[.func (.func 327) #[] #[.pointer (some ⟨w.heap.size,0,none⟩)],.iface 377 (.pointer (some a2))],.agg #[.func (.func 324) #[] #[],.iface 377 (.pointer (some a3)),.func (.func 325) #[.pointer (some ⟨b,0,none⟩)] #[],.iface 377 (.pointer (some a0)),.func (.func 326) #[.pointer (some ⟨b,0,none⟩)] #[],.iface 377 (.pointer (some a1)),.func (.func 327) #[] #[.pointer (some ⟨w.heap.size,0,none⟩)],.iface 377 (.pointer (some a2))]] : Array Value)[jj]?.getD undef) (tm:=#[.pointer (some ⟨b,0,none⟩),.pointer (some ⟨w.heap.size,0,none⟩),.pointer (some ⟨w.heap.size + 1,0,none⟩),.iface 377 (.pointer (some a3)),.agg #[.func (.func 324) #[] #[],.iface 377 (.pointer (some a3))],.pointer (some ⟨b,0,none⟩),.pointer (some ⟨b,0,none⟩),.pointer (some ⟨b,0,none⟩),.func (.func 325) #[.pointer (some ⟨b,0,none⟩)] #[],.iface 377 (.pointer (some a0)),.agg #[.func (.func 325) #[.pointer (some ⟨b,0,none⟩)] #[],.iface 377 (.pointer (some a0))],.pointer (some ⟨b,0,none⟩),.func (.func 326) #[.pointer (some ⟨b,0,none⟩)] #[],.iface 377 (.pointer (some a1)),.agg #[.func (.func 326) #[.pointer (some ⟨b,0,none⟩)] #[],.iface 377 (.pointer (some a1))],.func (.func 327) #[] #[.pointer (some ⟨w.heap.size,0,none⟩)],.iface 377 (.pointer (some a2)),.agg #[.func (.func 327) #[] #[.pointer (some ⟨w.heap.size,0,none⟩)],.iface 377 (.pointer (some a2))],.agg #[.func (.func 324) #[] #[],.iface 377 (.pointer (some a3)),.func (.func 325) #[.pointer (some ⟨b,0,none⟩)] #[],.iface 377 (.pointer (some a0)),.func (.func 326) #[.pointer (some ⟨b,0,none⟩)] #[],.iface 377 (.pointer (some a1)),.func (.func 327) #[] #[.pointer (some ⟨w.heap.size,0,none⟩)],.iface 377 (.pointer (some a2))]])
  (fun L w'=>(L 16 = false ∧ w' = V.drew) ∨ (L 16 = true ∧ (∀ j,j < 16 → L j = true) ∧ w'.heap[w.heap.size + 1]? = some (.cells #[.func (.func 324) #[] #[],.iface 377 (.pointer (some a3)),.func (.func 325) #[.pointer (some ⟨b,0,none⟩)] #[],.iface 377 (.pointer (some a0)),.func (.func 326) #[.pointer (some ⟨b,0,none⟩)] #[],.iface 377 (.pointer (some a1)),.func (.func 327) #[] #[.pointer (some ⟨w.heap.size,0,none⟩)],.iface 377 (.pointer (some a2))] 337 (0,0)) ∧ w'.heap[w.heap.size]? = some (.cells #[.pointer (some ⟨b,0,none⟩)] 153 (0,0)) ∧ Below w.heap.size w w'))
  rfl (by kernel_rfl) rfl (fun i d _ h=>by have:=slotN_is h;simp;omega) (fun i j d _ _ h1 h2=>by have:=slotN_is h1;have:=slotN_is h2;omega) (.inl ⟨rfl,rfl⟩) ?_ (by kernel_rfl) ?_
 ·rintro j o hj ho L a w1 hLj hdl hW ⟨hold,hdep⟩
  have o1:=hold 1 (fun i hi h=>by have:=slotN_is h;omega)
  have o2:=hold 2 (fun i hi h=>by have:=slotN_is h;omega)
  simp at o1 o2
  by_cases hj16 : j = 16
  ·subst hj16
   rcases hW with ⟨_,rfl⟩ | ⟨h,_⟩
   ·cases ho
    simp [Region.binds,slotN] at hdep hdl
    refine ⟨rfl,.inl ⟨rfl,fun K hK=>?_⟩⟩
    refine wp_store_row 337 (.tmp 2) (.tmp 18) rfl (w.heap.size + 1) (#[.func (.func 324) #[] #[],.iface 377 (.pointer (some a3)),.func (.func 325) #[.pointer (some ⟨b,0,none⟩)] #[],.iface 377 (.pointer (some a0)),.func (.func 326) #[.pointer (some ⟨b,0,none⟩)] #[],.iface 377 (.pointer (some a1)),.func (.func 327) #[] #[.pointer (some ⟨w.heap.size,0,none⟩)],.iface 377 (.pointer (some a2))]) (by simp [Act.eval,o2]) (by simp [Act.eval,hdep]) 337 _ (show V.drew.heap[w.heap.size + 1]? = _ from X.out.2.1) S91.out rfl (by exact ON.out) (hK _ (.inr ⟨rfl,fun j hj=>?_,setRow_heap V.drew _ _ _ 337 _ X.out.2.1,(setRow_other V.drew (w.heap.size + 1) w.heap.size _ (by omega)).trans X.out.1,below_setRow2 X.out.2.2.1.drew (Nat.le_succ _) _⟩))
    have hjj : j = 0 ∨ j = 1 ∨ j = 2 ∨ j = 3 ∨ j = 4 ∨ j = 5 ∨ j = 6 ∨ j = 7 ∨ j = 8 ∨ j = 9 ∨ j = 10 ∨ j = 11 ∨ j = 12 ∨ j = 13 ∨ j = 14 ∨ j = 15:=by omega
    rcases hjj with rfl | rfl | rfl | rfl | rfl | rfl | rfl | rfl | rfl | rfl | rfl | rfl | rfl | rfl | rfl | rfl <;> simp [hdl]
   ·rw [h] at hLj;cases hLj
  ·rcases hW with ⟨hL16,rfl⟩ | ⟨_,h,_⟩
   ·have hWK : (fun j'=>j' == j || L j') 16 = false:=by simp [hL16];omega
    have hjj : j = 0 ∨ j = 1 ∨ j = 2 ∨ j = 3 ∨ j = 4 ∨ j = 5 ∨ j = 6 ∨ j = 7 ∨ j = 8 ∨ j = 9 ∨ j = 10 ∨ j = 11 ∨ j = 12 ∨ j = 13 ∨ j = 14 ∨ j = 15:=by omega
    rcases hjj with rfl | rfl | rfl | rfl | rfl | rfl | rfl | rfl | rfl | rfl | rfl | rfl | rfl | rfl | rfl | rfl
    all_goals (cases ho;simp [Region.binds,slotN] at hdep;refine ⟨rfl,.inl ⟨rfl,fun K hK=>?_⟩⟩;unfold Oper.wp;first | (simp [execOp,Oper.upon,go_sem,Act.eval,hdep,o1,c0,e0,e1,e2,e3];exact hK _ (.inl ⟨hWK,rfl⟩)) | (simp [execOp,Oper.upon,go_sem,Act.eval,o1,o2,c0,e0,e1,e2,e3,hmf];exact hK _ (.inl ⟨hWK,rfl⟩)))
   ·rw [h j (by omega)] at hLj;cases hLj
 ·rintro L w2 hall (⟨h,_⟩ | ⟨_,_,h1,h2,h3⟩)
  ·rw [hall 16 (by omega)] at h;cases h
  ·have G:=Lib.hid (And.intro h1 (And.intro h2 h3))
   clear h1 h2 h3
   go_wp2
   refine bodyPost_ret (results_cell1 rfl _ _ _ 337 _ (0,0) _ rfl G.out.1 Tryz.underlying337 rfl S91.out) rfl ⟨rfl,G.out.2.2,G.out.2.1⟩
end
section
open Go.RowKit
theorem ck1_ok (off : Nat) (s : ByteArray) (fin : Bool) (w : World) (hs : s.size ≤ 8192) (he : (off : Int) + s.size ≤ 1099511627776) :
  Calls Tryz.prog 324 #[.agg (pcO off s fin)] w fun e w'=>e = .returned (.bool true) ∧ Below w.heap.size w w':=by
 have X:=Lib.hid (box1 w (.cells (pcO off s fin) 309))
 have EN:=Lib.hid (fun wx=>(end_any off s fin wx (by omega)).mono (fun e w' h=>(⟨h.1,by rw [h.2];exact (Below.refl _ wx).alloc (Nat.le_refl _) _⟩ : e = _ ∧ Below wx.heap.size wx w')))
 have d0 : (0 : Int) ≤ (off : Int):=by omega
 have d1 : (off : Int) ≤ 1099511627776:=by omega
 have d2 : (s.size : Int) ≤ 8192:=by omega
 have d3 : decide ((off : Int) ≥ 0) = true:=decide_eq_true (by omega)
 have d4 : decide ((off : Int) ≤ 1099511627776) = true:=decide_eq_true (by omega)
 have d5 : decide ((s.size : Int) ≤ 8192) = true:=decide_eq_true (by omega)
 have d6 : decide ((off : Int) + s.size ≤ 1099511627776) = true:=decide_eq_true he
 unfold pcO at *
 go_enter Tryz.func324,Tryz.ntmps324
 go_wp2_with (go_at_call 306;refine (EN.out _).mono ?_;rintro e' w' ⟨rfl,hb'⟩)
 go_ret
 exact ⟨rfl,X.out.2.1.trans (hb'.mono (by rw [X.out.2.2];omega))⟩
theorem btr2 {a b c : World} (h : Below a.heap.size a b) (k : Below b.heap.size b c) : Below a.heap.size a c:=h.trans (k.mono h.size)
theorem ck4_ok (b g1 g2 B : Nat) (R : Rb) (off : Nat) (s : ByteArray) (fin : Bool) (w : World) (h : RbAt w b g1 g2 R) (hB : w.heap[B]? = some (.cells #[.pointer (some ⟨b,0,none⟩)] 153 (0,0))) (hs : s.size ≤ 8192) (ha : R.at_ ≤ 1125899906842624) (he : off + s.size ≤ R.at_ + R.bs.length) :
  Calls Tryz.prog 327 #[.agg (pcO off s fin),.pointer (some ⟨B,0,none⟩)] w fun e w'=>e = .returned (.bool true) ∧ Below w.heap.size w w':=by
 have hsm:=h.sm
 obtain ⟨c0,c1,-,-,-,-⟩:=h.cells
 have cB:=at_whole hB 0 rfl
 simp only [List.getElem_toArray,List.getElem_cons_zero] at cB
 have X:=Lib.hid (box1 w (.cells (pcO off s fin) 309))
 have EB:=Lib.hid (fun wx=>(end_any off s fin wx (by omega)).mono (fun e w' h=>(⟨h.1,by rw [h.2];exact (Below.refl _ wx).alloc (Nat.le_refl _) _⟩ : e = _ ∧ Below wx.heap.size wx w')))
 unfold pcO at *
 obtain ⟨V,hV⟩ : ∃ V,V = w.alloc (.cells #[.int .i64 off,.string s,.bool fin] 309):=⟨_,rfl⟩
 have b0 : V.cell? ⟨b,0,none⟩ = some (.int .i64 R.at_):=by rw [hV];exact cell_al _ c0
 have b1 : V.cell? ⟨b,1,none⟩ = some (.slice (some ⟨g1,0,none⟩) R.bs.length R.bs.length):=by rw [hV];exact cell_al _ c1
 have bB : V.cell? ⟨B,0,none⟩ = some (.pointer (some ⟨b,0,none⟩)):=by rw [hV];exact cell_al _ cB
 have p0 : V.cell? ⟨w.heap.size,0,none⟩ = some (.int .i64 off):=by rw [hV];exact at_whole X.out.1 0 rfl
 have p1 : V.cell? ⟨w.heap.size,1,none⟩ = some (.string s):=by rw [hV];exact at_whole X.out.1 1 rfl
 have p2 : V.cell? ⟨w.heap.size,2,none⟩ = some (.bool fin):=by rw [hV];exact at_whole X.out.1 2 rfl
 have BV:=Lib.hid (show Below w.heap.size w V from by rw [hV];exact X.out.2.1)
 have hVw : w.alloc (.cells #[.int .i64 off,.string s,.bool fin] 309) = V:=hV.symm
 have OLD : Hid (∀ (wx w' : World),Below wx.heap.size wx w' → ∀ p v,wx.cell? p = some v → w'.cell? p = some v):=Lib.hid (fun wx w' hb p v hv=>(hb.cell (World.block_lt_of_cell? _ _ hv)).trans hv)
 obtain ⟨e,hee⟩ : ∃ e,(off : Int) + s.size = e:=⟨_,rfl⟩
 rw [hee] at EB
 generalize R.bs.length = n at *
 generalize R.at_ = a at *
 have ew : IntKind.i64.wrap ((a : Int) + (n : Int)) = (a : Int) + (n : Int):=IntWalk.i64_in _ (by omega)
 have d0 : e ≤ (a : Int) + (n : Int):=by omega
 clear c0 c1 cB hB hV X h he hee hs
 go_enter Tryz.func327,Tryz.ntmps327
 go_wp2_with fail
 refine grow_region 16 (slotG 4 15 3) (fun jj=>(#[.agg #[.int .i64 off,.string s,.bool fin],.int .i64 e,.pointer (some ⟨b,0,none⟩),.pointer (some ⟨b,0,none⟩),.pointer (some ⟨b,0,none⟩),.pointer (some ⟨b,0,none⟩),.int .i64 a,.pointer (some ⟨b,0,none⟩),.pointer (some ⟨b,0,none⟩),.pointer (some ⟨b,0,none⟩),.pointer (some ⟨b,1,none⟩),.slice (some ⟨g1,0,none⟩) n n,.int .i64 n,.int .i64 ((a : Int) + (n : Int)),.bool true,.bool true] : Array Value)[jj]?.getD undef) (tm:=#[.agg #[.int .i64 off,.string s,.bool fin],.pointer (some ⟨B,0,none⟩),.pointer (some ⟨w.heap.size,0,none⟩),.bool true,.agg #[.int .i64 off,.string s,.bool fin],.int .i64 e,.pointer (some ⟨b,0,none⟩),.pointer (some ⟨b,0,none⟩),.pointer (some ⟨b,0,none⟩),.pointer (some ⟨b,0,none⟩),.int .i64 a,.pointer (some ⟨b,0,none⟩),.pointer (some ⟨b,0,none⟩),.pointer (some ⟨b,0,none⟩),.pointer (some ⟨b,1,none⟩),.slice (some ⟨g1,0,none⟩) n n,.int .i64 n,.int .i64 ((a : Int) + (n : Int)),.bool true]) rfl (by kernel_rfl) rfl (fun i d _ h=>by have:=slotG_is h;simp;omega) (fun i j d _ _ h1 h2=>by have:=slotG_is h1;have:=slotG_is h2;omega) ?_ (by kernel_rfl) ?_
 ·rintro j o hj ho a w1 hb ⟨hold,hdep⟩
  have r0:=OLD.out _ _ hb _ _ b0
  have r1:=OLD.out _ _ hb _ _ b1
  have r2:=OLD.out _ _ hb _ _ bB
  have s0:=OLD.out _ _ hb _ _ p0
  have s1:=OLD.out _ _ hb _ _ p1
  have s2:=OLD.out _ _ hb _ _ p2
  have o1:=hold 1 (fun i hi h=>by have:=slotG_is h;omega)
  have o2:=hold 2 (fun i hi h=>by have:=slotG_is h;omega)
  simp at o1 o2
  have hjj : j = 0 ∨ j = 1 ∨ j = 2 ∨ j = 3 ∨ j = 4 ∨ j = 5 ∨ j = 6 ∨ j = 7 ∨ j = 8 ∨ j = 9 ∨ j = 10 ∨ j = 11 ∨ j = 12 ∨ j = 13 ∨ j = 14 ∨ j = 15:=by omega
  rcases hjj with rfl | rfl | rfl | rfl | rfl | rfl | rfl | rfl | rfl | rfl | rfl | rfl | rfl | rfl | rfl | rfl
  all_goals (cases ho;simp [Region.binds,slotG] at hdep;refine ⟨rfl,rfl,?_⟩)
  ·first | (refine .inl ⟨(by first | rfl | (simp [Region.wanted,yielded,hdep];done)),fun K hK=>?_⟩;unfold Oper.wp;simp [execOp,Oper.upon,go_sem,Act.eval,o2,s0,s1,s2];exact hK _ bz0) | (refine .inl ⟨rfl,fun K hK=>?_⟩;unfold Oper.wp;simp [execOp,Oper.upon,go_sem,Act.eval,o1,o2,r0,r1,r2,s0,s1,s2,ew,d0];exact hK _ bz0)
  ·(refine .inl ⟨(by first | rfl | (simp [Region.wanted,yielded,hdep];done)),fun K hK=>?_⟩;unfold Oper.wp;simp [execOp,Oper.upon,resolve,invoke,go_sem,Act.eval,hdep];(refine (EB.out _).mono ?_;rintro e' w' ⟨rfl,hb'⟩;exact hK _ hb'))
  iterate 14 (· first | (refine .inl ⟨(by first | rfl | (simp [Region.wanted,yielded,hdep];done)),fun K hK=>?_⟩;unfold Oper.wp;simp [execOp,Oper.upon,go_sem,Act.eval,o1,r2];exact hK _ bz0) | (refine .inl ⟨rfl,fun K hK=>?_⟩;unfold Oper.wp;simp [execOp,Oper.upon,go_sem,Act.eval,o1,o2,r0,r1,r2,s0,s1,s2,ew,d0];exact hK _ bz0) | (refine .inl ⟨(by first | rfl | (simp [Region.wanted,yielded,hdep];done)),fun K hK=>?_⟩;unfold Oper.wp;simp [execOp,Oper.upon,go_sem,Act.eval,hdep];exact hK _ bz0) | (refine .inl ⟨(by first | rfl | (simp [Region.wanted,yielded,hdep];done)),fun K hK=>?_⟩;unfold Oper.wp;simp [execOp,Oper.upon,go_sem,Act.eval,hdep,r0];exact hK _ bz0) | (refine .inl ⟨(by first | rfl | (simp [Region.wanted,yielded,hdep];done)),fun K hK=>?_⟩;unfold Oper.wp;simp [execOp,Oper.upon,go_sem,Act.eval,hdep,r1];exact hK _ bz0) | (refine .inl ⟨(by first | rfl | (simp [Region.wanted,yielded,hdep];done)),fun K hK=>?_⟩;unfold Oper.wp;simp [execOp,Oper.upon,go_sem,Act.eval,hdep,ew];exact hK _ bz0) | (refine .inl ⟨(by first | rfl | (simp [Region.wanted,yielded,hdep];done)),fun K hK=>?_⟩;unfold Oper.wp;simp [execOp,Oper.upon,go_sem,Act.eval,hdep,d0];exact hK _ bz0))
 rintro V2 hV2
 have BV2:=Lib.hid hV2
 clear hV2
 go_wp2
 go_ret
 exact ⟨rfl,btr2 BV.out BV2.out⟩
end
section
open Go.RowKit
theorem cidx0 (b B : Nat) (a0 a1 a2 a3 : Addr) (w : World) : (Instr.index 337 (.agg (ckC b B a0 a1 a2 a3)) (.int .i64 0)).run Tryz.prog w = .ok (.agg #[.func (.func 324) #[] #[],.iface 377 (.pointer (some a3))]) w:=by kernel_rfl
theorem cidx1 (b B : Nat) (a0 a1 a2 a3 : Addr) (w : World) : (Instr.index 337 (.agg (ckC b B a0 a1 a2 a3)) (.int .i64 1)).run Tryz.prog w = .ok (.agg #[.func (.func 325) #[.pointer (some ⟨b,0,none⟩)] #[],.iface 377 (.pointer (some a0))]) w:=by kernel_rfl
theorem cidx2 (b B : Nat) (a0 a1 a2 a3 : Addr) (w : World) : (Instr.index 337 (.agg (ckC b B a0 a1 a2 a3)) (.int .i64 2)).run Tryz.prog w = .ok (.agg #[.func (.func 326) #[.pointer (some ⟨b,0,none⟩)] #[],.iface 377 (.pointer (some a1))]) w:=by kernel_rfl
theorem cidx3 (b B : Nat) (a0 a1 a2 a3 : Addr) (w : World) : (Instr.index 337 (.agg (ckC b B a0 a1 a2 a3)) (.int .i64 3)).run Tryz.prog w = .ok (.agg #[.func (.func 327) #[] #[.pointer (some ⟨B,0,none⟩)],.iface 377 (.pointer (some a2))]) w:=by kernel_rfl
def Rb.put (R : Rb) (off : Nat) (s : ByteArray) (fin : Bool) : Rb:=
 ⟨R.at_,putB R.at_ off (bytesOf s) s.size R.bs,putH R.at_ off s.size R.hs,max R.hi ((off : Int) + s.size),if fin then (off : Int) + s.size else R.fin,R.kn || fin⟩
structure PutOk (R : Rb) (off : Nat) (s : ByteArray) (fin : Bool) : Prop where
 sz : s.size ≤ 8192
 mx : (off : Int) + s.size ≤ 1099511627776
 ag : agF R.at_ R.bs R.hs off (bytesOf s) = true
 f1 : fin = true → R.hi ≤ (off : Int) + s.size
 f2 : R.kn = false ∨ (off : Int) + s.size = R.fin ∨ ((off : Int) + s.size < R.fin ∧ fin = false)
 rm : off + s.size ≤ R.at_ + R.bs.length
 at_ : R.at_ ≤ 1125899906842624
theorem put_ok (b g1 g2 : Nat) (R : Rb) (off : Nat) (s : ByteArray) (fin : Bool) (a0 a1 a2 a3 : Addr) (w : World) (h : RbAt w b g1 g2 R) (hE : Errs w a0 a1 a2 a3) (hk : PutOk R off s fin) :
  Calls Tryz.prog 270 #[.pointer (some ⟨b,0,none⟩),.agg (pcO off s fin)] w fun e w'=>e = .returned .nilIface ∧ Tr b g1 g2 w w' ∧ RbAt w' b g1 g2 (R.put off s fin):=by
 have hmx:=hk.mx
 have X:=Lib.hid (box1 w (.cells (pcO off s fin) 309))
 have HT:=Lib.hid (show RbAt (w.alloc (.cells (pcO off s fin) 309)) b g1 g2 R from h.below X.out.2.1)
 have CK:=Lib.hid (checks_any b a0 a1 a2 a3 _ (hE.below X.out.2.1))
 have K1:=Lib.hid (fun wx=>ck1_ok off s fin wx hk.sz hk.mx)
 have K2:=Lib.hid (fun wx (h : RbAt wx b g1 g2 R)=>(agrees_any b g1 g2 R off s fin wx h (by omega) hk.sz hk.at_))
 rw [hk.ag] at K2
 have K3:=Lib.hid (fun wx (h : RbAt wx b g1 g2 R)=>isFinal_ok b g1 g2 R off s fin wx h (by omega) hk.sz hk.f1 hk.f2)
 have K4:=Lib.hid (fun wx (h : RbAt wx b g1 g2 R) B hB=>ck4_ok b g1 g2 B R off s fin wx h hB hk.sz hk.at_ hk.rm)
 have HD:=Lib.hid (fun wx (h : RbAt wx b g1 g2 R)=>hold_any b g1 g2 R off s fin wx h (by omega) hk.sz hk.at_)
 have EB:=Lib.hid (fun wx=>(end_any off s fin wx (by omega)).mono (fun e w' h=>(⟨h.1,by rw [h.2];exact (Below.refl _ wx).alloc (Nat.le_refl _) _⟩ : e = _ ∧ Below wx.heap.size wx w')))
 have PC:=Lib.hid (fun (wx : World) (hx : wx.heap[w.heap.size]? = some (.cells (pcO off s fin) 309 (0,0)))=>(show wx.cell? ⟨w.heap.size,0,none⟩ = some (.int .i64 off) ∧ wx.cell? ⟨w.heap.size,1,none⟩ = some (.string s) ∧ wx.cell? ⟨w.heap.size,2,none⟩ = some (.bool fin) from ⟨at_whole hx 0 rfl,at_whole hx 1 rfl,at_whole hx 2 rfl⟩))
 have P0:=Lib.hid X.out.1
 clear h hE hk
 unfold pcO at *
 go_enter Tryz.func270,Tryz.ntmps270
 go_wp2_with fail
 refine CK.out.mono ?_
 rintro e w1 ⟨rfl,hb1,hB⟩
 have T1:=Lib.hid (HT.out.below hb1)
 have P1:=Lib.hid (heap_below hb1 P0.out)
 have C1:=Lib.hid hB
 have Z1:=Lib.hid (show Below w.heap.size w w1 from X.out.2.1.trans (hb1.mono (by rw [X.out.2.2];omega)))
 clear hb1 hB CK
 generalize (w.alloc _).heap.size = B at *
 have ix0:=fun wx=>cidx0 b B a0 a1 a2 a3 wx
 have ix1:=fun wx=>cidx1 b B a0 a1 a2 a3 wx
 have ix2:=fun wx=>cidx2 b B a0 a1 a2 a3 wx
 have ix3:=fun wx=>cidx3 b B a0 a1 a2 a3 wx
 generalize ckC b B a0 a1 a2 a3 = CC at *
 go_wp2_with fail
 refine wp_loop_rounds 5 ?_
 have AL:=Lib.hid (fun (wx : World) (o : Obj)=>(Below.refl wx.heap.size wx).alloc (Nat.le_refl _) o)
 rw [rounds_succ]
 obtain ⟨p0,p1,p2⟩:=PC.out (w1.alloc (.cells #[.func (.func 324) #[] #[],.iface 377 (.pointer (some a3))] 336)) (heap_below (AL.out _ _) P1.out)
 go_wp2_with fail
 refine (K1.out _).mono ?_
 rintro e w2 ⟨rfl,hb⟩
 have T2:=Lib.hid ((T1.out.below (AL.out _ _)).below hb)
 have P2:=Lib.hid (heap_below hb (heap_below (AL.out _ (.cells #[.func (.func 324) #[] #[],.iface 377 (.pointer (some a3))] 336)) P1.out))
 have C2:=Lib.hid (heap_below hb (heap_below (AL.out _ (.cells #[.func (.func 324) #[] #[],.iface 377 (.pointer (some a3))] 336)) C1.out))
 have Z2:=Lib.hid (btr2 (btr2 Z1.out (AL.out _ (.cells #[.func (.func 324) #[] #[],.iface 377 (.pointer (some a3))] 336))) hb)
 clear hb p0 p1 p2 T1 P1 C1 Z1
 go_wp2_with fail
 rw [rounds_succ]
 obtain ⟨p0,p1,p2⟩:=PC.out (w2.alloc (.cells #[.func (.func 325) #[.pointer (some ⟨b,0,none⟩)] #[],.iface 377 (.pointer (some a0))] 336)) (heap_below (AL.out _ _) P2.out)
 go_wp2_with fail
 refine (K2.out _ (T2.out.below (AL.out _ _))).mono ?_
 rintro e w3 ⟨rfl,hb⟩
 have T3:=Lib.hid ((T2.out.below (AL.out _ _)).below hb)
 have P3:=Lib.hid (heap_below hb (heap_below (AL.out _ (.cells #[.func (.func 325) #[.pointer (some ⟨b,0,none⟩)] #[],.iface 377 (.pointer (some a0))] 336)) P2.out))
 have C3:=Lib.hid (heap_below hb (heap_below (AL.out _ (.cells #[.func (.func 325) #[.pointer (some ⟨b,0,none⟩)] #[],.iface 377 (.pointer (some a0))] 336)) C2.out))
 have Z3:=Lib.hid (btr2 (btr2 Z2.out (AL.out _ (.cells #[.func (.func 325) #[.pointer (some ⟨b,0,none⟩)] #[],.iface 377 (.pointer (some a0))] 336))) hb)
 clear hb p0 p1 p2 T2 P2 C2 Z2
 go_wp2_with fail
 rw [rounds_succ]
 obtain ⟨p0,p1,p2⟩:=PC.out (w3.alloc (.cells #[.func (.func 326) #[.pointer (some ⟨b,0,none⟩)] #[],.iface 377 (.pointer (some a1))] 336)) (heap_below (AL.out _ _) P3.out)
 go_wp2_with fail
 refine (K3.out _ (T3.out.below (AL.out _ _))).mono ?_
 rintro e w4 ⟨rfl,hb⟩
 have T4:=Lib.hid ((T3.out.below (AL.out _ _)).below hb)
 have P4:=Lib.hid (heap_below hb (heap_below (AL.out _ (.cells #[.func (.func 326) #[.pointer (some ⟨b,0,none⟩)] #[],.iface 377 (.pointer (some a1))] 336)) P3.out))
 have C4:=Lib.hid (heap_below hb (heap_below (AL.out _ (.cells #[.func (.func 326) #[.pointer (some ⟨b,0,none⟩)] #[],.iface 377 (.pointer (some a1))] 336)) C3.out))
 have Z4:=Lib.hid (btr2 (btr2 Z3.out (AL.out _ (.cells #[.func (.func 326) #[.pointer (some ⟨b,0,none⟩)] #[],.iface 377 (.pointer (some a1))] 336))) hb)
 clear hb p0 p1 p2 T3 P3 C3 Z3
 go_wp2_with fail
 rw [rounds_succ]
 obtain ⟨p0,p1,p2⟩:=PC.out (w4.alloc (.cells #[.func (.func 327) #[] #[.pointer (some ⟨B,0,none⟩)],.iface 377 (.pointer (some a2))] 336)) (heap_below (AL.out _ _) P4.out)
 go_wp2_with fail
 refine (K4.out _ (T4.out.below (AL.out _ _)) B (heap_below (AL.out _ _) C4.out)).mono ?_
 rintro e w5 ⟨rfl,hb⟩
 have T5:=Lib.hid ((T4.out.below (AL.out _ _)).below hb)
 have P5:=Lib.hid (heap_below hb (heap_below (AL.out _ (.cells #[.func (.func 327) #[] #[.pointer (some ⟨B,0,none⟩)],.iface 377 (.pointer (some a2))] 336)) P4.out))
 have C5:=Lib.hid (heap_below hb (heap_below (AL.out _ (.cells #[.func (.func 327) #[] #[.pointer (some ⟨B,0,none⟩)],.iface 377 (.pointer (some a2))] 336)) C4.out))
 have Z5:=Lib.hid (btr2 (btr2 Z4.out (AL.out _ (.cells #[.func (.func 327) #[] #[.pointer (some ⟨B,0,none⟩)],.iface 377 (.pointer (some a2))] 336))) hb)
 clear hb p0 p1 p2 T4 P4 C4 Z4
 go_wp2_with fail
 rw [rounds_succ]
 obtain ⟨p0,p1,p2⟩:=PC.out w5 P5.out
 go_wp2_with fail
 go_region_with (go_at_call 305;refine (HD.out _ (T5.out.below (Below.refl _ w5).drew)).mono ?_;rintro e w6 ⟨rfl,hTr,hR6⟩;have TR:=Lib.hid hTr;have R6:=Lib.hid hR6;clear hTr hR6)
 have hnn:=T5.out.ne
 have lb:=heap_lt T5.out.ob
 have lw:=heap_lt P5.out
 have P6:=Lib.hid ((TR.out.block w.heap.size lw (fun e=>by rw [e] at P5;have:=P5.out;rw [T5.out.ob] at this;simp at this) (fun e=>by rw [e] at P5;have:=P5.out;rw [T5.out.o1] at this;simp [u8s] at this) (fun e=>by rw [e] at P5;have:=P5.out;rw [T5.out.o2] at this;simp [bls] at this)).trans P5.out)
 have OLD : Hid (∀ (wx w' : World),Below wx.heap.size wx w' → ∀ p v,wx.cell? p = some v → w'.cell? p = some v):=Lib.hid (fun wx w' hb p v hv=>(hb.cell (World.block_lt_of_cell? _ _ hv)).trans hv)
 obtain ⟨p0,p1,p2⟩:=PC.out w6 P6.out
 have c3 : w6.cell? ⟨b,3,none⟩ = some (.int .i64 R.hi):=R6.out.cells.2.2.2.1
 have z3:=frozen_whole R6.out.ob 3
 have l6:=heap_lt R6.out.ob
 go_wp2_with fail
 go_region_with (go_at_call 306;refine (EB.out _).mono ?_;rintro e w7 ⟨rfl,hb7⟩;have y3:=OLD.out _ _ hb7 _ _ c3;have x3 : w7.frozen? ⟨b,3,none⟩ = false:=(hb7.frozen (p:=⟨b,3,none⟩) l6).trans z3;have HB7:=Lib.hid (show Below w6.heap.size w6 w7 from ⟨hb7.os,hb7.tape,hb7.output,hb7.size,hb7.block⟩);clear hb7)
 all_goals
  have R7:=R6.out.below HB7.out
  have P7:=heap_below HB7.out P6.out
  have TR7 : Tr b g1 g2 w w7:=((((Tr.refl b g1 g2 w).below Z5.out).below (Below.refl _ w5).drew).trans TR.out).below HB7.out
  have hm : (if R.hi < (off : Int) + s.size then (off : Int) + s.size else R.hi) = max R.hi ((off : Int) + s.size):=by split <;> omega
  rw [hm]
  have G8:=heap_set (i:=3) (.int .i64 (max R.hi ((off : Int) + s.size))) R7.ob
  simp only [Rb.cells,List.setIfInBounds_toArray,List.set_cons_zero,List.set_cons_succ] at G8
  have O1 : (w7.setCell ⟨b,3,none⟩ (.int .i64 (max R.hi ((off : Int) + s.size)))).heap[g1]? = _:=set_far R7.o1 hnn.1
  have O2 : (w7.setCell ⟨b,3,none⟩ (.int .i64 (max R.hi ((off : Int) + s.size)))).heap[g2]? = _:=set_far R7.o2 hnn.2.1
  have P8 : (w7.setCell ⟨b,3,none⟩ (.int .i64 (max R.hi ((off : Int) + s.size)))).heap[w.heap.size]? = _:=set_far P7 (fun e=>by rw [← e,R7.ob] at P7;simp at P7)
  have TR8:=Lib.hid (TR7.set (i:=3) (.inl rfl) (.int .i64 (max R.hi ((off : Int) + s.size))))
  have HG:=Lib.hid (And.intro G8 (And.intro O1 O2))
  have HL:=Lib.hid (And.intro R7.hl R7.sm)
  have HP8:=Lib.hid P8
  clear R7 P7 TR7 hm G8 O1 O2 P8 y3 x3 HB7 c3 z3 l6 p0 p1 p2
  generalize w7.setCell _ _ = W8 at *
  obtain ⟨p0,p1,p2⟩:=PC.out W8 HP8.out
  cases fin
  ·go_wp2
   go_ret
   exact ⟨rfl,TR8.out,⟨by rw [HG.out.1];simp [Rb.put,Rb.cells],HG.out.2.1,HG.out.2.2,HL.out.1,HL.out.2⟩⟩
  ·go_wp2_with (go_at_call 306;refine (EB.out _).mono ?_;rintro e w9 ⟨rfl,hb9⟩;have G9:=heap_below hb9 HG.out.1;have c4:=at_whole G9 4 rfl;have c5:=at_whole G9 5 rfl;have z4:=frozen_whole G9 4;have z5:=frozen_whole G9 5;have HB9:=Lib.hid hb9;have HG9:=Lib.hid G9;clear hb9 G9)
   go_ret
   have G9:=heap_set (i:=5) (.bool true) (heap_set (i:=4) (.int .i64 ((off : Int) + s.size)) HG9.out)
   simp only [List.setIfInBounds_toArray,List.set_cons_zero,List.set_cons_succ] at G9
   exact ⟨rfl,((TR8.out.below HB9.out).set (.inl rfl) _).set (.inl rfl) _,⟨by rw [G9];simp [Rb.put,Rb.cells],set_far (set_far (heap_below HB9.out HG.out.2.1) hnn.1) hnn.1,set_far (set_far (heap_below HB9.out HG.out.2.2) hnn.2.1) hnn.2.1,HL.out.1,HL.out.2⟩⟩
end
section
open Go.RowKit
theorem errno_nil (w : World) : Calls Tryz.prog 269 #[.nilIface] w fun e w'=>e = .returned (.int .i64 0) ∧ w = w':=by
 go_enter Tryz.func269,Tryz.ntmps269
 go_wp2
 go_ret
 exact ⟨rfl,rfl⟩
theorem Put_ok (b g1 g2 : Nat) (R : Rb) (off : Nat) (s : ByteArray) (fin : Bool) (a0 a1 a2 a3 : Addr) (w : World) (h : RbAt w b g1 g2 R) (hE : Errs w a0 a1 a2 a3) (hk : PutOk R off s fin) :
  Calls Tryz.prog 212 #[.pointer (some ⟨b,0,none⟩),.int .i64 off,.string s,.bool fin] w fun e w'=>e = .returned (.int .i64 0) ∧ Tr b g1 g2 w w' ∧ RbAt w' b g1 g2 (R.put off s fin):=by
 have P:=Lib.hid (put_ok b g1 g2 R off s fin a0 a1 a2 a3 w h hE hk)
 clear h hE hk
 unfold pcO at *
 go_enter Tryz.func212,Tryz.ntmps212
 go_wp2_with (first | (go_at_call 270;refine P.out.mono ?_;rintro e w1 ⟨rfl,hT,hR⟩;have G:=Lib.hid (And.intro hT hR);clear hT hR) | (go_at_call 269;refine (errno_nil _).mono ?_;rintro e w2 ⟨rfl,rfl⟩))
 go_ret
 exact ⟨rfl,G.out.1,G.out.2⟩
end
section
open Go.RowKit Go.Lib
theorem heap_setCells (g : Nat) (t : TypeId) : ∀ (vs : List Value) (o : Nat) (w : World) (cs : List Value),o + vs.length ≤ cs.length → w.heap[g]? = some (.cells cs.toArray t (0,0)) →
  (w.setCells g o vs).heap[g]? = some (.cells (cs.take o ++ vs ++ cs.drop (o + vs.length)).toArray t (0,0)):=by
 intro vs
 induction vs with
 | nil=>intro o w cs h hg;simpa [World.setCells] using hg
 | cons v vs ih=>
  intro o w cs h hg
  simp only [List.length_cons] at h
  have h1 : (w.setCell ⟨g,o,none⟩ v).heap[g]? = some (.cells (cs.set o v).toArray t (0,0)):=by
   have:=heap_set (i:=o) v hg
   simpa using this
  have:=ih (o + 1) (w.setCell ⟨g,o,none⟩ v) (cs.set o v) (by simp;omega) h1
  show ((w.setCell ⟨g,o,none⟩ v).setCells g (o + 1) vs).heap[g]? = _
  rw [this]
  have e1 : (cs.set o v).take (o + 1) = cs.take o ++ [v]:=by
   rw [List.set_eq_take_append_cons_drop,if_pos (by omega),List.take_append,List.length_take,Nat.min_eq_left (by omega),show o + 1 - o = 1 by omega,List.take_of_length_le (by simp;omega)]
   rfl
  have e2 : (cs.set o v).drop (o + 1 + vs.length) = cs.drop (o + (vs.length + 1)):=by
   rw [List.drop_set_of_lt (by omega)];congr 1;omega
  rw [e1,e2,List.length_cons,List.append_assoc (cs.take o)]
  rfl
theorem run_copy_end {P : Program} {w : World} (dT sT ty elem : TypeId) (hu : P.underlying dT = some (.slice elem)) (hsz : (P.info? elem).map (·.size) = some 1) (g n cap p m : Nat) (cs : List Value) (t : TypeId)
  (hg : w.heap[g]? = some (.cells cs.toArray t (0,0))) (hn : cs.length = n) (hpm : p + m = n) (h1 : ∀ v ∈ cs,v.oneCell' = true) (sp : Option Addr) (sCap : Nat) (hsp : 0 < m → sp = some ⟨g,p,none⟩) :
  ∃ w',(Builtin.copy_ #[dT,sT] ty #[.slice (some ⟨g,0,none⟩) n cap,.slice sp m sCap]).run P w = .ok (goInt m) w' ∧ w'.heap[g]? = some (.cells (cs.drop p ++ cs.drop m).toArray t (0,0)) ∧ w.grownBy w' (some g):=by
 have hdl : (cs.drop p).length = m:=by rw [List.length_drop];omega
 by_cases h0 : m = 0
 ·subst h0
  have hrun:=run_copy_none (P:=P) w dT sT ty elem (some ⟨g,0,none⟩) sp n cap 0 sCap hu hsz (by simp)
  refine ⟨w,hrun,?_,⟨rfl,rfl,rfl,Nat.le_refl _,fun _ _ _=>rfl⟩⟩
  rw [List.eq_nil_of_length_eq_zero hdl];simpa using hg
 ·obtain rfl:=hsp (by omega)
  have hx : ∀ j v,(cs.drop p)[j]? = some v → w.cell? ((⟨g,p,none⟩ : Addr).add j) = some v:=by
   intro j v hj
   rw [List.getElem?_drop] at hj
   rw [add_plain]
   simp only [World.cell?,hg]
   simpa using hj
  have hrun:=run_copy_row (P:=P) w dT sT ty elem g 0 n cap ⟨g,p,none⟩ m sCap cs.toArray t (cs.drop p) hu hsz hg (by rw [hdl];exact (Nat.min_eq_left (by omega)).symm) hx (by rw [hdl];simp;omega) (fun v hv=>h1 v (List.mem_of_mem_drop hv))
  rw [hdl] at hrun
  refine ⟨_,hrun,?_,⟨rfl,rfl,rfl,by simp,fun k _ hk=>setRow_other w g k _ (fun e=>hk (by rw [e]))⟩⟩
  rw [setRow_heap w g _ _ t _ hg]
  simp
theorem run_clear_end {P : Program} {w : World} (t e ty : TypeId) (z : Value) (ht : P.underlying t = some (.slice e)) (hv : ∀ w,(zeroValue e).run P w = .ok z w) (hz : z.cells = #[z]) (h1 : z.oneCell' = true) (g o n : Nat) (cs : List Value) (te : TypeId)
  (hg : w.heap[g]? = some (.cells cs.toArray te (0,0))) (hn : o + n = cs.length) (sp : Option Addr) (sCap : Nat) (hsp : 0 < n → sp = some ⟨g,o,none⟩) :
  ∃ w',(Builtin.clear_ #[t] ty #[.slice sp n sCap]).run P w = .ok (.tuple #[]) w' ∧ w'.heap[g]? = some (.cells (cs.take o ++ List.replicate n z).toArray te (0,0)) ∧ w.grownBy w' (some g):=by
 by_cases h0 : n = 0
 ·subst h0
  refine ⟨w,?_,?_,⟨rfl,rfl,rfl,Nat.le_refl _,fun _ _ _=>rfl⟩⟩
  ·cases sp <;> simp [Builtin.clear_,run_underlying ht]
  ·rw [List.take_of_length_le (by omega)];simpa using hg
 ·obtain rfl:=hsp (by omega)
  have hc : ∀ j,j < n → w.cell? ⟨g,o + j,none⟩ = some (cs.getD (o + j) undef):=fun j hj=>by
   simp only [World.cell?,hg]
   simp [List.getD_eq_getElem?_getD,show o + j < cs.length by omega]
  refine ⟨_,run_clear_slice w t e ty z ht hv hz h1 g o n sCap (by omega) (fun j hj=>by rw [hc j hj];rfl) (fun j _=>frozen_whole hg (o + j)),?_,?_⟩
  ·rw [heap_setCells g te (List.replicate n z) o w cs (by simp;omega) hg]
   rw [List.length_replicate,List.drop_of_length_le (by omega),List.append_nil]
  ·have hK : ∀ (vs : List Value) (o : Nat) (w' : World),w.grownBy w' (some g) → w.grownBy (w'.setCells g o vs) (some g):=by
    intro vs
    induction vs with
    | nil=>intro o w' h;exact h
    | cons v vs ih=>intro o w' h;exact ih (o + 1) _ (grown_set h _)
   exact hK _ _ _ ⟨rfl,rfl,rfl,Nat.le_refl _,fun _ _ _=>rfl⟩
theorem step_copy_end {P : Program} {ops : Array Oper} {o : Oper} {a : Act} {w : World} {K : Act → World → Prop} {Q : Exit → Act → World → Prop} {E : Prop} (hgd : o.guard = none) (d s : Operand) (dT sT : TypeId)
  (ho : o.op = .call { callee:=.builtin .copy,args:=#[d,s],argTypes:=#[dT,sT] }) (elem : TypeId) (hu : P.underlying dT = some (.slice elem)) (hsz : (P.info? elem).map (·.size) = some 1)
  (g n cap p m : Nat) (cs : List Value) (t : TypeId) (hg : w.heap[g]? = some (.cells cs.toArray t (0,0))) (hn : cs.length = n) (hpm : p + m = n) (h1 : ∀ v ∈ cs,v.oneCell' = true)
  (hd : a.eval d = .slice (some ⟨g,0,none⟩) n cap) (sp : Option Addr) (sCap : Nat) (hs : a.eval s = .slice sp m sCap) (hsp : 0 < m → sp = some ⟨g,p,none⟩)
  (h : ∀ w',w'.heap[g]? = some (.cells (cs.drop p ++ cs.drop m).toArray t (0,0)) → w.grownBy w' (some g) → K (a.put o.dst (goInt m)) w') :
  if Region.wanted o (yielded ops a.tmps) = true then Oper.wp P o a w K Q else E:=by
 have hw : Region.wanted o (yielded ops a.tmps) = true:=by simp [Region.wanted,hgd]
 rw [if_pos hw]
 obtain ⟨w',h2,h3,h4⟩:=run_copy_end (P:=P) (w:=w) dT sT o.type elem hu hsz g n cap p m cs t hg hn hpm h1 sp sCap hsp
 unfold Oper.wp
 simp [execOp,ho,resolve,invoke,builtin,hd,hs,h2,Result.andThen]
 exact h w' h3 h4
theorem wpList_clear_end {P : Program} {ops : Array Oper} {rest : List Oper} {o : Oper} {a : Act} {w : World} {Q : Exit → Act → World → Prop} (hgd : o.guard = none) (x : Operand) (t : TypeId)
  (ho : o.op = .call { callee:=.builtin .clear,args:=#[x],argTypes:=#[t] }) (e : TypeId) (z : Value) (ht : P.underlying t = some (.slice e)) (hv : ∀ w,(zeroValue e).run P w = .ok z w) (hz : z.cells = #[z]) (h1 : z.oneCell' = true) (g oo n : Nat) (cs : List Value) (te : TypeId)
  (hg : w.heap[g]? = some (.cells cs.toArray te (0,0))) (hn : oo + n = cs.length) (sp : Option Addr) (sCap : Nat) (hx : a.eval x = .slice sp n sCap) (hsp : 0 < n → sp = some ⟨g,oo,none⟩)
  (h : ∀ w',w'.heap[g]? = some (.cells (cs.take oo ++ List.replicate n z).toArray te (0,0)) → w.grownBy w' (some g) → wpList P ops Q rest (a.put o.dst (.tuple #[])) w') : wpList P ops Q (o :: rest) a w:=by
 refine wpList_plain hgd fun _ hKK=>?_
 obtain ⟨w',h2,h3,h4⟩:=run_clear_end (P:=P) (w:=w) t e o.type z ht hv hz h1 g oo n cs te hg hn sp sCap hsp
 unfold Oper.wp execOp
 simp only [ho,resolve,invoke,builtin,Sem.run_bind,Sem.run_pure,Result.andThen_ok,List.map_toArray,List.map_cons,List.map_nil,hx,h2]
 exact hKK _ _ (h w' h3 h4)
theorem Tr.grown {b g1 g2 : Nat} {x y z : World} {g : Nat} (h : Tr b g1 g2 x y) (hg : g = b ∨ g = g1 ∨ g = g2) (hb : g < x.heap.size ∨ True) (k : y.grownBy z (some g)) : Tr b g1 g2 x z:=
 ⟨k.os.trans h.os,k.tape.trans h.tape,k.output.trans h.output,Nat.le_trans h.size k.size,fun j hj h1 h2 h3=>(k.block j (Nat.lt_of_lt_of_le hj h.size) (fun e=>by cases e;omega)).trans (h.block j hj h1 h2 h3)⟩
theorem grown_other {y z : World} {g k : Nat} {o : Obj} (h : y.grownBy z (some g)) (hk : y.heap[k]? = some o) (hne : k ≠ g) : z.heap[k]? = some o:=
 (h.block k (heap_lt hk) (fun e=>hne (by cases e;rfl))).trans hk
end
end Go.Proofs.YthckbmcmdcemkaaGreatDoor.rea
