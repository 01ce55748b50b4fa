/- Texts of this claim, one behind the other: Base Obj Held Inv InvIn Scope Structs. -/
import Derived.WalkKit
import Derived.ProofKit
import Derived.OpenShut
import Derived.Below
import Derived.ChangeSame
import Derived.Lib.Hide
import Derived.Handy
import Derived.ChangeBook
import Derived.ChangeStays
import Derived.ChangeSlices
import Derived.Test.YthckbmcmdcemkaaGreatDoorProg
import Derived.Laws.Rows
import Derived.Laws.AppendOwn
import Derived.Deep.Quiet
import Derived.Deep.RegionHeld3
import Derived.Deep.RegionWith
import Derived.Deep.QuietTactic
import Derived.Orders
import Derived.OrdersIn
import Derived.ControlIn
import Derived.Scope
import Derived.ScopeJumps
import Derived.Deep.Slices
import Derived.Deep.Fields
set_option maxRecDepth 100000
set_option maxHeartbeats 16000000
set_option linter.unusedSimpArgs false
set_option linter.unusedVariables false
namespace Go.Proofs.YthckbmcmdcemkaaGreatDoor
section
open Go.RowKit Go.WideShapes Go.ChangeShapes
theorem btrans {a b c : World} (h : Below a.heap.size a b) (k : Below b.heap.size b c) : Below a.heap.size a c:=h.trans (k.mono h.size)
section
variable {H : Type} {enc : TypeId × Value → H} {P : Program}
theorem post_of_below {f : Func} {s : ChangeSpec} {apart fresh handsOn again : Bool} {W W' : World} {args : Array Value} {v : Value} {ds gs : List (DataW H)} {before pa pv : List MemPlace}
  (hW : DataW.Whole enc P f.params.toList s.vars apart W args.toList ds gs before)
  (hres : ∀ (b : Nat) (sp : Nat → Bool) (hd : Bool),DataW.TrodAll enc P W' b sp hd f.resultTypes.toList (v.resultList f.resultTypes.size) (s.fn H (ds ++ gs)).results [])
  (hargs : ∀ sp : Nat → Bool,(∀ p ∈ before,sp p.block = true) → DataW.TrodAll enc P W' 0 sp true f.params.toList args.toList (s.fn H (ds ++ gs)).args pa)
  (hvars : ∀ sp : Nat → Bool,(∀ p ∈ before,sp p.block = true) → DataW.TrodVars enc P W' sp s.vars (s.fn H (ds ++ gs)).vars pv)
  (hps : before = pa ++ pv) (hb : Below W.heap.size W W')
  (hok : ∀ (j : Nat) (t : TypeId) (r : Value),f.resultTypes[j]? = some t → (v.resultList f.resultTypes.size)[j]? = some r → Value.okWide P W' .any 0 t r) :
  s.post enc P f apart fresh handsOn again W args v W':=by
 have hlt : ∀ p ∈ before,p.block < W.heap.size:=fun p hp=>hW.lt p hp
 have hold : ∀ p ∈ before,(fun b=>decide (b < W.heap.size)) p.block = true:=fun p hp=>by simpa using hlt p hp
 refine ⟨ds,gs,before,[],pa,pv,hW,hres _ _ _,hargs _ hold,hvars _ hold,World.keptBut_mono (fun p hp=>⟨hp,?_⟩) (hb.frame (· ∈ before)),fun _=>?_⟩
 ·rw [hps,List.mem_append] at hp
  exact Or.inr hp
 ·obtain ⟨_,_,_,_,_,hz,hn⟩:=hW
  refine ⟨hok,_,_,([] ++ pa) ++ pv,⟨[] ++ pa,pv,trodAll_append (hargs _ (fun _ _=>rfl)) (hres _ _ _),hvars _ (fun _ _=>rfl),rfl,?_,?_⟩,?_⟩
  ·intro b off hp
   have hin : MemPlace.cell b off ∈ before:=by rw [hps];simpa using hp
   rw [hb.frozen (hlt _ hin)]
   exact hz b off hin
  ·intro ha
   have:=hn ha
   rw [hps] at this
   simpa using this
  ·intro p hp _
   rw [hps]
   simpa using hp
theorem laidOut' : laidOutB Tryz.prog = true:=by kernel_rfl
theorem again1 {W W' : World} {t : TypeId} {v : Value} {d : DataW H} {p : List MemPlace} (hr : Tryz.prog.readableRec t = true) (hrow : decide (t < Tryz.prog.types.size) = true)
  (h : DataW.Trod enc Tryz.prog W 0 (fun _=>true) true t v d p) (hb : Below W.heap.size W W') (hlt : ∀ q ∈ p,q.block < W.heap.size) (sp : Nat → Bool) (hsp : ∀ q ∈ p,sp q.block = true) :
  DataW.Trod enc Tryz.prog W' 0 sp true t v d p:=by
 obtain ⟨fuel,h⟩:=h
 exact ⟨fuel,DataW.trod_stays (kids_book laidOut' hr) (book_sized hr) (fun h=>by cases h) ⟨of_decide_eq_true hrow,book_self t⟩ h (fun x hx=>hb.same (hlt x hx)) hsp⟩
end
theorem cell_spot {w : World} {a : Addr} {v : Value} (h : w.cell? a = some v) : a = ⟨a.block,a.off,none⟩:=by
 obtain ⟨b,o,s⟩:=a
 unfold World.cell? at h
 cases s with
 | none=>rfl
 | some x=>simp at h;split at h <;> simp_all
theorem add_plain (b o i : Nat) : (⟨b,o,none⟩ : Addr).add i = ⟨b,o + i,none⟩:=by unfold Addr.add;split <;> simp_all
theorem bz0 {n : Nat} {w : World} : Below n w w:=Below.refl n w
theorem bz1 {n : Nat} {w : World} {k : Nat} : Below n w (w.drewN k):=by have h:=Below.refl n w;exact ⟨h.os,h.tape,h.output,h.size,h.block⟩
theorem bz2 {n : Nat} {w : World} {k j : Nat} : Below n w ((w.drewN k).drewN j):=by have h:=Below.refl n w;exact ⟨h.os,h.tape,h.output,h.size,h.block⟩
theorem bz3 {n : Nat} {w : World} {k j i : Nat} : Below n w (((w.drewN k).drewN j).drewN i):=by have h:=Below.refl n w;exact ⟨h.os,h.tape,h.output,h.size,h.block⟩
end
section
open Go.RowKit
theorem grown_refl (w : World) (r : Option Nat) : w.grownBy w r:=⟨rfl,rfl,rfl,Nat.le_refl _,fun _ _ _=>rfl⟩
theorem grown_trans {a b c : World} {r : Option Nat} (h : a.grownBy b r) (k : b.grownBy c r) : a.grownBy c r:=
 ⟨k.os.trans h.os,k.tape.trans h.tape,k.output.trans h.output,Nat.le_trans h.size k.size,fun i hi hr=>(k.block i (Nat.lt_of_lt_of_le hi h.size) hr).trans (h.block i hi hr)⟩
theorem grown_set {a w : World} {b i : Nat} (h : a.grownBy w (some b)) (v : Value) : a.grownBy (w.setCell ⟨b,i,none⟩ v) (some b):=
 ⟨h.os,h.tape,h.output,by simpa using h.size,fun k hk hr=>(heap_setCell_other w _ k v (fun e=>hr (by rw [e]))).trans (h.block k hk hr)⟩
theorem grown_drew {a w : World} {r : Option Nat} (h : a.grownBy w r) : a.grownBy w.drew r:=⟨h.os,h.tape,h.output,h.size,h.block⟩
theorem grown_alloc {a w : World} {r : Option Nat} (h : a.grownBy w r) (o : Obj) : a.grownBy (w.alloc o) r:=
 ⟨h.os,h.tape,h.output,by simp;exact Nat.le_succ_of_le h.size,fun k hk hr=>(Below.heap_alloc w o k (Nat.lt_of_lt_of_le hk h.size)).trans (h.block k hk hr)⟩
theorem grown_below {w w' : World} {r : Option Nat} (h : Below w.heap.size w w') : w.grownBy w' r:=⟨h.os,h.tape,h.output,h.size,fun k hk _=>h.block k hk⟩
theorem below_grown {a w w' : World} {b : Nat} (hB : Below a.heap.size a w) (h : w.grownBy w' (some b)) (hb : a.heap.size ≤ b) : Below a.heap.size a w':=
 hB.grown h hB.size (fun k e=>by cases e;exact hb)
theorem heap_grown {w w' : World} {b k : Nat} {o : Obj} (h : w.grownBy w' (some b)) (hk : w.heap[k]? = some o) (hne : k ≠ b) : w'.heap[k]? = some o:=
 (h.block k (Array.getElem?_eq_some_iff.1 hk).1 (fun e=>hne (by cases e;rfl))).trans hk
theorem heap_below {w w' : World} {k : Nat} {o : Obj} (h : Below w.heap.size w w') (hk : w.heap[k]? = some o) : w'.heap[k]? = some o:=
 (h.block k (Array.getElem?_eq_some_iff.1 hk).1).trans hk
theorem cell_whole {w : World} {b : Nat} {cs : Array Value} {T : TypeId} (h : w.heap[b]? = some (.cells cs T (0,0))) (j : Nat) : w.cell? ⟨b,j,none⟩ = cs[j]?:=cell_of_row w b j cs T (0,0) h
theorem frozen_whole {w : World} {b : Nat} {cs : Array Value} {T : TypeId} (h : w.heap[b]? = some (.cells cs T (0,0))) (j : Nat) : w.frozen? ⟨b,j,none⟩ = false:=by
 simp [World.frozen?,h]
theorem heap_lt {w : World} {b : Nat} {o : Obj} (h : w.heap[b]? = some o) : b < w.heap.size:=(Array.getElem?_eq_some_iff.1 h).1
theorem heap_set {w : World} {b i : Nat} {cs : Array Value} {T : TypeId} (v : Value) (h : w.heap[b]? = some (.cells cs T (0,0))) : (w.setCell ⟨b,i,none⟩ v).heap[b]? = some (.cells (cs.setIfInBounds i v) T (0,0)):=
 heap_setCell_same w b i cs T v h
def Blk (b : Nat) (cs : Array Value) (T : TypeId) (w w' : World) : Prop:=w'.heap[b]? = some (.cells cs T (0,0)) ∧ w.grownBy w' (some b)
theorem Blk.start {b : Nat} {cs : Array Value} {T : TypeId} {w : World} (h : w.heap[b]? = some (.cells cs T (0,0))) : Blk b cs T w w:=⟨h,grown_refl _ _⟩
theorem Blk.set {b : Nat} {cs : Array Value} {T : TypeId} {w w' : World} (h : Blk b cs T w w') (i : Nat) (v : Value) : Blk b (cs.setIfInBounds i v) T w (w'.setCell ⟨b,i,none⟩ v):=⟨heap_set v h.1,grown_set h.2 v⟩
theorem Blk.drew {b : Nat} {cs : Array Value} {T : TypeId} {w w' : World} (h : Blk b cs T w w') : Blk b cs T w w'.drew:=⟨h.1,grown_drew h.2⟩
theorem Blk.alloc {b : Nat} {cs : Array Value} {T : TypeId} {w w' : World} (h : Blk b cs T w w') (o : Obj) : Blk b cs T w (w'.alloc o):=⟨(Below.heap_alloc w' o b (heap_lt h.1)).trans h.1,grown_alloc h.2 o⟩
theorem Blk.trans {b : Nat} {cs cs' : Array Value} {T : TypeId} {w w' w'' : World} (h : Blk b cs T w w') (k : Blk b cs' T w' w'') : Blk b cs' T w w'':=⟨k.1,grown_trans h.2 k.2⟩
theorem Blk.below {b : Nat} {cs : Array Value} {T : TypeId} {w w' w'' : World} (h : Blk b cs T w w') (k : Below w'.heap.size w' w'') : Blk b cs T w w'':=⟨heap_below k h.1,grown_trans h.2 (grown_below k)⟩
theorem Blk.drewN {b : Nat} {cs : Array Value} {T : TypeId} {w w' : World} (h : Blk b cs T w w') (n : Nat) : Blk b cs T w (w'.drewN n):=⟨h.1,⟨h.2.os,h.2.tape,h.2.output,h.2.size,h.2.block⟩⟩
end
section
open Go.RowKit
def cur (w : World) (p : Addr) : Value:=(w.cell? p).getD undef
theorem cur_of {w : World} {p : Addr} {v : Value} (h : w.cell? p = some v) : w.cell? p = some (cur w p):=by unfold cur;rw [h];rfl
theorem cur_set {w : World} {a p : Addr} {u v : Value} (h : w.cell? p = some u) : (w.setCell a v).cell? p = some (cur (w.setCell a v) p):=by
 by_cases e : a = p
 ·subst e;exact cur_of (World.cell?_setCell_same _ _ _ h)
 ·exact cur_of ((World.cell?_setCell_other _ _ _ _ e).trans h)
structure Held (W : World) (R : Nat) (w' : World) : Prop where
 size : W.heap.size ≤ w'.heap.size
 cellH : ∀ p : Addr,p.block < W.heap.size → p.block ≠ R → w'.cell? p = W.cell? p
 frozH : ∀ p : Addr,p.block < W.heap.size → w'.frozen? p = W.frozen? p
 curH : ∀ p : Addr,p.block < W.heap.size → (∃ v,W.cell? p = some v) → ∃ v,w'.cell? p = some v
theorem Held.refl (W : World) (R : Nat) : Held W R W:=⟨Nat.le_refl _,fun _ _ _=>rfl,fun _ _=>rfl,fun _ _ h=>h⟩
theorem Held.drew {W w : World} {R : Nat} (h : Held W R w) : Held W R w.drew:=⟨h.size,h.cellH,h.frozH,h.curH⟩
theorem Held.drewN {W w : World} {R : Nat} (h : Held W R w) (n : Nat) : Held W R (w.drewN n):=⟨h.size,h.cellH,h.frozH,h.curH⟩
theorem Held.start (W : World) (R : Nat) : Held W R W.drew:=(Held.refl W R).drew
theorem Held.below {W w w1 : World} {R : Nat} (h : Held W R w) (hb : Below w.heap.size w w1) : Held W R w1:=
 ⟨Nat.le_trans h.size hb.size,fun p hp hn=>(hb.cell (p:=p) (Nat.lt_of_lt_of_le hp h.size)).trans (h.cellH p hp hn),fun p hp=>(hb.frozen (p:=p) (Nat.lt_of_lt_of_le hp h.size)).trans (h.frozH p hp),
 fun p hp hv=>by rw [hb.cell (p:=p) (Nat.lt_of_lt_of_le hp h.size)];exact h.curH p hp hv⟩
theorem Held.set {W w : World} {R : Nat} (h : Held W R w) (i : Nat) (v : Value) : Held W R (w.setCell ⟨R,i,none⟩ v):=
 ⟨by simpa using h.size,fun p hp hn=>(World.cell?_setCell_far _ _ _ _ (Ne.symm hn)).trans (h.cellH p hp hn),fun p hp=>(World.frozen?_setCell ..).trans (h.frozH p hp),
 fun p hp hv=>by obtain ⟨u,hu⟩:=h.curH p hp hv;exact ⟨_,cur_set hu⟩⟩
theorem Held.cell {W w' : World} {R : Nat} (h : Held W R w') {b o : Nat} {v : Value} (hc : W.cell? ⟨b,o,none⟩ = some v) (hR : b ≠ R) : w'.cell? ⟨b,o,none⟩ = some v:=
 (h.cellH ⟨b,o,none⟩ (World.block_lt_of_cell? _ _ hc) hR).trans hc
theorem Held.froz {W w' : World} {R : Nat} (h : Held W R w') {b o : Nat} (hf : W.frozen? ⟨b,o,none⟩ = false) (hl : b < W.heap.size) : w'.frozen? ⟨b,o,none⟩ = false:=(h.frozH ⟨b,o,none⟩ hl).trans hf
theorem Held.cur {W w' : World} {R : Nat} (h : Held W R w') {b o : Nat} {v : Value} (hc : W.cell? ⟨b,o,none⟩ = some v) : w'.cell? ⟨b,o,none⟩ = some (cur w' ⟨b,o,none⟩):=by
 obtain ⟨u,hu⟩:=h.curH ⟨b,o,none⟩ (World.block_lt_of_cell? _ _ hc) ⟨v,hc⟩
 exact cur_of hu
theorem box1 (w : World) (o0 : Obj) : (w.alloc o0).heap[w.heap.size]? = some o0 ∧ Below w.heap.size w (w.alloc o0) ∧ (w.alloc o0).heap.size = w.heap.size + 1:=
 ⟨heap_alloc_new w o0,(Below.refl _ w).alloc (Nat.le_refl _) _,World.size_alloc _ _⟩
theorem box2 (w : World) (o0 o1 : Obj) : ((w.alloc o0).alloc o1).heap[w.heap.size]? = some o0 ∧ ((w.alloc o0).alloc o1).heap[w.heap.size + 1]? = some o1 ∧
  Below w.heap.size w ((w.alloc o0).alloc o1) ∧ ((w.alloc o0).alloc o1).heap.size = w.heap.size + 1 + 1:=by
 obtain ⟨a,b,c⟩:=box1 w o0
 obtain ⟨d,e,f⟩:=box1 (w.alloc o0) o1
 rw [c] at d f
 exact ⟨(e.block _ (by omega)).trans a,d,b.trans (e.mono (by omega)),f⟩
theorem box3 (w : World) (o0 o1 o2 : Obj) : (((w.alloc o0).alloc o1).alloc o2).heap[w.heap.size]? = some o0 ∧ (((w.alloc o0).alloc o1).alloc o2).heap[w.heap.size + 1]? = some o1 ∧ (((w.alloc o0).alloc o1).alloc o2).heap[w.heap.size + 1 + 1]? = some o2 ∧
  Below w.heap.size w (((w.alloc o0).alloc o1).alloc o2) ∧ (((w.alloc o0).alloc o1).alloc o2).heap.size = w.heap.size + 1 + 1 + 1:=by
 obtain ⟨a,a',b,c⟩:=box2 w o0 o1
 obtain ⟨d,e,f⟩:=box1 ((w.alloc o0).alloc o1) o2
 rw [c] at d f
 exact ⟨(e.block _ (by omega)).trans a,(e.block _ (by omega)).trans a',d,b.trans (e.mono (by omega)),f⟩
theorem at_whole {w : World} {b : Nat} {cs : Array Value} {T : TypeId} (h : w.heap[b]? = some (.cells cs T (0,0))) (j : Nat) {v : Value} (hv : cs[j]? = some v) : w.cell? ⟨b,j,none⟩ = some v:=(cell_whole h j).trans hv
theorem belowN {n : Nat} {w w1 : World} (h : Below n w w1) (k : Nat) : Below n w (w1.drewN k):=⟨h.os,h.tape,h.output,h.size,h.block⟩
end
section
open Go.RowKit
def upward (ops : Array Oper) : Bool:=(List.range ops.size).all fun i=>((ops[i]?).map (·.after.all fun e=>!Region.binds .any e || decide (e.on < i))).getD true
section
variable {P : Program} {ops : Array Oper} {Q : Exit → Act → World → Prop}
theorem getD_is {l : Array Bool} {i : Nat} (h : i < l.size) : l.getD i true = l.getD i false:=by simp [Array.getD,h]
theorem mem_ready {l : Array Bool} {i : Nat} : i ∈ Region.ready .any ops l ↔ ∃ o,ops[i]? = some o ∧ l.getD i true = false ∧ ∀ e ∈ o.after,Region.binds .any e = true → l.getD e.on false = true:=by
 unfold Region.ready
 rw [List.mem_filter,List.mem_range]
 constructor
 ·rintro ⟨hi,h⟩
  rw [Array.getElem?_eq_getElem hi] at h ⊢
  simp only [Bool.and_eq_true,Option.map_some,Option.getD_some,Array.all_eq_true_iff_forall_mem,Bool.or_eq_true,Bool.not_eq_true'] at h
  exact ⟨_,rfl,h.1,fun e he hb=>(h.2 e he).resolve_left (by simp [hb])⟩
 ·rintro ⟨o,ho,h1,h2⟩
  refine ⟨(Array.getElem?_eq_some_iff.1 ho).1,?_⟩
  rw [ho]
  simp only [Bool.and_eq_true,Option.map_some,Option.getD_some,Array.all_eq_true_iff_forall_mem,Bool.or_eq_true,Bool.not_eq_true']
  exact ⟨h1,fun e he=>by
   cases hb : Region.binds .any e with
   | false=>exact .inl rfl
   | true=>exact .inr (h2 e he hb)⟩
theorem all_listed {l : Array Bool} (hz : l.size = ops.size) (hu : upward ops = true) (hr : Region.ready .any ops l = []) : ∀ i,i < ops.size → l.getD i false = true:=by
 intro i
 induction i using Nat.strongRecOn with
 | ind i ih=>
  intro hi
  cases hl : l.getD i false with
  | true=>rfl
  | false=>
   have ho : ops[i]? = some ops[i]:=Array.getElem?_eq_getElem hi
   have hup : ∀ e ∈ ops[i].after,Region.binds .any e = true → e.on < i:=by
    have:=List.all_eq_true.1 hu i (List.mem_range.2 hi)
    rw [ho] at this
    simp only [Option.map_some,Option.getD_some,Array.all_eq_true_iff_forall_mem,Bool.or_eq_true,Bool.not_eq_true',decide_eq_true_eq] at this
    exact fun e he hb=>(this e he).resolve_left (by simp [hb])
   have : i ∈ Region.ready .any ops l:=mem_ready.2 ⟨_,ho,by rw [getD_is (by omega)];exact hl,fun e he hb=>ih _ (hup e he hb) (Nat.lt_trans (hup e he hb) hi)⟩
   rw [hr] at this
   cases this
def left (n : Nat) (l : Array Bool) : Nat:=(List.range n).countP fun j=>!l.getD j true
theorem countP_lt {p q : Nat → Bool} {i : Nat} : ∀ {l : List Nat},i ∈ l → (∀ j,q j = true → p j = true) → p i = true → q i = false → l.countP q < l.countP p
 | [],h,_,_,_=>by cases h
 | x :: l,h,hpq,hp,hq=>by
  have hle : l.countP q ≤ l.countP p:=List.countP_mono_left (fun j _=>hpq j)
  rcases List.mem_cons.1 h with rfl | h
  ·rw [List.countP_cons_of_neg (by simp [hq]),List.countP_cons_of_pos hp];omega
  ·have:=countP_lt h hpq hp hq
   rw [List.countP_cons,List.countP_cons]
   have : (if q x = true then 1 else 0) ≤ (if p x = true then 1 else 0):=by
    by_cases hx : q x = true
    ·simp [hx,hpq x hx]
    ·simp [hx]
   omega
theorem left_set {n i : Nat} {l : Array Bool} (hi : i < n) (hz : l.size = n) (hl : l.getD i true = false) : left n (l.setIfInBounds i true) < left n l:=by
 unfold left
 refine countP_lt (i:=i) (List.mem_range.2 hi) (fun j hj=>?_) (by simp [hl]) (by simp [Array.getD,hz,hi])
 by_cases e : j = i
 ·subst e;simp [hl]
 ·by_cases hj2 : j < l.size
  ·simpa [Array.getD,hj2,Array.getElem_setIfInBounds,Ne.symm e] using hj
  ·simp [Array.getD,hj2] at hj
theorem wpAny_inv (I : (Nat → Bool) → Act → World → Prop) (hu : upward ops = true)
  (hs : ∀ (L : Nat → Bool) a w i o,ops[i]? = some o → L i = false → (∀ e ∈ o.after,Region.binds .any e = true → L e.on = true) → I L a w → wpOp P ops Q i (I (fun j=>j == i || L j)) a w)
  (he : ∀ L a w,(∀ i,i < ops.size → L i = true) → I L a w → Q .normal a w) :
  ∀ (fuel : Nat) (l : Array Bool) a w,l.size = ops.size → left ops.size l ≤ fuel → I (fun j=>l.getD j false) a w → wpAny P .any ops Q fuel l a w:=by
 intro fuel
 induction fuel with
 | zero=>
  intro l a w hz hf hI
  have hr : Region.ready .any ops l = []:=by
   rw [List.eq_nil_iff_forall_not_mem]
   intro i hi
   obtain ⟨o,ho,h1,_⟩:=mem_ready.1 hi
   have:=left_set (Array.getElem?_eq_some_iff.1 ho).1 hz h1
   omega
  exact ⟨hr,he _ a w (all_listed hz hu hr) hI⟩
 | succ fuel ih=>
  intro l a w hz hf hI
  refine ⟨fun hr=>he _ a w (all_listed hz hu hr) hI,fun i hi=>?_⟩
  obtain ⟨o,ho,h1,h2⟩:=mem_ready.1 hi
  have hlt:=(Array.getElem?_eq_some_iff.1 ho).1
  have hL : l.getD i false = false:=by rw [← getD_is (by omega)];exact h1
  have hd:=left_set hlt hz h1
  refine wpOp_mono (fun a' w' hI'=>ih _ a' w' (by simpa using hz) (by omega) ?_) (hs _ a w i o ho hL h2 hI)
  have e : (fun j=>(l.setIfInBounds i true).getD j false) = fun j=>j == i || l.getD j false:=by
   funext j
   by_cases e : j = i
   ·subst e;simp [Array.getD,hz,hlt]
   ·by_cases hj : j < l.size
    ·simp [Array.getD,hj,Ne.symm e,e]
    ·simp [Array.getD,hj,e]
  rw [e]
  exact hI'
theorem wp_region_inv {id : Nat} {a : Act} {w : World} (hm : P.follows .mixedOrders = true) (hu : upward ops = true) (I : (Nat → Bool) → Act → World → Prop) (h0 : I (fun _=>false) a w.drew)
  (hs : ∀ (L : Nat → Bool) a w i o,ops[i]? = some o → L i = false → (∀ e ∈ o.after,Region.binds .any e = true → L e.on = true) → I L a w → wpOp P ops Q i (I (fun j=>j == i || L j)) a w)
  (he : ∀ L a w,(∀ i,i < ops.size → L i = true) → I L a w → Q .normal a w) : (Code.region id ops true).wp P Q a w:=by
 refine wp_region_any hm (wpAny_inv I hu hs he _ _ _ _ (by simp) ?_ ?_)
 ·refine Nat.le_trans List.countP_le_length (by simp)
 ·have e : (fun j=>(Array.replicate ops.size false).getD j false) = fun _=>false:=by
   funext j
   by_cases hj : j < ops.size <;> simp [Array.getD,hj]
  rw [e]
  exact h0
end
end
section
open Go.RowKit
section
variable {F : Fence} {n : Nat} {P : Program} {ops : Array Oper} {Q : Exit → Act → World → Prop}
theorem wpAnyIn_inv (I : (Nat → Bool) → Act → World → Prop) (hu : upward ops = true)
  (hs : ∀ (L : Nat → Bool) a w i o,ops[i]? = some o → L i = false → (∀ e ∈ o.after,Region.binds .any e = true → L e.on = true) → I L a w → wpOpIn F n P ops Q i (I (fun j=>j == i || L j)) a w)
  (he : ∀ L a w,(∀ i,i < ops.size → L i = true) → I L a w → Q .normal a w) :
  ∀ (fuel : Nat) (l : Array Bool) a w,l.size = ops.size → left ops.size l ≤ fuel → I (fun j=>l.getD j false) a w → wpAnyIn F n P .any ops Q fuel l a w:=by
 intro fuel
 induction fuel with
 | zero=>
  intro l a w hz hf hI
  have hr : Region.ready .any ops l = []:=by
   rw [List.eq_nil_iff_forall_not_mem]
   intro i hi
   obtain ⟨o,ho,h1,_⟩:=mem_ready.1 hi
   have:=left_set (Array.getElem?_eq_some_iff.1 ho).1 hz h1
   omega
  exact ⟨hr,he _ a w (all_listed hz hu hr) hI⟩
 | succ fuel ih=>
  intro l a w hz hf hI
  refine ⟨fun hr=>he _ a w (all_listed hz hu hr) hI,fun i hi=>?_⟩
  obtain ⟨o,ho,h1,h2⟩:=mem_ready.1 hi
  have hlt:=(Array.getElem?_eq_some_iff.1 ho).1
  have hL : l.getD i false = false:=by rw [← getD_is (by omega)];exact h1
  have hd:=left_set hlt hz h1
  refine wpOpIn_mono (fun a' w' hI'=>ih _ a' w' (by simpa using hz) (by omega) ?_) (hs _ a w i o ho hL h2 hI)
  have e : (fun j=>(l.setIfInBounds i true).getD j false) = fun j=>j == i || l.getD j false:=by
   funext j
   by_cases e : j = i
   ·subst e;simp [Array.getD,hz,hlt]
   ·by_cases hj : j < l.size
    ·simp [Array.getD,hj,Ne.symm e,e]
    ·simp [Array.getD,hj,e]
  rw [e]
  exact hI'
theorem wpIn_region_inv {id : Nat} {a : Act} {w : World} (hm : P.follows .mixedOrders = true) (hu : upward ops = true) (I : (Nat → Bool) → Act → World → Prop) (h0 : I (fun _=>false) a w.drew)
  (hs : ∀ (L : Nat → Bool) a w i o,ops[i]? = some o → L i = false → (∀ e ∈ o.after,Region.binds .any e = true → L e.on = true) → I L a w → wpOpIn F n P ops Q i (I (fun j=>j == i || L j)) a w)
  (he : ∀ L a w,(∀ i,i < ops.size → L i = true) → I L a w → Q .normal a w) : (Code.region id ops true).wpIn F n P Q a w:=by
 refine wpIn_region_any hm (wpAnyIn_inv I hu hs he _ _ _ _ (by simp) ?_ ?_)
 ·refine Nat.le_trans List.countP_le_length (by simp)
 ·have e : (fun j=>(Array.replicate ops.size false).getD j false) = fun _=>false:=by
   funext j
   by_cases hj : j < ops.size <;> simp [Array.getD,hj]
  rw [e]
  exact h0
structure PHas (s m : Nat) (val : Nat → Value) (A0 : Act) (o : Oper) (a : Act) : Prop where
 old : ∀ p,p < s ∨ s + m ≤ p → a.tmps[p]? = A0.tmps[p]?
 dep : ∀ e ∈ o.after,Region.binds .any e = true → e.on < m → a.tmps[s + e.on]? = some (val e.on)
def covers (ops : Array Oper) (m : Nat) : Bool:=(List.range m).all fun j=>(List.range (m + 1)).any fun k=>decide (j < k) && ((ops[k]?).map (·.after.any fun e=>Region.binds .any e && e.on == j)).getD false
theorem all_of_last {m : Nat} {L : Nat → Bool} (hc : covers ops m = true) (hcl : ∀ j o e,(L j = true ∨ j = m) → ops[j]? = some o → e ∈ o.after → Region.binds .any e = true → L e.on = true) : ∀ d j,m = j + d → 0 < d → L j = true:=by
 intro d
 induction d using Nat.strongRecOn with
 | ind d ih=>
  intro j hj hd
  have h1:=List.all_eq_true.1 hc j (List.mem_range.2 (by omega))
  obtain ⟨k,hk,h2⟩:=List.any_eq_true.1 h1
  rw [Bool.and_eq_true,decide_eq_true_eq] at h2
  have hk2:=List.mem_range.1 hk
  cases ho : ops[k]? with
  | none=>rw [ho] at h2;simp at h2
  | some o=>
   rw [ho] at h2
   obtain ⟨hjk,h3⟩:=h2
   have h3 : (o.after.any fun e=>Region.binds .any e && e.on == j) = true:=h3
   rw [Array.any_eq_true'] at h3
   simp only [Bool.and_eq_true,beq_iff_eq] at h3
   obtain ⟨e,he,hb,rfl⟩:=h3
   refine hcl k o e ?_ ho he hb
   by_cases hkm : k = m
   ·exact .inr hkm
   ·exact .inl (ih (m - k) (by omega) k (by omega) (by omega))
theorem foldl_set (s m : Nat) (val : Nat → Value) (t : Array Value) (hsz : s + m ≤ t.size) : ∀ p,((List.range m).foldl (fun t j=>t.setIfInBounds (s + j) (val j)) t)[p]? = if s ≤ p ∧ p < s + m then some (val (p - s)) else t[p]?:=by
 induction m with
 | zero=>intro p;rw [if_neg (by omega)];rfl
 | succ m ih=>
  intro p
  have hz : ∀ (l : List Nat) (u : Array Value),(l.foldl (fun t j=>t.setIfInBounds (s + j) (val j)) u).size = u.size:=by
   intro l
   induction l with
   | nil=>intro u;rfl
   | cons x l ih2=>intro u;rw [List.foldl_cons,ih2];simp
  rw [List.range_succ,List.foldl_append]
  show (Array.setIfInBounds _ _ _)[p]? = _
  rw [Array.getElem?_setIfInBounds,ih (by omega) p,hz]
  by_cases h1 : s + m = p
  ·subst h1
   rw [if_pos rfl,if_pos (by omega),if_pos (by omega)]
   simp
  ·rw [if_neg h1]
   by_cases h2 : s ≤ p ∧ p < s + m
   ·rw [if_pos h2,if_pos (by omega)]
   ·rw [if_neg h2,if_neg (by omega)]
end
end
theorem stepR_scope {P : Program} {b : Frame} {a : Act} {k : List Item} {cs : List Frame} {w : World} {c : Code} : step P (lone (b.atR a (.code (.scope c) :: k)) cs w) = .next (lone (b.atR a (.code c :: .inScope c :: k)) cs w):=
 step_lone_go (by simp [stepG,stepG.exec,Frame.atR])
theorem stepR_inScope {P : Program} {b : Frame} {a : Act} {k : List Item} {cs : List Frame} {w : World} {c : Code} : step P (lone (b.atR a (.inScope c :: k)) cs w) = .next (lone (b.atR a k) cs w):=
 step_lone_go (by simp [stepG,stepG.exec,Frame.atR])
theorem wpIn_scope_straight {F : Fence} {n : Nat} {P : Program} {Q : Exit → Act → World → Prop} {a : Act} {w : World} {c : Code} (h : c.wpIn F n P (Exit.noGoto Q) a w) : (Code.scope c).wpIn F n P Q a w:=by
 intro b k cs hro hb hr
 have h0 : (lone (b.atR a (.code (.scope c) :: k)) cs w).fenced P F:=fenced_calm hb hr rfl
 obtain ⟨e,a₁,w₁,hq,harr⟩:=h b (.inScope c :: k) cs hro hb hr
 cases e with
 | normal=>exact ⟨.normal,a₁,w₁,hq,.head h0 stepR_scope (StepsIn.trans harr (.one (fenced_calm hb hr rfl) stepR_inScope))⟩
 | exit id=>
  have hx : exitTo id (.inScope c :: k) = exitTo id k:=by simp [exitTo]
  exact ⟨.exit id,a₁,w₁,hq,fun k' hk=>.head h0 stepR_scope (harr.1 k' (by rw [hx];exact hk)),
   fun hr' hk=>let ⟨k₁,h1,h2⟩:=harr.2 hr' (by rw [hx];exact hk);⟨k₁,h1,.head h0 stepR_scope h2⟩⟩
 | goto l=>exact hq.elim
 | ret=>exact ⟨_,a₁,w₁,hq,.of_steps (.one h0 stepR_scope) harr⟩
 | panic ch=>exact ⟨_,a₁,w₁,hq,.of_steps (.one h0 stepR_scope) harr⟩
 | outgrown=>exact ⟨_,a₁,w₁,hq,.of_steps (.one h0 stepR_scope) harr⟩
section
open Go.ChangeShapes Go.WideShapes Go.Deep Go.RowKit
section
variable {H : Type} {enc : TypeId × Value → H} {P : Program} {w : World} {base : Nat} {spare : Nat → Bool} {held : Bool}
end
def numAt (w : World) (b o : Nat) : Int:=match w.cell? ⟨b,o,none⟩ with
 | some (.int _ n)=>n
 | _=>0
def boolAt (w : World) (b o : Nat) : Bool:=match w.cell? ⟨b,o,none⟩ with
 | some (.bool x)=>x
 | _=>false
theorem bools_at {H : Type} {enc : TypeId × Value → H} {W : World} {base : Nat} {held : Bool} {t e : TypeId} {v : Value} {d : DataW H} {p : List MemPlace}
  (ht : Tryz.prog.underlying t = some (.slice e)) (he : Tryz.prog.underlying e = some .bool) (hC : Tryz.prog.cellsOf e = 1) (hv : Value.okWide Tryz.prog W .any base t v)
  (h : DataW.Trod enc Tryz.prog W 0 (fun _=>true) held t v d p) :
  ∃ a len cap,v = .slice a len cap ∧ len ≤ cap ∧ (len = 0 ∨ ∃ b off,a = some ⟨b,off,none⟩ ∧ cap ≤ maxLen ∧ b < W.heap.size ∧
   ∀ i,i < len → W.cell? ⟨b,off + i,none⟩ = some (.bool (boolAt W b (off + i)))):=by
 obtain ⟨a0,len,cap,rfl⟩:=okWide_slice ht hv
 obtain ⟨fuel,hf'⟩:=h
 rcases open_slice ht hf' with ⟨hcs,hx⟩ | ⟨a,len',cap',m,n,D,Pl,hcs,_,hl,hm,hmm,hx,hall⟩
 ·simp [Value.cells] at hcs
  obtain ⟨rfl,rfl,rfl⟩:=hcs
  exact ⟨none,0,0,rfl,Nat.le_refl _,.inl rfl⟩
 ·simp [Value.cells] at hcs
  obtain ⟨rfl,rfl,rfl⟩:=hcs
  simp only [if_true] at hmm
  refine ⟨some a,len,cap,rfl,hl,?_⟩
  rcases Nat.eq_zero_or_pos len with h0 | h0
  ·exact .inl h0
  ·right
   have one : ∀ i,i < len → ∃ z,W.cell? (a.add i) = some (.bool z):=by
    intro i hi'
    obtain ⟨cs',hc,htr⟩:=hall i (by omega)
    rw [hC] at hc
    obtain ⟨z,rfl,_⟩:=DataW.trod_bool he htr
    obtain ⟨_,hcl,hat⟩:=World.cells?_some hc
    have:=hat 0 (by simp)
    rw [Nat.mul_one] at this
    refine ⟨z,?_⟩
    simpa [Addr.add] using this
   obtain ⟨z0,hz0⟩:=one 0 h0
   have hsp:=cell_spot hz0
   obtain ⟨b,o,s⟩:=a
   obtain rfl : s = none:=by
    have:=congrArg Addr.spot hsp
    simpa [Addr.add] using this
   refine ⟨b,o,rfl,hm,?_,fun i hi'=>?_⟩
   ·have:=World.block_lt_of_cell? _ _ hz0
    rw [add_plain] at this
    exact this
   ·obtain ⟨z,hz⟩:=one i hi'
    rw [add_plain] at hz
    have : boolAt W b (o + i) = z:=by unfold boolAt;rw [hz]
    rw [this]
    exact hz
end
end Go.Proofs.YthckbmcmdcemkaaGreatDoor
