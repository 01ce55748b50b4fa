/- Texts of this claim, one behind the other: Mi Mh. -/
import Derived.Test.YthckbmcmdcemkaaGreatDoorBs23
import Derived.Test.YthckbmcmdcemkaaGreatDoorBs13
import Derived.Deep.CutRange
import Derived.Deep.RegionHeld3
import Derived.Deep.RegionWith
set_option maxRecDepth 100000
set_option maxHeartbeats 16000000
set_option linter.unusedSimpArgs false
set_option linter.unusedVariables false
namespace Go.Proofs.YthckbmcmdcemkaaGreatDoor.stm
section
open Go.RowKit Go.Maps Go.Sort
theorem mv {w w' : World} {t k : Nat} {o o' : Obj} (hg : w.grownBy w' (some t)) (hk : w.heap[k]? = some o) (ht : w.heap[t]? = some o') (hne : o ≠ o') : w'.heap[k]? = some o:=
 heap_grown hg hk (fun e=>by rw [e,ht] at hk;exact hne (Option.some.inj hk.symm))
theorem cne {a b : Array Value} {T S : TypeId} {z y : Nat × Nat} (h : T ≠ S) : Obj.cells a T z ≠ Obj.cells b S y:=fun e=>h (by injection e)
theorem two_new {w : World} {b : Nat} {cs : Array Value} {T : TypeId} (h : w.heap[b]? = some (.cells cs T (0,0))) (o : Obj) (i : Nat) (v : Value) :
  ((w.alloc o).setCell ⟨b,i,none⟩ v).heap[b]? = some (.cells (cs.setIfInBounds i v) T (0,0)) ∧ ((w.alloc o).setCell ⟨b,i,none⟩ v).heap[w.heap.size]? = some o ∧ ((w.alloc o).setCell ⟨b,i,none⟩ v).heap.size = w.heap.size + 1 ∧ w.grownBy ((w.alloc o).setCell ⟨b,i,none⟩ v) (some b):=by
 have hl:=heap_lt h
 have h1 : (w.alloc o).heap[b]? = some (.cells cs T (0,0)):=(Below.heap_alloc w o b hl).trans h
 refine ⟨heap_set v h1,(heap_setCell_other _ _ _ _ (fun e=>by have : w.heap.size = b:=e;omega)).trans (heap_alloc_new w o),by simp,grown_set (grown_alloc (grown_refl _ _) o) v⟩
theorem undrew {w w2 : World} (h : Below w.drew.heap.size w.drew w2) : Below w.heap.size w w2:=⟨h.os,h.tape,h.output,h.size,h.block⟩
theorem call_set {w w2 : World} {b : Nat} {cs : Array Value} {T : TypeId} (hb : Below w.heap.size w w2) (h : w.heap[b]? = some (.cells cs T (0,0))) (i : Nat) (v : Value) :
  (w2.setCell ⟨b,i,none⟩ v).heap[b]? = some (.cells (cs.setIfInBounds i v) T (0,0)) ∧ w.grownBy (w2.setCell ⟨b,i,none⟩ v) (some b) ∧ ∀ k o,w.heap.size ≤ k → w2.heap[k]? = some o → (w2.setCell ⟨b,i,none⟩ v).heap[k]? = some o:=by
 have hl:=heap_lt h
 exact ⟨heap_set v (heap_below hb h),grown_set (grown_below hb) v,fun k o hk ho=>(heap_setCell_other _ _ _ _ (fun e=>by have : k = b:=e;omega)).trans ho⟩
theorem at_whole' {w : World} {b i : Nat} {cs : Array Value} {T : TypeId} {v : Value} (h : w.heap[b]? = some (.cells cs T (0,0))) (hv : cs[i]? = some v) : w.cell? ⟨b,i,none⟩ = some v:=(cell_whole h i).trans hv
theorem al_cell {w : World} {b i : Nat} {cs : Array Value} {T : TypeId} {v : Value} (h : w.heap[b]? = some (.cells cs T (0,0))) (hv : cs[i]? = some v) : (∀ o,(w.alloc o).cell? ⟨b,i,none⟩ = some v) ∧ ∀ o,(w.alloc o).frozen? ⟨b,i,none⟩ = false:=by
 have hh : ∀ o,(w.alloc o).heap[b]? = some (.cells cs T (0,0)):=fun o=>(Below.heap_alloc w o b (heap_lt h)).trans h
 exact ⟨fun o=>at_whole' (hh o) hv,fun o=>frozen_whole (hh o) i⟩
theorem upd_heap1 {w : World} {k1 k2 : Nat} {o1 o2 : Obj} (h1 : w.heap[k1]? = some o1) (h2 : w.heap[k2]? = some o2) (hne : o1 ≠ o2) : k1 ≠ k2:=fun e=>by
 rw [e,h2] at h1;cases h1;exact hne rfl
def newOut (sd : Int) : OutP:=⟨newX 8192,⟨sd,0,0⟩,0,false,0,false,[],-1⟩
def newIn (sd : Nat) : InP:=⟨rea.newRb (max 1 sd),⟨sd,sd,0,0⟩,0,false,0,false,false,0,0,-1⟩
def outA (ob bb cb : Nat) : OutA:=⟨ob,bb,cb,.slice none 0 0,(· = bb)⟩
structure NewO (w wx : World) (xb id : Nat) (p1 p2 : Value) (sd : Int) (oa : Option OutA) : Prop where
 bl : Below w.heap.size w wx
 xl : w.heap.size ≤ xb
 xb : wx.heap[xb]? = some (.cells #[.int .i64 id,p1,p2,.bool false] 130 (0,0))
 pt : p1 = optP (oa.map (·.ob))
 o : ∀ a,oa = some a → w.heap.size ≤ a.ob ∧ w.heap.size ≤ a.bb ∧ w.heap.size ≤ a.cb ∧ a.ak = .slice none 0 0 ∧ a.bf = (· = a.bb) ∧ wx.heap[a.ob]? = some (.cells ((newOut sd).cells a) 126 (0,0)) ∧ wx.heap[a.bb]? = some (.cells ((newB 8192).cells (.slice none 0 0) (.slice none 0 0)) 209 (0,0)) ∧ wx.heap[a.cb]? = some (.cells (Snd.cells ⟨sd,0,0⟩) 161 (0,0))
structure NewI (w wx : World) (xb id : Nat) (p1 p2 : Value) (sd : Nat) (ia : Option InA) : Prop where
 bl : Below w.heap.size w wx
 xb : wx.heap[xb]? = some (.cells #[.int .i64 id,p1,p2,.bool false] 130 (0,0))
 pt : p2 = optP (ia.map (·.ib))
 i : ∀ a,ia = some a → w.heap.size ≤ a.ib ∧ w.heap.size ≤ a.rb ∧ w.heap.size ≤ a.g1 ∧ w.heap.size ≤ a.g2 ∧ w.heap.size ≤ a.wb ∧ wx.heap[a.ib]? = some (.cells ((newIn sd).cells a) 155 (0,0)) ∧ rea.RbAt wx a.rb a.g1 a.g2 (rea.newRb (max 1 sd)) ∧ wx.heap[a.wb]? = some (.cells (Rcr.cells ⟨sd,sd,0,0⟩) 200 (0,0))
theorem NewO.step {w wx w' : World} {xb id : Nat} {p1 p2 p2' : Value} {sd : Int} {oa : Option OutA} (h : NewO w wx xb id p1 p2 sd oa) {t : Nat} {cs : Array Value} {T : TypeId} (hg : wx.grownBy w' (some t)) (ht : wx.heap[t]? = some (.cells cs T (0,0))) (hT : T ≠ 126 ∧ T ≠ 209 ∧ T ≠ 161) (hl : w.heap.size ≤ t)
  (hx : w'.heap[xb]? = some (.cells #[.int .i64 id,p1,p2',.bool false] 130 (0,0))) : NewO w w' xb id p1 p2' sd oa:=
 ⟨below_grown h.bl hg hl,h.xl,hx,h.pt,fun a ha=>by
  obtain ⟨q1,q2,q3,q4,q5,q6,q7,q8⟩:=h.o a ha
  exact ⟨q1,q2,q3,q4,q5,mv hg q6 ht (cne (Ne.symm hT.1)),mv hg q7 ht (cne (Ne.symm hT.2.1)),mv hg q8 ht (cne (Ne.symm hT.2.2))⟩⟩
def hasO (cl : Bool) (id : Nat) : Bool:=isLoc cl id || decide (kindN id = 0)
def hasI (cl : Bool) (id : Nat) : Bool:=!isLoc cl id || decide (kindN id = 0)
def newStrm (cl : Bool) (psd : Int) (sd id : Nat) : Strm:=⟨id,if hasO cl id then some (newOut psd) else none,if hasI cl id then some (newIn sd) else none,false⟩
def insS (x : StA × Strm) : List (StA × Strm) → List (StA × Strm)
 | []=>[x]
 | y :: l=>if x.2.id < y.2.id then x :: y :: l else y :: insS x l
theorem mem_insS {x e : StA × Strm} {l : List (StA × Strm)} : e ∈ insS x l ↔ e = x ∨ e ∈ l:=by
 induction l with
 | nil=>simp [insS]
 | cons y l ih=>
  unfold insS
  split
  ·simp
  ·simp [ih];exact ⟨fun h=>by rcases h with h | h | h <;> simp [h],fun h=>by rcases h with h | h | h <;> simp [h]⟩
theorem length_insS {x : StA × Strm} {l : List (StA × Strm)} : (insS x l).length = l.length + 1:=by
 induction l with
 | nil=>rfl
 | cons y l ih=>unfold insS;split <;> simp [ih]
theorem pair_insS {R : StA × Strm → StA × Strm → Prop} (hs : ∀ a b,R a b → R b a) {x : StA × Strm} {l : List (StA × Strm)} (h : l.Pairwise R) (hx : ∀ e ∈ l,R x e) : (insS x l).Pairwise R:=by
 induction l with
 | nil=>simp [insS]
 | cons y l ih=>
  obtain ⟨h1,h2⟩:=List.pairwise_cons.1 h
  unfold insS
  split
  ·exact List.pairwise_cons.2 ⟨hx,h⟩
  ·refine List.pairwise_cons.2 ⟨fun e he=>?_,ih h2 (fun e he=>hx e (by simp [he]))⟩
   rcases mem_insS.1 he with rfl | he
   ·exact hs _ _ (hx y (by simp))
   ·exact h1 e he
theorem up_insS {x : StA × Strm} {l : List (StA × Strm)} (h : l.Pairwise fun e f=>e.2.id < f.2.id) (hx : ∀ e ∈ l,e.2.id ≠ x.2.id) : (insS x l).Pairwise fun e f=>e.2.id < f.2.id:=by
 induction l with
 | nil=>simp [insS]
 | cons y l ih=>
  obtain ⟨h1,h2⟩:=List.pairwise_cons.1 h
  have hy:=hx y (by simp)
  unfold insS
  split
  ·rename_i c
   exact List.pairwise_cons.2 ⟨fun e he=>by rcases List.mem_cons.1 he with rfl | he;exact c;have:=h1 e he;omega,h⟩
  ·refine List.pairwise_cons.2 ⟨fun e he=>?_,ih h2 (fun e he=>hx e (by simp [he]))⟩
   rcases mem_insS.1 he with rfl | he
   ·omega
   ·exact h1 e he
theorem mapE_tight {w : World} {M nn nx : Nat} {l : List Ent} (h : MapE w M nn l) (hu : UpE nx l) : MapE w M l.length l:=by
 obtain ⟨D,h1,h2⟩:=h
 have hsz : Maps.size D = l.length:=by
  obtain ⟨es,rfl,ht⟩:=h2.tidy
  have:=(keysE_sorted h2 hu (mapAt_keys h1) (List.Perm.refl _)).2
  simpa [Maps.size,intKeys] using this
 refine ⟨D,?_,h2⟩
 obtain ⟨es,clock,q1,q2,q3,rfl⟩:=h1
 refine ⟨es,clock,q1,q2,?_,rfl⟩
 rw [← hsz]
 simp [Maps.size,length_sorted]
theorem mapE_noC {w : World} {M nn : Nat} {l : List Ent} (h : MapE w M nn l) {o : Obj} (ho : w.heap[M]? = some o) : frm.isC o = false:=by
 obtain ⟨D,h1,_⟩:=h
 exact frm.MapAt.no_cells h1 ho
theorem MapE.put {w : World} {M nn : Nat} {l : List Ent} (h : MapE w M nn l) (p : Ent) (hp : ∀ q ∈ l,q.1 ≠ p.1) (hn : nn < 1000000000) (hw : p.1 < 4611686018427387904) : ∃ w',(Instr.mapUpdate 109 (.map (some M)) (.int .i64 p.1) (eP p)).run Tryz.prog w = .ok () w' ∧ MapE w' M (nn + 1) (p :: l) ∧ w.grownBy w' (some M):=by
 obtain ⟨D,h1,h2⟩:=h
 obtain ⟨w',q1,q2,q3⟩:=h1.put (t:=109) (e:=121) (K:=Maps.int_keyed Tryz.underlying3) Tryz.underlying109 (by unfold maxLen;omega) (eP p) (Maps.keyOf_int_mk Tryz.underlying3 (idWf (x:=p.1) (by omega)))
 exact ⟨w',q1,⟨_,q2,h2.put p hp⟩,q3⟩
theorem ents_mem {l : List (StA × Strm)} {p : Ent} : p ∈ ents l ↔ ∃ e ∈ l,(e.2.id,e.1.xb) = p:=by simp [ents]
theorem LiIn.upE {H : Nat → Option Obj} {l : List (StA × Strm)} (h : LiIn H l) : UpE 1152921504606846976 (ents l):=
 ⟨List.pairwise_map.2 h.up,fun p hp=>by obtain ⟨e,he,rfl⟩:=ents_mem.1 hp;exact h.bd e he⟩
theorem isC_ne' {mo : Obj} (h : frm.isC mo = false) (cs : Array Value) (T : TypeId) (z : Nat × Nat) : mo ≠ .cells cs T z:=fun e=>by rw [e] at h;cases h
theorem SetIn.add {W w wc w' : World} {H : Nat → Option Obj} {a : SetA} {s : SetS} {xb id : Nat} {p1 p2 : Value} {oa : Option OutA} {ia : Option InA} {sd : Nat} (hm : Mem W w H) (hs : SetIn H a s) (hid : id < 1152921504606846976) (hnew : ∀ e ∈ s.ss,e.2.id ≠ id) (hp0 : 0 ≤ s.peer.sdata) (hp1 : s.peer.sdata ≤ 1073741824) (hl2 : sd ≤ 8192)
  (NO : NewO w wc xb id p1 p2 s.peer.sdata oa) (NI : NewI w wc xb id p1 p2 sd ia) (ho : oa.isSome = hasO s.cl id) (hi : ia.isSome = hasI s.cl id) (hM : MapE w' a.M ((ents s.ss).length + 1) ((id,xb) :: ents s.ss)) (hg : wc.grownBy w' (some a.M)) :
  ∃ H' xa,To W w' H H' (s.foot a) (SetS.foot { s with ss:=insS (xa,newStrm s.cl s.peer.sdata sd id) s.ss } a) ∧ SetIn H' a { s with ss:=insS (xa,newStrm s.cl s.peer.sdata sd id) s.ss }:=by
 suffices hh : ∃ H' x,x.2 = newStrm s.cl s.peer.sdata sd id ∧ To W w' H H' (s.foot a) (SetS.foot { s with ss:=insS x s.ss } a) ∧ SetIn H' a { s with ss:=insS x s.ss } by
  obtain ⟨H',⟨xa,x2⟩,h1,h2⟩:=hh
  obtain rfl : x2 = _:=h1
  exact ⟨H',xa,h2⟩
 obtain ⟨mo,m1,m2,m3⟩:=hs.mp
 have hMlt:=hm.lt m1
 have hc : Chg (fun k=>k = a.M) w w':=by
  have h1 : Chg (fun k=>k = a.M) w wc:=Chg.below NO.bl
  exact h1.trans1 (Chg.grown hg rfl)
 have hx : ∃ x : StA × Strm,x = (⟨xb,oa,ia⟩,newStrm s.cl s.peer.sdata sd id):=⟨_,rfl⟩
 obtain ⟨x,hx⟩:=hx
 have hxf : ∀ k,x.1.foot k → w.heap.size ≤ k:=by
  subst hx
  rintro k (rfl | hk | hk)
  ·exact NO.xl
  ·cases oa with
   | none=>exact hk.elim
   | some o=>
    obtain ⟨q1,q2,q3,q4,q5,_⟩:=NO.o o rfl
    rcases hk with rfl | hk | rfl | hk
    ·exact q1
    ·rw [q5] at hk;have : k = o.bb:=hk;omega
    ·exact q3
    ·rw [q4] at hk;cases hk
  ·cases ia with
   | none=>exact hk.elim
   | some i=>
    obtain ⟨q1,q2,q3,q4,q5,_⟩:=NI.i i rfl
    rcases hk with rfl | rfl | rfl | rfl | rfl <;> assumption
 have hT:=To.ovr (f:=fun k=>k = a.M) (g:=fun k=>k = a.M ∨ x.1.foot k) hm hc (fun k hk=>by subst hk;exact (hm.far _ _ m1).2) (fun k hk=>hk.elim .inl (fun h=>.inr (hxf k h)))
 refine ⟨_,x,by rw [hx],hT.wide (fun k hk=>.inl (.inr (.inl hk))) (fun k hk=>?_),?_⟩
 ·rcases hk with hk | ⟨e,he,hk⟩
  ·exact .inr (.inl (.inl hk))
  ·rcases mem_insS.1 he with rfl | he
   ·exact .inl (.inr hk)
   ·exact .inr (.inl (.inr ⟨e,he,hk⟩))
 ·-- the new state
  have hne : ∀ {k : Nat} {cs : Array Value} {T : TypeId},H k = some (.cells cs T (0,0)) → ¬ k = a.M:=fun hk e=>by
   rw [e,m1] at hk;exact isC_ne' m2 _ _ _ (Option.some.inj hk)
  have at2 : ∀ {k : Nat} {cs : Array Value} {T : TypeId},wc.heap[k]? = some (.cells cs T (0,0)) → w'.heap[k]? = some (.cells cs T (0,0)):=fun {k cs T} hk=>by
   refine heap_grown hg hk (fun e=>?_)
   have h1 : wc.heap[a.M]? = some mo:=heap_below NO.bl (hm.at m1)
   rw [e,h1] at hk
   exact isC_ne' m2 _ _ _ (Option.some.inj hk)
  have nw : ∀ {k : Nat} {cs : Array Value} {T : TypeId},x.1.foot k → wc.heap[k]? = some (.cells cs T (0,0)) → ovr H (fun k=>k = a.M) (fun k=>k = a.M ∨ x.1.foot k) w' k = some (.cells cs T (0,0)):=fun hf hk=>ovr_at (.inr hf) (at2 hk)
  have hfoot : x.1 = ⟨xb,oa,ia⟩:=by rw [hx]
  have hX : StIn (ovr H (fun k=>k = a.M) (fun k=>k = a.M ∨ x.1.foot k) w') x.1 x.2:=by
   subst hx
   refine ⟨?_,?_,?_,fun k h1 h2=>?_⟩
   ·have:=nw (.inl rfl) NO.xb
    rw [NO.pt,NI.pt] at this
    exact this
   ·cases oa with
    | none=>simp only [newStrm];rw [← ho];exact trivial
    | some o=>
     obtain ⟨q1,q2,q3,q4,q5,q6,q7,q8⟩:=NO.o o rfl
     simp only [newStrm]
     rw [← ho]
     exact ⟨nw (.inr (.inl (.inl rfl))) q6,⟨newX_ok 8192 (by decide) (by decide),_,_,nw (.inr (.inl (.inr (.inl (by rw [q5]))))) q7,RowH.nil _ _ _,RowH.nil _ _ _,fun k=>by rw [q5];exact ⟨fun h=>.inl h,fun h=>by rcases h with h | h | h;exact h;cases h;cases h⟩⟩,nw (.inr (.inl (.inr (.inr (.inl rfl))))) q8,by rw [q4];exact RowH.nil _ _ _,⟨Int.le_refl _,hp0,by unfold maxOff;exact Int.le_trans hp1 (by decide)⟩,⟨(fun p hp=>by cases hp),List.Pairwise.nil⟩⟩
   ·cases ia with
    | none=>simp only [newStrm];rw [← hi];exact trivial
    | some i=>
     obtain ⟨q1,q2,q3,q4,q5,q6,q7,q8⟩:=NI.i i rfl
     simp only [newStrm]
     rw [← hi]
     exact ⟨nw (.inr (.inr (.inl rfl))) q6,nw (.inr (.inr (.inr (.inl rfl)))) q7.ob,nw (.inr (.inr (.inr (.inr (.inl rfl))))) q7.o1,nw (.inr (.inr (.inr (.inr (.inr (.inl rfl)))))) q7.o2,q7.hl,q7.sm,nw (.inr (.inr (.inr (.inr (.inr (.inr rfl)))))) q8,⟨Int.le_refl _,Int.le_refl _,(by show (0 : Int) ≤ (sd : Int);omega),(by show (sd : Int) ≤ 1099511627776;omega),(by show (0 : Int) ≤ (sd : Int);omega),(by show (sd : Int) ≤ 1073741824;omega)⟩⟩
   ·have no : ∀ {k1 k2 : Nat} {c1 c2 : Array Value} {T1 T2 : TypeId},wc.heap[k1]? = some (.cells c1 T1 (0,0)) → wc.heap[k2]? = some (.cells c2 T2 (0,0)) → k = k1 → k = k2 → T1 ≠ T2 → False:=fun h1 h2 e1 e2 hT=>by
     rw [← e1] at h1;rw [← e2,h1] at h2
     exact cne hT (Option.some.inj h2)
    cases oa with
    | none=>exact h1
    | some o=>cases ia with
     | none=>exact h2
     | some i=>
      obtain ⟨_,_,_,q4,q5,q6,q7,q8⟩:=NO.o o rfl
      obtain ⟨_,_,_,_,_,r6,r7,r8⟩:=NI.i i rfl
      rcases h1 with e | hk | e | hk
      ·rcases h2 with e2 | e2 | e2 | e2 | e2
       ·exact no q6 r6 e e2 (by decide)
       ·exact no q6 r7.ob e e2 (by decide)
       ·exact no q6 r7.o1 e e2 (by decide)
       ·exact no q6 r7.o2 e e2 (by decide)
       ·exact no q6 r8 e e2 (by decide)
      ·rw [q5] at hk
       rcases h2 with e2 | e2 | e2 | e2 | e2
       ·exact no q7 r6 hk e2 (by decide)
       ·exact no q7 r7.ob hk e2 (by decide)
       ·exact no q7 r7.o1 hk e2 (by decide)
       ·exact no q7 r7.o2 hk e2 (by decide)
       ·exact no q7 r8 hk e2 (by decide)
      ·rcases h2 with e2 | e2 | e2 | e2 | e2
       ·exact no q8 r6 e e2 (by decide)
       ·exact no q8 r7.ob e e2 (by decide)
       ·exact no q8 r7.o1 e e2 (by decide)
       ·exact no q8 r7.o2 e e2 (by decide)
       ·exact no q8 r8 e e2 (by decide)
      ·rw [q4] at hk;cases hk
  have keepOld : ∀ e ∈ s.ss,StIn (ovr H (fun k=>k = a.M) (fun k=>k = a.M ∨ x.1.foot k) w') e.1 e.2:=fun e he=>(hs.li.all e he).keep (fun k o hk ho=>hT.kp k o ho (fun c=>hs.dj k (.inr (.inl c)) ⟨e,he,hk⟩))
  have hid' : x.2.id = id:=by rw [hx];rfl
  have hpm : ∀ p,p ∈ ents (insS x s.ss) ↔ p ∈ (id,xb) :: ents s.ss:=fun p=>by
   rw [ents_mem,List.mem_cons]
   constructor
   ·rintro ⟨e,he,rfl⟩
    rcases mem_insS.1 he with rfl | he
    ·left;rw [hx];rfl
    ·right;exact ents_mem.2 ⟨e,he,rfl⟩
   ·rintro (rfl | h)
    ·exact ⟨x,mem_insS.2 (.inl rfl),by rw [hx];rfl⟩
    ·obtain ⟨e,he,rfl⟩:=ents_mem.1 h
     exact ⟨e,mem_insS.2 (.inr he),rfl⟩
  have hlen : (ents (insS x s.ss)).length = (ents s.ss).length + 1:=by simp [ents,length_insS]
  obtain ⟨mo',hmo'⟩ : ∃ mo',w'.heap[a.M]? = some mo':=⟨_,Array.getElem?_eq_getElem (Nat.lt_of_lt_of_le hMlt hc.size)⟩
  refine ⟨hT.kp _ _ hs.sb (hne hs.sb),⟨mo',ovr_at (.inl rfl) hmo',mapE_noC hM hmo',fun w2 h2=>?_⟩,hT.kp _ _ hs.cb (hne hs.cb),hT.kp _ _ hs.wb (hne hs.wb),hs.cr,hs.wn,⟨fun e he=>?_,pair_insS (fun e f h k h1 h2=>h k h2 h1) hs.li.dj (fun e he k h1 h2=>?_),up_insS hs.li.up (fun e he=>by rw [hid'];exact hnew e he),fun e he=>?_⟩,fun k hk=>?_⟩
  ·obtain ⟨D,d1,d2⟩:=hM.of_block (w':=w2) (h2.trans hmo'.symm)
   rw [hlen]
   exact ⟨D,d1,d2.same hpm⟩
  ·rcases mem_insS.1 he with rfl | he
   ·exact hX
   ·exact keepOld e he
  ·obtain ⟨o,ho⟩:=(hs.li.all e he).dom h2
   have:=hm.lt ho
   have:=hxf k h1
   omega
  ·rcases mem_insS.1 he with rfl | he
   ·rw [hid'];exact hid
   ·exact hs.li.bd e he
  ·rintro ⟨e,he,hf⟩
   rcases mem_insS.1 he with rfl | he
   ·have h1:=hxf k hf
    have h2 : ∃ o,H k = some o:=by rcases hk with rfl | rfl | rfl | rfl;exact ⟨_,hs.sb⟩;exact ⟨_,m1⟩;exact ⟨_,hs.cb⟩;exact ⟨_,hs.wb⟩
    obtain ⟨o,ho⟩:=h2
    have:=hm.lt ho
    omega
   ·exact hs.dj k hk ⟨e,he,hf⟩
end
section
open Go.RowKit
theorem create_any (a : SetA) (s : SetS) (H : Nat → Option Obj) (W w : World) (id : Nat) (hm : Mem W w H) (hs : SetIn H a s) (hid : id < 1152921504606846976) (hp0 : 0 ≤ s.peer.sdata) (hp1 : s.peer.sdata ≤ 1073741824) (sd : Nat) (hl : s.loc.sdata = sd) (hl2 : sd ≤ 8192) (hnew : ∀ e ∈ s.ss,e.2.id ≠ id) (hlen : s.ss.length ≤ 900000) :
  Calls Tryz.prog 57 #[ptr a.sb,.int .i64 id] w fun e w'=>e = .returned (.tuple #[]) ∧ ∃ H' xa,To W w' H H' (s.foot a) (SetS.foot { s with ss:=insS (xa,newStrm s.cl s.peer.sdata sd id) s.ss } a) ∧ SetIn H' a { s with ss:=insS (xa,newStrm s.cl s.peer.sdata sd id) s.ss }:=by
 have LC:=Lib.hid (fun (wx : World) (hx : wx.cell? ⟨a.sb,0,none⟩ = some (.bool s.cl))=>local_any a.sb id s.cl (by omega) wx hx)
 have KD:=Lib.hid (fun (wx : World)=>kind_any id (by omega) wx)
 have NB:=Lib.hid (fun (wx : World)=>(new_ok 8192 wx (by decide) (by decide)).mono (fun e w' hh=>(show ∃ bb,e = .returned (.tuple #[.pointer (some ⟨bb,0,none⟩),.int .i64 0]) ∧ Below wx.heap.size wx w' ∧ bb = wx.heap.size ∧ w'.heap[bb]? = some (.cells ((newB 8192).cells (.slice none 0 0) (.slice none 0 0)) 209 (0,0)) from ⟨_,hh.1,by rw [hh.2];exact bz0.alloc (Nat.le_refl _) _,rfl,by rw [hh.2];exact heap_alloc_new _ _⟩)))
 have NS:=Lib.hid (fun (wx : World)=>(newS_any s.peer.sdata hp0 (by omega) wx).mono (fun e w' hh=>(show ∃ bb,e = .returned (.tuple #[.pointer (some ⟨bb,0,none⟩),.int .i64 0]) ∧ Below wx.heap.size wx w' ∧ bb = wx.heap.size ∧ w'.heap[bb]? = some (.cells (Snd.cells ⟨s.peer.sdata,0,0⟩) 161 (0,0)) from ⟨_,hh.1,by rw [hh.2];exact bz0.alloc (Nat.le_refl _) _,rfl,by rw [hh.2];exact heap_alloc_new _ _⟩)))
 have NW:=Lib.hid (fun (wx : World)=>(newR_any (sd : Int) (by omega) (by omega) wx).mono (fun e w' hh=>(show ∃ bb,e = .returned (.tuple #[.pointer (some ⟨bb,0,none⟩),.int .i64 0]) ∧ Below wx.heap.size wx w' ∧ bb = wx.heap.size ∧ w'.heap[bb]? = some (.cells (Rcr.cells ⟨sd,sd,0,0⟩) 200 (0,0)) from ⟨_,hh.1,by rw [hh.2];exact bz0.alloc (Nat.le_refl _) _,rfl,by rw [hh.2];exact heap_alloc_new _ _⟩)))
 have HSB:=Lib.hid (hm.at hs.sb)
 have OLD : Hid (∀ wx,Below w.heap.size w wx → wx.cell? ⟨a.sb,0,none⟩ = some (.bool s.cl) ∧ wx.cell? ⟨a.sb,8,none⟩ = some (.int .i64 s.peer.sdata) ∧ wx.cell? ⟨a.sb,2,none⟩ = some (.int .i64 sd) ∧ wx.cell? ⟨a.sb,13,none⟩ = some (.map (some a.M))):=Lib.hid (fun wx hb=>by
  have h1:=heap_below hb HSB.out
  exact ⟨at_whole h1 0 rfl,at_whole h1 8 rfl,by rw [← hl];exact at_whole h1 2 rfl,at_whole h1 13 rfl⟩)
 have lsb:=heap_lt HSB.out
 unfold ptr at *
 go_enter Tryz.func57,Tryz.ntmps57
 go_upto_region 1 with (fail)
 have B0:=Lib.hid (show Below w.heap.size w (w.alloc (.cells #[.int .i64 id,.pointer none,.pointer none,.bool false] 130)) from (Below.refl _ w).alloc (Nat.le_refl _) _)
 have X0:=Lib.hid (heap_alloc_new w (.cells #[.int .i64 id,.pointer none,.pointer none,.bool false] 130))
 generalize w.alloc _ = w0 at B0 X0 ⊢
 obtain ⟨xb,hxb⟩ : ∃ xb,w.heap.size = xb:=⟨_,rfl⟩
 rw [hxb] at X0 ⊢
 obtain ⟨c0,_,_,_⟩:=OLD.out _ B0.out
 obtain ⟨ho,hho⟩ : ∃ b,hasO s.cl id = b:=⟨_,rfl⟩
 have HO:=Lib.hid hho
 unfold hasO at hho
 obtain ⟨lc,hlc⟩ : ∃ b,isLoc s.cl id = b:=⟨_,rfl⟩
 obtain ⟨kd,hkd⟩ : ∃ k,kindN id = k:=⟨_,rfl⟩
 have HLC:=Lib.hid (And.intro hlc hkd)
 rw [hlc] at LC hho
 rw [hkd] at KD hho
 clear hlc hkd
 obtain ⟨kz,hkz⟩ : ∃ b,decide (kd = 0) = b:=⟨_,rfl⟩
 have hk0 : ((kd : Int) == 0) = kz:=by rw [← hkz,Bool.eq_iff_iff];simp
 have hk1 : (kd == 0) = kz:=by rw [← hkz,Bool.eq_iff_iff];simp
 rw [hkz] at hho
 have HKZ:=Lib.hid hkz
 clear hkz
 go_cut [15] from 5 to 96 (fun s15 w'=>s15 = .bool ho ∧ w' = w0)
 case first=>
  have c0:=c0
  cases lc
  ·have hho2 : ho = kz:=by rw [← hho];rfl
   subst hho2
   clear hho
   go_wp2_with (first | (go_at_call 73;refine (LC.out _ c0).mono ?_;rintro e wv ⟨rfl,rfl⟩) | (go_at_call 119;refine (KD.out _).mono ?_;rintro e wv ⟨rfl,rfl⟩))
   go_meet
   exact ⟨rfl,rfl⟩
  ·have hho2 : ho = true:=by rw [← hho];rfl
   subst hho2
   clear hho
   go_wp2_with (first | (go_at_call 73;refine (LC.out _ c0).mono ?_;rintro e wv ⟨rfl,rfl⟩) | (go_at_call 119;refine (KD.out _).mono ?_;rintro e wv ⟨rfl,rfl⟩))
   go_meet
   exact ⟨rfl,rfl⟩
 case rest=>
 obtain ⟨rfl,e9⟩:=hcut
 obtain rfl:=e9.symm
 clear c0 hho
 go_upto_if 15 with (fail)
 go_cut [4] from 5 to 96 (fun s4 w'=>s4 = .pointer (some ⟨xb,0,none⟩) ∧ ∃ oa p1,Hid (NewO w w' xb id p1 (.pointer none) s.peer.sdata oa ∧ (oa.isSome = ho)))
 case first=>
  cases ho
  ·go_wp2
   go_meet
   exact ⟨rfl,none,.pointer none,Lib.hid ⟨⟨B0.out,by omega,X0.out,rfl,fun a h=>by cases h⟩,rfl⟩⟩
  ·have B0:=B0
   obtain ⟨ax,zx⟩:=al_cell (i:=1) X0.out rfl
   obtain ⟨x1,o1,s1,gr1⟩:=two_new X0.out (.cells #[.pointer none,.pointer none,.int .i64 0,.bool false,.int .i64 0,.bool false,.slice none 0 0,.int .i64 (-1)] 126) 1 (.pointer (some ⟨w0.heap.size,0,none⟩))
   obtain ⟨ob,hob⟩ : ∃ ob,w0.heap.size = ob:=⟨_,rfl⟩
   rw [hob] at x1 o1 gr1
   have X1:=Lib.hid x1
   have O1:=Lib.hid o1
   have G1:=Lib.hid gr1
   clear x1 o1 s1 gr1
   go_upto_region 3 with (fail)
   generalize World.setCell _ _ _ = w1 at X1 O1 G1 ⊢
   simp only [List.setIfInBounds_toArray,List.set_cons_zero,List.set_cons_succ,List.getElem_toArray,List.getElem_cons_zero,List.getElem_cons_succ] at X1
   clear ax zx
   have c1 : w1.cell? ⟨xb,1,none⟩ = some (.pointer (some ⟨ob,0,none⟩)):=at_whole' X1.out rfl
   have o0 : w1.cell? ⟨ob,0,none⟩ = some (.pointer none):=at_whole' O1.out rfl
   have fo0 : w1.frozen? ⟨ob,0,none⟩ = false:=frozen_whole O1.out 0
   have lo:=heap_lt O1.out
   have nxo : xb ≠ ob:=upd_heap1 X1.out O1.out (cne (by decide))
   go_wp2_with fail
   have HS:=Lib.hid (show ∀ w',Held w1 (ob) w' → (w'.cell? ⟨xb,1,none⟩ = some (.pointer (some ⟨ob,0,none⟩)) ∧ w'.frozen? ⟨ob,0,none⟩ = false ∧ w'.cell? ⟨ob,0,none⟩ = some (cur w' ⟨ob,0,none⟩)) from fun w' h=>⟨h.cell c1 (by first | omega | assumption),h.froz fo0 lo,h.cur o0⟩)
   go_region_held3 (fun w'=>w'.cell? ⟨xb,1,none⟩ = some (.pointer (some ⟨ob,0,none⟩)) ∧ w'.frozen? ⟨ob,0,none⟩ = false ∧ w'.cell? ⟨ob,0,none⟩ = some (cur w' ⟨ob,0,none⟩)) (first | exact HS.out _ (Held.start w1 ob) | exact HS.out _ ((Held.start w1 ob).below N2.out.1) | exact HS.out _ (((Held.start w1 ob).below N2.out.1).set 0 _)) ((go_at_call 120;refine (NB.out _).mono ?_;rintro e w2 ⟨bb,rfl,hb2,hbb,hB⟩;have N2:=Lib.hid (And.intro hb2 (And.intro hbb hB));clear hbb hB hb2))
   obtain ⟨q1,q2,q3⟩:=call_set (undrew N2.out.1) O1.out 0 (.pointer (some ⟨bb,0,none⟩))
   have X3:=Lib.hid (mv q2 X1.out O1.out (cne (by decide)))
   have P3:=Lib.hid (q3 bb _ (Nat.le_of_eq N2.out.2.1.symm) N2.out.2.2)
   simp only [List.setIfInBounds_toArray,List.set_cons_zero,List.set_cons_succ] at q1
   have O3:=Lib.hid q1
   have hbb1 : Hid (w.heap.size ≤ bb):=Lib.hid (by have:=N2.out.2.1;have h2:=heap_lt X1.out;have : bb = w1.heap.size:=N2.out.2.1;omega)
   have B1:=below_grown B0.out G1.out (by omega)
   have B3:=Lib.hid (below_grown B1 q2 (by have:=B0.out.size;omega))
   clear q1 q2 q3 c1 o0 fo0 lo HS N2 O1 X1 G1 B1
   generalize World.setCell w2 _ _ = w3 at X3 P3 O3 B3 ⊢
   have lob : w.heap.size ≤ ob:=by have:=B0.out.size;omega
   have nso : a.sb ≠ ob:=by omega
   clear hob
   have c1 : w3.cell? ⟨xb,1,none⟩ = some (.pointer (some ⟨ob,0,none⟩)):=at_whole' X3.out rfl
   have c8 : w3.cell? ⟨a.sb,8,none⟩ = some (.int .i64 s.peer.sdata):=(OLD.out _ B3.out).2.1
   have o0 : w3.cell? ⟨ob,1,none⟩ = some (.pointer none):=at_whole' O3.out rfl
   have fo0 : w3.frozen? ⟨ob,1,none⟩ = false:=frozen_whole O3.out 1
   have lo:=heap_lt O3.out
   go_wp2_with fail
   have HS:=Lib.hid (show ∀ w',Held w3 (ob) w' → (w'.cell? ⟨xb,1,none⟩ = some (.pointer (some ⟨ob,0,none⟩)) ∧ w'.cell? ⟨a.sb,8,none⟩ = some (.int .i64 s.peer.sdata) ∧ w'.frozen? ⟨ob,1,none⟩ = false ∧ w'.cell? ⟨ob,1,none⟩ = some (cur w' ⟨ob,1,none⟩)) from fun w' h=>⟨h.cell c1 (by first | omega | assumption),h.cell c8 (by first | omega | assumption),h.froz fo0 lo,h.cur o0⟩)
   go_region_held3 (fun w'=>w'.cell? ⟨xb,1,none⟩ = some (.pointer (some ⟨ob,0,none⟩)) ∧ w'.cell? ⟨a.sb,8,none⟩ = some (.int .i64 s.peer.sdata) ∧ w'.frozen? ⟨ob,1,none⟩ = false ∧ w'.cell? ⟨ob,1,none⟩ = some (cur w' ⟨ob,1,none⟩)) (first | exact HS.out _ (Held.start w3 ob) | exact HS.out _ ((Held.start w3 ob).below N2.out.1) | exact HS.out _ (((Held.start w3 ob).below N2.out.1).set 1 _)) ((go_at_call 29;refine (NS.out _).mono ?_;rintro e w4 ⟨cb,rfl,hb2,hbb,hB⟩;have N2:=Lib.hid (And.intro hb2 (And.intro hbb hB));clear hbb hB hb2))
   obtain ⟨q1,q2,q3⟩:=call_set (undrew N2.out.1) O3.out 1 (.pointer (some ⟨cb,0,none⟩))
   have X5:=Lib.hid (mv q2 X3.out O3.out (cne (by decide)))
   have P5:=Lib.hid (mv q2 P3.out O3.out (cne (by decide)))
   have C5:=Lib.hid (q3 cb _ (Nat.le_of_eq N2.out.2.1.symm) N2.out.2.2)
   simp only [List.setIfInBounds_toArray,List.set_cons_zero,List.set_cons_succ] at q1
   have O5:=Lib.hid q1
   have hcb1 : Hid (w.heap.size ≤ cb):=Lib.hid (by have : cb = w3.heap.size:=N2.out.2.1;have:=B3.out.size;omega)
   have B5:=Lib.hid (below_grown B3.out q2 lob)
   clear q1 q2 q3 c1 c8 o0 fo0 lo HS N2 O3 X3 P3
   generalize World.setCell w4 _ _ = w5 at X5 P5 C5 O5 B5 ⊢
   go_wp2
   go_meet
   exact ⟨rfl,some (outA ob bb cb),.pointer (some ⟨ob,0,none⟩),Lib.hid ⟨⟨B5.out,by omega,X5.out,rfl,fun a h=>by cases h;exact ⟨lob,hbb1.out,hcb1.out,rfl,rfl,O5.out,P5.out,C5.out⟩⟩,rfl⟩⟩
 case rest=>
 obtain ⟨rfl,oa,p1,NO⟩:=hcut
 have HO9:=Lib.hid HO.out
 clear B0 X0 HO
 obtain ⟨hi,hhi⟩ : ∃ b,hasI s.cl id = b:=⟨_,rfl⟩
 have HI:=Lib.hid hhi
 unfold hasI at hhi
 rw [HLC.out.1,HLC.out.2,HKZ.out] at hhi
 obtain ⟨c0,_,_,_⟩:=OLD.out _ NO.out.1.bl
 go_upto_region 5 with (fail)
 go_cut [54] from 5 to 96 (fun s54 w'=>s54 = .bool hi ∧ w' = wc)
 case first=>
  have c0:=c0
  cases lc
  ·have hhi2 : hi = true:=by rw [← hhi];rfl
   subst hhi2
   clear hhi
   go_wp2_with (first | (go_at_call 73;refine (LC.out _ c0).mono ?_;rintro e wv ⟨rfl,rfl⟩) | (go_at_call 119;refine (KD.out _).mono ?_;rintro e wv ⟨rfl,rfl⟩))
   go_meet
   exact ⟨rfl,rfl⟩
  ·have hhi2 : hi = kz:=by rw [← hhi];rfl
   subst hhi2
   clear hhi
   go_wp2_with (first | (go_at_call 73;refine (LC.out _ c0).mono ?_;rintro e wv ⟨rfl,rfl⟩) | (go_at_call 119;refine (KD.out _).mono ?_;rintro e wv ⟨rfl,rfl⟩))
   go_meet
   exact ⟨rfl,rfl⟩
 case rest=>
 obtain ⟨rfl,e9⟩:=hcut
 obtain rfl:=e9.symm
 clear c0 hhi
 go_upto_if 54 with (fail)
 go_cut [4] from 5 to 96 (fun s4 w'=>s4 = .pointer (some ⟨xb,0,none⟩) ∧ ∃ ia p2,Hid (NewO w w' xb id p1 p2 s.peer.sdata oa ∧ NewI w w' xb id p1 p2 sd ia ∧ (oa.isSome = ho) ∧ ia.isSome = hi))
 case first=>
  cases hi
  ·go_wp2
   go_meet
   exact ⟨rfl,none,.pointer none,Lib.hid ⟨NO.out.1,⟨NO.out.1.bl,NO.out.1.xb,rfl,fun a h=>by cases h⟩,NO.out.2,rfl⟩⟩
  ·have X6:=Lib.hid NO.out.1.xb
   have lxb:=NO.out.1.xl
   obtain ⟨ax,zx⟩:=al_cell (i:=2) X6.out rfl
   obtain ⟨x1,o1,s1,gr1⟩:=two_new X6.out (.cells #[.pointer none,.pointer none,.int .i64 0,.bool false,.int .i64 0,.bool false,.bool false,.int .i64 0,.int .i64 0,.int .i64 (-1)] 155) 2 (.pointer (some ⟨wc.heap.size,0,none⟩))
   obtain ⟨ib,hib⟩ : ∃ ib,wc.heap.size = ib:=⟨_,rfl⟩
   rw [hib] at x1 o1 gr1
   have X7:=Lib.hid x1
   have O7:=Lib.hid o1
   have G7:=Lib.hid gr1
   clear x1 o1 s1 gr1
   go_upto_region 7 with (fail)
   generalize World.setCell _ _ _ = w7 at X7 O7 G7 ⊢
   simp only [List.setIfInBounds_toArray,List.set_cons_zero,List.set_cons_succ,List.getElem_toArray,List.getElem_cons_zero,List.getElem_cons_succ] at X7
   clear ax zx
   have NO7:=Lib.hid (NO.out.1.step G7.out X6.out ⟨by decide,by decide,by decide⟩ lxb X7.out)
   have lib : w.heap.size ≤ ib:=by have:=NO.out.1.bl.size;omega
   have nxo : xb ≠ ib:=upd_heap1 X7.out O7.out (cne (by decide))
   have nso : a.sb ≠ ib:=by omega
   clear hib X6
   obtain ⟨mx,hmx⟩ : ∃ mx,max 1 sd = mx:=⟨_,rfl⟩
   have hm1 : (if (1 : Int) < (sd : Int) then (sd : Int) else 1) = (mx : Int):=by rw [← hmx];split <;> omega
   have hm2 : (if 1 < sd then (sd : Int) else 1) = (mx : Int):=by rw [← hmx];split <;> omega
   have hm3 : (if (sd : Int) < 1 then (1 : Int) else (sd : Int)) = (mx : Int):=by rw [← hmx];split <;> omega
   have hm4 : max (1 : Int) (sd : Int) = (mx : Int):=by omega
   have NR:=Lib.hid (fun (wx : World)=>rea.new_any mx (by omega) (by omega) wx)
   have HMX:=Lib.hid hmx
   clear hmx
   have c2 : w7.cell? ⟨xb,2,none⟩ = some (.pointer (some ⟨ib,0,none⟩)):=at_whole' X7.out rfl
   have c8 : w7.cell? ⟨a.sb,2,none⟩ = some (.int .i64 sd):=(OLD.out _ NO7.out.bl).2.2.1
   have o0 : w7.cell? ⟨ib,0,none⟩ = some (.pointer none):=at_whole' O7.out rfl
   have fo0 : w7.frozen? ⟨ib,0,none⟩ = false:=frozen_whole O7.out 0
   have lo:=heap_lt O7.out
   go_wp2_with fail
   have HS:=Lib.hid (show ∀ w',Held w7 (ib) w' → (w'.cell? ⟨xb,2,none⟩ = some (.pointer (some ⟨ib,0,none⟩)) ∧ w'.cell? ⟨a.sb,2,none⟩ = some (.int .i64 sd) ∧ w'.frozen? ⟨ib,0,none⟩ = false ∧ w'.cell? ⟨ib,0,none⟩ = some (cur w' ⟨ib,0,none⟩)) from fun w' h=>⟨h.cell c2 (by first | omega | assumption),h.cell c8 (by first | omega | assumption),h.froz fo0 lo,h.cur o0⟩)
   go_region_held3 (fun w'=>w'.cell? ⟨xb,2,none⟩ = some (.pointer (some ⟨ib,0,none⟩)) ∧ w'.cell? ⟨a.sb,2,none⟩ = some (.int .i64 sd) ∧ w'.frozen? ⟨ib,0,none⟩ = false ∧ w'.cell? ⟨ib,0,none⟩ = some (cur w' ⟨ib,0,none⟩)) (first | exact HS.out _ (Held.start w7 ib) | exact HS.out _ ((Held.start w7 ib).below N2.out.1) | exact HS.out _ (((Held.start w7 ib).below N2.out.1).set 0 _)) ((go_at_call 121;refine (NR.out _).mono ?_;rintro e w8 ⟨rb,g1,g2,rfl,hR,hb2,l1,l2,l3⟩;have N2:=Lib.hid (And.intro hb2 (And.intro hR (And.intro l1 (And.intro l2 l3))));clear hb2 hR l1 l2 l3))
   obtain ⟨q1,q2,q3⟩:=call_set (undrew N2.out.1) O7.out 0 (.pointer (some ⟨rb,0,none⟩))
   have X9:=Lib.hid (mv q2 X7.out O7.out (cne (by decide)))
   have R9:=Lib.hid (show rea.RbAt _ rb g1 g2 (rea.newRb mx) from ⟨q3 rb _ N2.out.2.2.1 N2.out.2.1.ob,q3 g1 _ N2.out.2.2.2.1 N2.out.2.1.o1,q3 g2 _ N2.out.2.2.2.2 N2.out.2.1.o2,N2.out.2.1.hl,N2.out.2.1.sm⟩)
   simp only [List.setIfInBounds_toArray,List.set_cons_zero,List.set_cons_succ] at q1
   have O9:=Lib.hid q1
   have NO9:=Lib.hid (NO7.out.step q2 O7.out ⟨by decide,by decide,by decide⟩ lib X9.out)
   have LR : Hid (w.heap.size ≤ rb ∧ w.heap.size ≤ g1 ∧ w.heap.size ≤ g2):=Lib.hid (by
    have h0 : w.heap.size ≤ w7.heap.size:=NO7.out.bl.size
    exact ⟨Nat.le_trans h0 N2.out.2.2.1,Nat.le_trans h0 N2.out.2.2.2.1,Nat.le_trans h0 N2.out.2.2.2.2⟩)
   clear q1 q2 q3 c2 c8 o0 fo0 lo HS N2 O7 X7 G7 NO7
   generalize World.setCell w8 _ _ = w9 at X9 O9 R9 NO9 ⊢
   have c2 : w9.cell? ⟨xb,2,none⟩ = some (.pointer (some ⟨ib,0,none⟩)):=at_whole' X9.out rfl
   have c8 : w9.cell? ⟨a.sb,2,none⟩ = some (.int .i64 sd):=(OLD.out _ NO9.out.bl).2.2.1
   have o0 : w9.cell? ⟨ib,1,none⟩ = some (.pointer none):=at_whole' O9.out rfl
   have fo0 : w9.frozen? ⟨ib,1,none⟩ = false:=frozen_whole O9.out 1
   have lo:=heap_lt O9.out
   go_wp2_with fail
   have HS:=Lib.hid (show ∀ w',Held w9 (ib) w' → (w'.cell? ⟨xb,2,none⟩ = some (.pointer (some ⟨ib,0,none⟩)) ∧ w'.cell? ⟨a.sb,2,none⟩ = some (.int .i64 sd) ∧ w'.frozen? ⟨ib,1,none⟩ = false ∧ w'.cell? ⟨ib,1,none⟩ = some (cur w' ⟨ib,1,none⟩)) from fun w' h=>⟨h.cell c2 (by first | omega | assumption),h.cell c8 (by first | omega | assumption),h.froz fo0 lo,h.cur o0⟩)
   go_region_held3 (fun w'=>w'.cell? ⟨xb,2,none⟩ = some (.pointer (some ⟨ib,0,none⟩)) ∧ w'.cell? ⟨a.sb,2,none⟩ = some (.int .i64 sd) ∧ w'.frozen? ⟨ib,1,none⟩ = false ∧ w'.cell? ⟨ib,1,none⟩ = some (cur w' ⟨ib,1,none⟩)) (first | exact HS.out _ (Held.start w9 ib) | exact HS.out _ ((Held.start w9 ib).below N2.out.1) | exact HS.out _ (((Held.start w9 ib).below N2.out.1).set 1 _)) ((go_at_call 56;refine (NW.out _).mono ?_;rintro e w10 ⟨wb,rfl,hb2,hbb,hB⟩;have N2:=Lib.hid (And.intro hb2 (And.intro hbb hB));clear hb2 hbb hB))
   obtain ⟨q1,q2,q3⟩:=call_set (undrew N2.out.1) O9.out 1 (.pointer (some ⟨wb,0,none⟩))
   have X11:=Lib.hid (mv q2 X9.out O9.out (cne (by decide)))
   have R11:=Lib.hid (show rea.RbAt _ rb g1 g2 (rea.newRb mx) from ⟨mv q2 R9.out.ob O9.out (cne (by decide)),mv q2 R9.out.o1 O9.out (cne (by decide)),mv q2 R9.out.o2 O9.out (cne (by decide)),R9.out.hl,R9.out.sm⟩)
   have W11:=Lib.hid (q3 wb _ (Nat.le_of_eq N2.out.2.1.symm) N2.out.2.2)
   have lwb : w.heap.size ≤ wb:=by have : wb = w9.heap.size:=N2.out.2.1;have:=NO9.out.bl.size;omega
   simp only [List.setIfInBounds_toArray,List.set_cons_zero,List.set_cons_succ] at q1
   have O11:=Lib.hid q1
   have NO11:=Lib.hid (NO9.out.step q2 O9.out ⟨by decide,by decide,by decide⟩ lib X11.out)
   clear q1 q2 q3 c2 c8 o0 fo0 lo HS N2 O9 X9 NO9 R9
   generalize World.setCell w10 _ _ = w11 at X11 O11 R11 W11 NO11 ⊢
   have HMX2:=HMX.out
   go_wp2
   go_meet
   exact ⟨rfl,some ⟨ib,rb,g1,g2,wb⟩,.pointer (some ⟨ib,0,none⟩),Lib.hid ⟨NO11.out,⟨NO11.out.bl,X11.out,rfl,fun a h=>by cases h;exact ⟨lib,LR.out.1,LR.out.2.1,LR.out.2.2,lwb,O11.out,by rw [HMX2];exact R11.out,W11.out⟩⟩,NO.out.2,rfl⟩⟩
 case rest=>
 obtain ⟨rfl,ia,p2,NI⟩:=hcut
 obtain ⟨_,_,_,c13⟩:=OLD.out _ NI.out.1.bl
 clear NO
 have hMc : MapE wc a.M (ents s.ss).length (ents s.ss):=by
  obtain ⟨mo,m1,m2,m3⟩:=hs.mp
  exact m3 wc (heap_below NI.out.1.bl (hm.at m1))
 obtain ⟨w',hrun,hM,hg⟩:=hMc.put (id,xb) (fun q hq=>by obtain ⟨e,he,rfl⟩:=ents_mem.1 hq;exact hnew e he) (by simp only [ents,List.length_map];omega) (by simp only;omega)
 have FIN:=Lib.hid (hs.add hm hid hnew hp0 hp1 hl2 NI.out.1 NI.out.2.1 (NI.out.2.2.1.trans HO9.out.symm) (NI.out.2.2.2.trans HI.out.symm) hM hg)
 clear hMc hM hg
 simp only [eP] at hrun
 go_wp2
 go_end0
 exact ⟨rfl,FIN.out⟩
end
end Go.Proofs.YthckbmcmdcemkaaGreatDoor.stm
