/- Texts of this claim, one behind the other: Mj Mk Ml Mm Mn. -/
import Derived.Test.YthckbmcmdcemkaaGreatDoorBs24
import Derived.Test.YthckbmcmdcemkaaGreatDoorBs11
import Derived.Deep.QuietTactic
import Derived.Deep.CutRange
import Derived.Test.YthckbmcmdcemkaaGreatDoorBs9
set_option maxRecDepth 100000
set_option maxHeartbeats 16000000
set_option linter.unusedSimpArgs false
set_option linter.unusedVariables false
namespace Go.Proofs.YthckbmcmdcemkaaGreatDoor.stm
section
open Go.RowKit Go.Maps Go.Sort
section
variable {W w w' : World} {H H' : Nat → Option Obj} {a : SetA} {s : SetS} {f f' : Nat → Prop}
theorem SetIn.dom (hs : SetIn H a s) {k : Nat} (hk : s.foot a k) : ∃ o,H k = some o:=by
 rcases hk with (rfl | rfl | rfl | rfl) | ⟨e,he,hk⟩
 ·exact ⟨_,hs.sb⟩
 ·obtain ⟨mo,m,_⟩:=hs.mp;exact ⟨_,m⟩
 ·exact ⟨_,hs.cb⟩
 ·exact ⟨_,hs.wb⟩
 ·exact (hs.li.all e he).dom hk
theorem SetIn.ne (hs : SetIn H a s) : a.sb ≠ a.M ∧ a.cb ≠ a.M ∧ a.wb ≠ a.M ∧ a.sb ≠ a.cb ∧ a.sb ≠ a.wb ∧ a.cb ≠ a.wb:=by
 obtain ⟨mo,m1,m2,_⟩:=hs.mp
 have no : ∀ {k : Nat} {cs : Array Value} {T : TypeId},H k = some (.cells cs T (0,0)) → k ≠ a.M:=fun hk e=>by rw [e,m1] at hk;exact isC_ne' m2 _ _ _ (Option.some.inj hk)
 have n2 : ∀ {k j : Nat} {cs ds : Array Value} {T S : TypeId},H k = some (.cells cs T (0,0)) → H j = some (.cells ds S (0,0)) → T ≠ S → k ≠ j:=fun hk hj hT e=>by rw [e,hj] at hk;exact cne hT (Option.some.inj hk.symm)
 exact ⟨no hs.sb,no hs.cb,no hs.wb,n2 hs.sb hs.cb (by decide),n2 hs.sb hs.wb (by decide),n2 hs.cb hs.wb (by decide)⟩
theorem SetIn.far (hs : SetIn H a s) {e : StA × Strm} (he : e ∈ s.ss) {k : Nat} (hk : e.1.foot k) : k ≠ a.sb ∧ k ≠ a.M ∧ k ≠ a.cb ∧ k ≠ a.wb:=
 ⟨fun c=>hs.dj k (.inl c) ⟨e,he,hk⟩,fun c=>hs.dj k (.inr (.inl c)) ⟨e,he,hk⟩,fun c=>hs.dj k (.inr (.inr (.inl c))) ⟨e,he,hk⟩,fun c=>hs.dj k (.inr (.inr (.inr c))) ⟨e,he,hk⟩⟩
theorem SetIn.own_turn (hs : SetIn H a s) {s' : SetS} (T : To W w' H H' f f) (hf : ∀ k,f k → k = a.sb ∨ k = a.cb ∨ k = a.wb) (hss : s'.ss = s.ss) (h1 : H' a.sb = some (.cells (s'.cells a) 115 (0,0))) (h2 : H' a.cb = some (.cells s'.cr.cells 161 (0,0))) (h3 : H' a.wb = some (.cells s'.wn.cells 200 (0,0))) (h4 : s'.cr.Ok) (h5 : s'.wn.Ok) :
  SetIn H' a s' ∧ To W w' H H' (s.foot a) (s'.foot a):=by
 obtain ⟨mo,m1,m2,m3⟩:=hs.mp
 obtain ⟨n1,n2,n3,_⟩:=hs.ne
 have hM : ¬ f a.M:=fun c=>by rcases hf _ c with c | c | c;exact n1 c.symm;exact n2 c.symm;exact n3 c.symm
 refine ⟨⟨h1,⟨mo,T.kp _ _ m1 hM,m2,by rw [hss];exact m3⟩,h2,h3,h4,h5,?_,by rw [hss];exact hs.dj⟩,T.wide (fun k c=>?_) (fun k c=>?_)⟩
 ·rw [hss]
  exact ⟨fun e he=>(hs.li.all e he).keep (fun k o hk ho=>T.kp k o ho (fun c=>by
   obtain ⟨q1,_,q3,q4⟩:=hs.far he hk
   rcases hf _ c with c | c | c;exact q1 c;exact q3 c;exact q4 c)),hs.li.dj,hs.li.up,hs.li.bd⟩
 ·rcases hf k c with c | c | c
  ·exact .inl (.inl c)
  ·exact .inl (.inr (.inr (.inl c)))
  ·exact .inl (.inr (.inr (.inr c)))
 ·unfold SetS.foot at c ⊢
  rw [hss] at c
  exact .inr (.inl c)
theorem SetIn.set (hs : SetIn H a s) (hm : Mem W w H) {s' : SetS} (i : Nat) (v : Value) (hc : (s.cells a).setIfInBounds i v = s'.cells a) (hss : s'.ss = s.ss) (hcr : s'.cr = s.cr) (hwn : s'.wn = s.wn) :
  ∃ H',SetIn H' a s' ∧ To W (w.setCell ⟨a.sb,i,none⟩ v) H H' (s.foot a) (s'.foot a):=by
 obtain ⟨H',T,h⟩:=To.set hm hs.sb i v
 rw [hc] at h
 obtain ⟨_,_,_,n4,n5,_⟩:=hs.ne
 exact ⟨H',hs.own_turn T (fun k c=>.inl c) hss h (by rw [hcr];exact T.kp _ _ hs.cb (Ne.symm n4)) (by rw [hwn];exact T.kp _ _ hs.wb (Ne.symm n5)) (by rw [hcr];exact hs.cr) (by rw [hwn];exact hs.wn)⟩
theorem SetIn.setC (hs : SetIn H a s) (hm : Mem W w H) {c : Snd} (hB : Blk a.cb c.cells 161 w w') (hc : c.Ok) :
  ∃ H',SetIn H' a { s with cr:=c } ∧ To W w' H H' (s.foot a) (SetS.foot { s with cr:=c } a):=by
 obtain ⟨H',T,h⟩:=To.blk hm hs.cb hB
 obtain ⟨_,_,_,n4,_,n6⟩:=hs.ne
 exact ⟨H',hs.own_turn (s':={ s with cr:=c }) T (fun k c=>.inr (.inl c)) rfl (T.kp _ _ hs.sb n4) h (T.kp _ _ hs.wb (Ne.symm n6)) hc hs.wn⟩
theorem SetIn.setW (hs : SetIn H a s) (hm : Mem W w H) {r : Rcr} (hB : Blk a.wb r.cells 200 w w') (hr : r.Ok) :
  ∃ H',SetIn H' a { s with wn:=r } ∧ To W w' H H' (s.foot a) (SetS.foot { s with wn:=r } a):=by
 obtain ⟨H',T,h⟩:=To.blk hm hs.wb hB
 obtain ⟨_,_,_,_,n5,n6⟩:=hs.ne
 exact ⟨H',hs.own_turn (s':={ s with wn:=r }) T (fun k c=>.inr (.inr c)) rfl (T.kp _ _ hs.sb n5) (T.kp _ _ hs.cb n6) h hs.cr hr⟩
theorem SetIn.turnS (hs : SetIn H a s) {l1 l2 : List (StA × Strm)} {xa xa' : StA} {x x' : Strm} (hm : Mem W w H) (hl : s.ss = l1 ++ (xa,x) :: l2) (T : To W w' H H' xa.foot xa'.foot) (hx : StIn H' xa' x') (hid : x'.id = x.id) (hxb : xa'.xb = xa.xb) :
  SetIn H' a { s with ss:=l1 ++ (xa',x') :: l2 } ∧ To W w' H H' (s.foot a) (SetS.foot { s with ss:=l1 ++ (xa',x') :: l2 } a):=by
 obtain ⟨mo,m1,m2,m3⟩:=hs.mp
 have hmem : (xa,x) ∈ s.ss:=by rw [hl];simp
 have hli:=hs.li
 have far : ∀ k,a.own k → ¬ xa.foot k:=fun k hk c=>hs.dj k hk ⟨_,hmem,c⟩
 have old : ∀ e,(e ∈ l1 ∨ e ∈ l2) → e ∈ s.ss ∧ ∀ k,e.1.foot k → ¬ xa.foot k:=fun e he=>by
  refine ⟨by rw [hl];rcases he with he | he <;> simp [he],fun k h1 h2=>?_⟩
  have hd:=hli.dj
  rw [hl] at hd
  rcases he with he | he
  ·exact (List.pairwise_append.1 hd).2.2 e he (xa,x) (by simp) k h1 h2
  ·exact (List.pairwise_cons.1 (List.pairwise_append.1 hd).2.1).1 e he k h2 h1
 have nwf : ∀ k,xa'.foot k → (∃ o,H k = some o) → xa.foot k:=fun k hk ⟨o,ho⟩=>by
  rcases T.nw k hk with c | c
  ·exact c
  ·rw [c] at ho;cases ho
 have hents : ents (l1 ++ (xa',x') :: l2) = ents s.ss:=by rw [hl];simp [ents,hid,hxb]
 refine ⟨⟨T.kp _ _ hs.sb (far _ (.inl rfl)),⟨mo,T.kp _ _ m1 (far _ (.inr (.inl rfl))),m2,by simp only [hents];exact m3⟩,T.kp _ _ hs.cb (far _ (.inr (.inr (.inl rfl)))),T.kp _ _ hs.wb (far _ (.inr (.inr (.inr rfl)))),hs.cr,hs.wn,⟨fun e he=>?_,?_,?_,fun e he=>?_⟩,fun k hk=>?_⟩,T.wide (fun k c=>.inr ⟨_,hmem,c⟩) (fun k c=>?_)⟩
 ·rcases List.mem_append.1 he with h | h
  ·exact (hli.all e (old e (.inl h)).1).keep (fun k o hk ho=>T.kp k o ho ((old e (.inl h)).2 k hk))
  ·rcases List.mem_cons.1 h with rfl | h
   ·exact hx
   ·exact (hli.all e (old e (.inr h)).1).keep (fun k o hk ho=>T.kp k o ho ((old e (.inr h)).2 k hk))
 ·have hd:=hli.dj
  rw [hl] at hd
  obtain ⟨d1,d2,d3⟩:=List.pairwise_append.1 hd
  obtain ⟨d4,d5⟩:=List.pairwise_cons.1 d2
  refine List.pairwise_append.2 ⟨d1,List.pairwise_cons.2 ⟨fun e he k h1 h2=>?_,d5⟩,fun e he e2 he2 k h1 h2=>?_⟩
  ·exact (old e (.inr he)).2 k h2 (nwf k h1 ((hli.all e (old e (.inr he)).1).dom h2))
  ·rcases List.mem_cons.1 he2 with rfl | he2
   ·exact (old e (.inl he)).2 k h1 (nwf k h2 ((hli.all e (old e (.inl he)).1).dom h1))
   ·exact d3 e he e2 (by simp [he2]) k h1 h2
 ·have hd:=hli.up
  rw [hl] at hd
  obtain ⟨d1,d2,d3⟩:=List.pairwise_append.1 hd
  obtain ⟨d4,d5⟩:=List.pairwise_cons.1 d2
  refine List.pairwise_append.2 ⟨d1,List.pairwise_cons.2 ⟨fun e he=>by rw [hid];exact d4 e he,d5⟩,fun e he e2 he2=>?_⟩
  rcases List.mem_cons.1 he2 with rfl | he2
  ·rw [hid];exact d3 e he (xa,x) (by simp)
  ·exact d3 e he e2 (by simp [he2])
 ·rcases List.mem_append.1 he with h | h
  ·exact hli.bd e (old e (.inl h)).1
  ·rcases List.mem_cons.1 h with rfl | h
   ·rw [hid];exact hli.bd _ hmem
   ·exact hli.bd e (old e (.inr h)).1
 ·rintro ⟨e,he,hf⟩
  rcases List.mem_append.1 he with h | h
  ·exact hs.dj k hk ⟨e,(old e (.inl h)).1,hf⟩
  ·rcases List.mem_cons.1 h with rfl | h
   ·exact far k hk (nwf k hf (hs.dom (.inl hk)))
   ·exact hs.dj k hk ⟨e,(old e (.inr h)).1,hf⟩
 ·rcases c with c | ⟨e,he,hf⟩
  ·exact .inr (.inl (.inl c))
  ·rcases List.mem_append.1 he with h | h
   ·exact .inr (.inl (.inr ⟨e,(old e (.inl h)).1,hf⟩))
   ·rcases List.mem_cons.1 h with rfl | h
    ·exact .inl hf
    ·exact .inr (.inl (.inr ⟨e,(old e (.inr h)).1,hf⟩))
end
section
variable {W w w' : World} {H H' : Nat → Option Obj}
theorem StIn.turnO {xa : StA} {x : Strm} {oa oa' : OutA} {o o' : OutP} (hs : StIn H xa x) (ho : xa.o = some oa) (hxo : x.out = some o) (T : To W w' H H' oa.foot oa'.foot) (hO : OutIn H' oa' o') (hob : oa'.ob = oa.ob) :
  StIn H' { xa with o:=some oa' } { x with out:=some o' } ∧ To W w' H H' xa.foot (StA.foot { xa with o:=some oa' }):=by
 have hxb : ¬ oa.foot xa.xb:=fun c=>by
  have h0:=hs.o
  rw [ho,hxo] at h0
  have no : ∀ {k : Nat} {cs : Array Value} {S : TypeId},xa.xb = k → H k = some (.cells cs S (0,0)) → S ≠ 130 → False:=fun {k cs S} e h hS=>by
   subst e
   have h1:=hs.xb
   rw [h] at h1
   exact cne hS (Option.some.inj h1)
  rcases c with c | c | c | c
  ·exact no c h0.ob (by decide)
  ·obtain ⟨_,vd,vs,b1,b2,b3,b4⟩:=h0.bf
   rcases (b4 _).1 c with c | c | c
   ·exact no c b1 (by decide)
   ·obtain ⟨cs,hcs⟩:=b2.block c;exact no rfl hcs (by decide)
   ·obtain ⟨cs,hcs⟩:=b3.block c;exact no rfl hcs (by decide)
  ·exact no c h0.cb (by decide)
  ·obtain ⟨cs,hcs⟩:=h0.ak.block c;exact no rfl hcs (by decide)
 have hI : ∀ k,footI xa.i k → ¬ oa.foot k:=fun k h1 h2=>hs.dj k (by rw [ho];exact h2) h1
 refine ⟨⟨?_,hO,hs.i.keep (fun k o hk h=>T.kp k o h (hI k hk)),fun k h1 h2=>?_⟩,T.wide (fun k c=>.inr (.inl (by rw [ho];exact c))) (fun k c=>?_)⟩
 ·have:=T.kp _ _ hs.xb hxb
  simp only [StA.cells,ho,Option.map_some,hob] at this ⊢
  exact this
 ·rcases T.nw k h1 with c | c
  ·exact hI k h2 c
  ·obtain ⟨q,hq⟩:=hs.i.dom h2
   rw [c] at hq;cases hq
 ·rcases c with c | c | c
  ·exact .inr (.inl (.inl c))
  ·exact .inl c
  ·exact .inr (.inl (.inr (.inr c)))
theorem StIn.turnI {xa : StA} {x : Strm} {ia ia' : InA} {i i' : InP} (hs : StIn H xa x) (hi : xa.i = some ia) (hxi : x.inp = some i) (T : To W w' H H' ia.foot ia'.foot) (hI : InIn H' ia' i') (hib : ia'.ib = ia.ib) :
  StIn H' { xa with i:=some ia' } { x with inp:=some i' } ∧ To W w' H H' xa.foot (StA.foot { xa with i:=some ia' }):=by
 have hxb : ¬ ia.foot xa.xb:=fun c=>by
  have h0:=hs.i
  rw [hi,hxi] at h0
  have no : ∀ {k : Nat} {cs : Array Value} {S : TypeId},xa.xb = k → H k = some (.cells cs S (0,0)) → S ≠ 130 → False:=fun {k cs S} e h hS=>by
   subst e
   have h1:=hs.xb
   rw [h] at h1
   exact cne hS (Option.some.inj h1)
  rcases c with c | c | c | c | c
  ·exact no c h0.ib (by decide)
  ·exact no c h0.rb (by decide)
  ·exact no c h0.h1 (by decide)
  ·exact no c h0.h2 (by decide)
  ·exact no c h0.wb (by decide)
 have hO : ∀ k,footO xa.o k → ¬ ia.foot k:=fun k h1 h2=>hs.dj k h1 (by rw [hi];exact h2)
 refine ⟨⟨?_,hs.o.keep (fun k o hk h=>T.kp k o h (hO k hk)),hI,fun k h1 h2=>?_⟩,T.wide (fun k c=>.inr (.inr (by rw [hi];exact c))) (fun k c=>?_)⟩
 ·have:=T.kp _ _ hs.xb hxb
  simp only [StA.cells,hi,Option.map_some,hib] at this ⊢
  exact this
 ·rcases T.nw k h2 with c | c
  ·exact hO k h1 c
  ·obtain ⟨q,hq⟩:=hs.o.dom h1
   rw [c] at hq;cases hq
 ·rcases c with c | c | c
  ·exact .inr (.inl (.inl c))
  ·exact .inr (.inl (.inr (.inl c)))
  ·exact .inl c
theorem StIn.setX {xa : StA} {x x' : Strm} (hs : StIn H xa x) (hm : Mem W w H) (i : Nat) (v : Value) (hc : (xa.cells x).setIfInBounds i v = xa.cells x') (ho : x'.out = x.out) (hi : x'.inp = x.inp) :
  ∃ H',StIn H' xa x' ∧ To W (w.setCell ⟨xa.xb,i,none⟩ v) H H' xa.foot xa.foot:=by
 obtain ⟨H',T,h⟩:=To.set hm hs.xb i v
 rw [hc] at h
 have no : ∀ {k : Nat} {cs : Array Value} {S : TypeId},H k = some (.cells cs S (0,0)) → S ≠ 130 → k ≠ xa.xb:=fun {k cs S} h hS e=>by
  subst e
  have h1:=hs.xb
  rw [h] at h1
  exact cne hS (Option.some.inj h1)
 have nO : ∀ k,footO xa.o k → k ≠ xa.xb:=fun k hk=>by
  have h0:=hs.o
  cases ha : xa.o with
  | none=>rw [ha] at hk;exact hk.elim
  | some oa=>cases hb : x.out with
   | none=>rw [ha,hb] at h0;exact h0.elim
   | some o=>
    rw [ha] at hk
    rw [ha,hb] at h0
    rcases hk with rfl | c | rfl | c
    ·exact no h0.ob (by decide)
    ·obtain ⟨_,vd,vs,b1,b2,b3,b4⟩:=h0.bf
     rcases (b4 _).1 c with rfl | c | c
     ·exact no b1 (by decide)
     ·obtain ⟨cs,hcs⟩:=b2.block c;exact no hcs (by decide)
     ·obtain ⟨cs,hcs⟩:=b3.block c;exact no hcs (by decide)
    ·exact no h0.cb (by decide)
    ·obtain ⟨cs,hcs⟩:=h0.ak.block c;exact no hcs (by decide)
 have nI : ∀ k,footI xa.i k → k ≠ xa.xb:=fun k hk=>by
  have h0:=hs.i
  cases ha : xa.i with
  | none=>rw [ha] at hk;exact hk.elim
  | some ia=>cases hb : x.inp with
   | none=>rw [ha,hb] at h0;exact h0.elim
   | some i=>
    rw [ha] at hk
    rw [ha,hb] at h0
    rcases hk with rfl | rfl | rfl | rfl | rfl
    ·exact no h0.ib (by decide)
    ·exact no h0.rb (by decide)
    ·exact no h0.h1 (by decide)
    ·exact no h0.h2 (by decide)
    ·exact no h0.wb (by decide)
 exact ⟨H',⟨h,by rw [ho];exact hs.o.keep (fun k o hk e=>T.kp k o e (nO k hk)),by rw [hi];exact hs.i.keep (fun k o hk e=>T.kp k o e (nI k hk)),hs.dj⟩,T.wide (fun k c=>.inl c) (fun k c=>.inr (.inl c))⟩
end
end
section
open Go.RowKit
section
variable {W w w' : World} {H H' : Nat → Option Obj}
theorem tne {k j : Nat} {cs ds : Array Value} {T S : TypeId} (hk : H k = some (.cells cs T (0,0))) (hj : H j = some (.cells ds S (0,0))) (hT : T ≠ S) : k ≠ j:=fun e=>by rw [e,hj] at hk;exact cne hT (Option.some.inj hk.symm)
theorem OutIn.ob_ne {a : OutA} {o : OutP} (h : OutIn H a o) : ∀ k,(a.bf k ∨ k = a.cb ∨ a.ak.ownBlock = some k) → k ≠ a.ob:=fun k hk=>by
 rcases hk with c | rfl | c
 ·obtain ⟨_,vd,vs,b1,b2,b3,b4⟩:=h.bf
  rcases (b4 _).1 c with rfl | c | c
  ·exact tne b1 h.ob (by decide)
  ·obtain ⟨cs,hcs⟩:=b2.block c;exact tne hcs h.ob (by decide)
  ·obtain ⟨cs,hcs⟩:=b3.block c;exact tne hcs h.ob (by decide)
 ·exact tne h.cb h.ob (by decide)
 ·obtain ⟨cs,hcs⟩:=h.ak.block c;exact tne hcs h.ob (by decide)
theorem OutIn.cb_ne {a : OutA} {o : OutP} (h : OutIn H a o) : ∀ k,(k = a.ob ∨ a.bf k ∨ a.ak.ownBlock = some k) → k ≠ a.cb:=fun k hk=>by
 rcases hk with rfl | c | c
 ·exact tne h.ob h.cb (by decide)
 ·obtain ⟨_,vd,vs,b1,b2,b3,b4⟩:=h.bf
  rcases (b4 _).1 c with rfl | c | c
  ·exact tne b1 h.cb (by decide)
  ·obtain ⟨cs,hcs⟩:=b2.block c;exact tne hcs h.cb (by decide)
  ·obtain ⟨cs,hcs⟩:=b3.block c;exact tne hcs h.cb (by decide)
 ·obtain ⟨cs,hcs⟩:=h.ak.block c;exact tne hcs h.cb (by decide)
theorem OutIn.set {a : OutA} {o o' : OutP} (h : OutIn H a o) (hm : Mem W w H) (i : Nat) (v : Value) (hc : (o.cells a).setIfInBounds i v = o'.cells a) (hX : o'.X = o.X) (hcr : o'.cr = o.cr) (hak : o'.ak = o.ak) :
  ∃ H',OutIn H' a o' ∧ To W (w.setCell ⟨a.ob,i,none⟩ v) H H' a.foot a.foot:=by
 obtain ⟨H',T,h1⟩:=To.set hm h.ob i v
 rw [hc] at h1
 exact ⟨H',⟨h1,by rw [hX];exact h.bf.keep (fun k o hk e=>T.kp k o e (h.ob_ne k (.inl hk))),by rw [hcr];exact T.kp _ _ h.cb (h.ob_ne _ (.inr (.inl rfl))),by rw [hak];exact h.ak.keep (fun k o hk e=>T.kp k o e (h.ob_ne k (.inr (.inr hk)))),by rw [hcr];exact h.cr,by rw [hak];exact h.ko⟩,T.wide (fun k c=>.inl c) (fun k c=>.inr (.inl c))⟩
theorem OutIn.setC {a : OutA} {o : OutP} (h : OutIn H a o) (hm : Mem W w H) {c : Snd} (hB : Blk a.cb c.cells 161 w w') (hc : c.Ok) :
  ∃ H',OutIn H' a { o with cr:=c } ∧ To W w' H H' a.foot a.foot:=by
 obtain ⟨H',T,h1⟩:=To.blk hm h.cb hB
 exact ⟨H',⟨T.kp _ _ h.ob (h.cb_ne _ (.inl rfl)),h.bf.keep (fun k o hk e=>T.kp k o e (h.cb_ne k (.inr (.inl hk)))),h1,h.ak.keep (fun k o hk e=>T.kp k o e (h.cb_ne k (.inr (.inr hk)))),hc,h.ko⟩,T.wide (fun k c=>.inr (.inr (.inl c))) (fun k c=>.inr (.inl c))⟩
def OutA.Apart (a : OutA) : Prop:=∀ k,a.bf k → a.ak.ownBlock ≠ some k
theorem OutIn.apart {a : OutA} {o : OutP} (h : OutIn H a o) : a.Apart:=fun k hk hk2=>by
 obtain ⟨c2,h2⟩:=h.ak.block hk2
 obtain ⟨_,vd,vs,b1,b2,b3,b4⟩:=h.bf
 rcases (b4 _).1 hk with rfl | c | c
 ·exact tne b1 h2 (by decide) rfl
 ·obtain ⟨cs,hcs⟩:=b2.block c;exact tne hcs h2 (by decide) rfl
 ·obtain ⟨cs,hcs⟩:=b3.block c;exact tne hcs h2 (by decide) rfl
theorem OutIn.setB {a : OutA} {o : OutP} (h : OutIn H a o) (hm : Mem W w H) {X' : Wh} (hc : Chg a.bf w w') (hi : Inv w' a.bb (Ext a.bf w w') X'.buf) (ho : X'.Ok) :
  ∃ H' f',OutIn H' { a with bf:=f' } { o with X:=X' } ∧ To W w' H H' a.foot (OutA.foot { a with bf:=f' }):=by
 obtain ⟨H',f',T,h1⟩:=h.bf.step hm hc hi ho
 have e1 : ¬ a.bf a.ob:=fun c=>h.ob_ne _ (.inl c) rfl
 have e2 : ¬ a.bf a.cb:=fun c=>h.cb_ne _ (.inr (.inl c)) rfl
 refine ⟨H',f',⟨T.kp _ _ h.ob e1,h1,T.kp _ _ h.cb e2,h.ak.keep (fun k o hk e=>T.kp k o e (fun c=>h.apart k c hk)),h.cr,h.ko⟩,T.wide (fun k c=>.inr (.inl c)) (fun k c=>?_)⟩
 rcases c with c | c | c | c
 ·exact .inr (.inl (.inl c))
 ·exact .inl c
 ·exact .inr (.inl (.inr (.inr (.inl c))))
 ·exact .inr (.inl (.inr (.inr (.inr c))))
theorem InIn.set {a : InA} {i i' : InP} (h : InIn H a i) (hm : Mem W w H) (j : Nat) (v : Value) (hc : (i.cells a).setIfInBounds j v = i'.cells a) (hR : i'.R = i.R) (hw : i'.wn = i.wn) :
  ∃ H',InIn H' a i' ∧ To W (w.setCell ⟨a.ib,j,none⟩ v) H H' a.foot a.foot:=by
 obtain ⟨H',T,h1⟩:=To.set hm h.ib j v
 rw [hc] at h1
 exact ⟨H',⟨h1,by rw [hR];exact T.kp _ _ h.rb (tne h.rb h.ib (by decide)),by rw [hR];exact T.kp _ _ h.h1 (tne h.h1 h.ib (by decide)),by rw [hR];exact T.kp _ _ h.h2 (tne h.h2 h.ib (by decide)),by rw [hR];exact h.hl,by rw [hR];exact h.sm,by rw [hw];exact T.kp _ _ h.wb (tne h.wb h.ib (by decide)),by rw [hw];exact h.wn⟩,T.wide (fun k c=>.inl c) (fun k c=>.inr (.inl c))⟩
theorem InIn.setW {a : InA} {i : InP} (h : InIn H a i) (hm : Mem W w H) {r : Rcr} (hB : Blk a.wb r.cells 200 w w') (hr : r.Ok) :
  ∃ H',InIn H' a { i with wn:=r } ∧ To W w' H H' a.foot a.foot:=by
 obtain ⟨H',T,h1⟩:=To.blk hm h.wb hB
 exact ⟨H',⟨T.kp _ _ h.ib (tne h.ib h.wb (by decide)),T.kp _ _ h.rb (tne h.rb h.wb (by decide)),T.kp _ _ h.h1 (tne h.h1 h.wb (by decide)),T.kp _ _ h.h2 (tne h.h2 h.wb (by decide)),h.hl,h.sm,h1,hr⟩,T.wide (fun k c=>.inr (.inr (.inr (.inr c)))) (fun k c=>.inr (.inl c))⟩
theorem InIn.rbAt {a : InA} {i : InP} (h : InIn H a i) (hm : Mem W w H) : rea.RbAt w a.rb a.g1 a.g2 i.R:=⟨hm.at h.rb,hm.at h.h1,hm.at h.h2,h.hl,h.sm⟩
theorem InIn.setR {a : InA} {i : InP} (h : InIn H a i) (hm : Mem W w H) {R' : rea.Rb} (hT : rea.Tr a.rb a.g1 a.g2 w w') (hR : rea.RbAt w' a.rb a.g1 a.g2 R') :
  ∃ H',InIn H' a { i with R:=R' } ∧ To W w' H H' a.foot a.foot:=by
 have T:=To.ovr (f:=fun k=>k = a.rb ∨ k = a.g1 ∨ k = a.g2) (g:=fun k=>k = a.rb ∨ k = a.g1 ∨ k = a.g2) hm ⟨hT.os,hT.tape,hT.output,hT.size,fun k hk hn=>hT.block k hk (fun e=>hn (.inl e)) (fun e=>hn (.inr (.inl e))) (fun e=>hn (.inr (.inr e)))⟩
  (fun k hk=>by rcases hk with rfl | rfl | rfl;exact (hm.far _ _ h.rb).2;exact (hm.far _ _ h.h1).2;exact (hm.far _ _ h.h2).2) (fun k hk=>.inl hk)
 have nb : ∀ {k : Nat} {cs : Array Value} {S : TypeId},H k = some (.cells cs S (0,0)) → S = 155 ∨ S = 200 → ¬ (k = a.rb ∨ k = a.g1 ∨ k = a.g2):=fun hk hS c=>by
  rcases c with c | c | c
  ·exact tne hk h.rb (by rcases hS with rfl | rfl <;> decide) c
  ·exact tne hk h.h1 (by rcases hS with rfl | rfl <;> decide) c
  ·exact tne hk h.h2 (by rcases hS with rfl | rfl <;> decide) c
 refine ⟨_,⟨T.kp _ _ h.ib (nb h.ib (.inl rfl)),ovr_at (.inl rfl) hR.ob,ovr_at (.inr (.inl rfl)) hR.o1,ovr_at (.inr (.inr rfl)) hR.o2,hR.hl,hR.sm,T.kp _ _ h.wb (nb h.wb (.inr rfl)),h.wn⟩,T.wide (fun k c=>?_) (fun k c=>.inr (.inl c))⟩
 rcases c with c | c | c
 ·exact .inr (.inl c)
 ·exact .inr (.inr (.inl c))
 ·exact .inr (.inr (.inr (.inl c)))
end
section
variable {W w : World} {H : Nat → Option Obj}
theorem OutIn.facts {a : OutA} {o : OutP} (h : OutIn H a o) (hm : Mem W w H) (j : Nat) {v : Value} (hv : (o.cells a)[j]? = some v) : w.cell? ⟨a.ob,j,none⟩ = some v:=at_whole' (hm.at h.ob) hv
theorem InIn.facts {a : InA} {i : InP} (h : InIn H a i) (hm : Mem W w H) (j : Nat) {v : Value} (hv : (i.cells a)[j]? = some v) : w.cell? ⟨a.ib,j,none⟩ = some v:=at_whole' (hm.at h.ib) hv
theorem active_any {a : Option OutA} {o : Option OutP} (h : OptO H a o) (hm : Mem W w H) : Calls Tryz.prog 59 #[optP (a.map (·.ob))] w fun e w'=>e = .returned (.bool (outAct o)) ∧ w = w':=by
 cases a with
 | none=>cases o with
  | some o=>exact h.elim
  | none=>
   simp only [Option.map_none,optP,outAct]
   go_enter Tryz.func59,Tryz.ntmps59
   go_wp2
   go_ret
   exact ⟨rfl,rfl⟩
 | some a=>cases o with
  | none=>exact h.elim
  | some o=>
   have c2 : w.cell? ⟨a.ob,2,none⟩ = some (.int .i64 o.send):=OutIn.facts h hm 2 rfl
   simp only [Option.map_some,optP,ptr,outAct,OutP.act]
   clear h hm
   go_enter Tryz.func59,Tryz.ntmps59
   go_wp2
   go_ret
   exact ⟨rfl,rfl⟩
theorem wasReset_any {a : InA} {i : InP} (h : InIn H a i) (hm : Mem W w H) : Calls Tryz.prog 210 #[ptr a.ib] w fun e w'=>e = .returned (.bool i.wasR) ∧ w = w':=by
 have c2 : w.cell? ⟨a.ib,2,none⟩ = some (.int .i64 i.recv):=h.facts hm 2 rfl
 unfold ptr InP.wasR
 clear h hm
 by_cases h3 : i.recv = 3
 ·have e : (i.recv == 3) = true:=beq_iff_eq.2 h3
  have d : decide (i.recv = 3) = true:=decide_eq_true h3
  rw [d]
  clear h3 d
  generalize i.recv = r at *
  go_enter Tryz.func210,Tryz.ntmps210
  go_wp2
  go_ret
  exact ⟨by simp,rfl⟩
 ·have e : (i.recv == 3) = false:=beq_eq_false_iff_ne.2 h3
  have d : decide (i.recv = 3) = false:=decide_eq_false h3
  have e5 : (i.recv == 5) = decide (i.recv = 5):=by rw [Bool.eq_iff_iff];simp
  rw [d,← e5]
  clear h3 d e5
  generalize i.recv = r at *
  go_enter Tryz.func210,Tryz.ntmps210
  go_wp2
  go_ret
  exact ⟨by simp,rfl⟩
end
end
section
open Go.RowKit
theorem look_eq (tab : List (Int × Int × Int)) (s v : Int) : look tab s v = if (sst.backP (sst.hits tab s v)).2 = 0 then (sst.backP (sst.hits tab s v)).1 else s:=by
 unfold look sst.hits sst.backP
 rw [List.head?_map,List.head?_filter]
 cases tab.find? (fun e=>e.1 == s && e.2.1 == v) <;> rfl
theorem onS_eq (s v : Int) : onS s v = if (sst.sF s v).2 = 0 then (sst.sF s v).1 else s:=look_eq _ _ _
theorem onR_eq (s v : Int) : onR s v = if (sst.rF s v).2 = 0 then (sst.rF s v).1 else s:=by
 unfold onR sst.rF
 by_cases h : s = 5
 ·subst h
  rw [if_pos rfl]
  by_cases hv : (5 : Int) = 5 ∧ (v = 6 ∨ v = 9)
  ·rw [if_pos hv];rfl
  ·rw [if_neg hv]
   have h0 : sst.hits sst.recvTab 5 v = []:=by simp [sst.hits,sst.recvTab]
   rw [h0];rfl
 ·have hc : ¬ (s = 5 ∧ (v = 6 ∨ v = 9)):=fun c=>h c.1
  rw [if_neg h]
  simp only [if_neg hc]
  exact look_eq _ _ _
section
variable {W w : World} {H : Nat → Option Obj}
theorem onO_any {a : OutA} {o : OutP} (h : OutIn H a o) (hm : Mem W w H) (v : Int) : Calls Tryz.prog 86 #[ptr a.ob,.int .i64 v] w fun e w'=>e = .returned (.tuple #[]) ∧ ∃ H',OutIn H' a (o.on v) ∧ To W w' H H' a.foot a.foot:=by
 have SD:=Lib.hid (sst.send_any o.send v w)
 have c2 : w.cell? ⟨a.ob,2,none⟩ = some (.int .i64 o.send):=h.facts hm 2 rfl
 have e0:=onS_eq o.send v
 obtain ⟨p1,h1⟩ : ∃ p,(sst.sF o.send v).1 = p:=⟨_,rfl⟩
 obtain ⟨p2,h2⟩ : ∃ p,(sst.sF o.send v).2 = p:=⟨_,rfl⟩
 rw [h1,h2] at SD e0
 have E0:=Lib.hid e0
 have HH:=Lib.hid (And.intro h hm)
 clear h1 h2 e0 h hm
 unfold ptr
 go_enter Tryz.func86,Tryz.ntmps86
 go_upto_region 1 with (go_at_call 148;refine SD.out.mono ?_;rintro e w1 ⟨rfl,hb⟩;have B1:=Lib.hid hb;clear hb)
 have M1:=HH.out.2.same B1.out
 have c2 : w1.cell? ⟨a.ob,2,none⟩ = some (.int .i64 o.send):=HH.out.1.facts M1 2 rfl
 have z2:=frozen_whole (M1.at HH.out.1.ob) 2
 by_cases hp : p2 = 0
 ·have hb : (p2 == 0) = true:=beq_iff_eq.2 hp
  obtain ⟨H',hO,hT⟩:=HH.out.1.set M1 (o':=o.on v) 2 (.int .i64 p1) (by have:=E0.out;rw [if_pos hp] at this;simp [OutP.cells,OutP.on,this]) rfl rfl rfl
  have R:=Lib.hid (And.intro hO hT)
  clear hO hT E0 SD hp M1
  go_wp2
  go_end0
  exact ⟨rfl,H',R.out⟩
 ·have hb : (p2 == 0) = false:=beq_eq_false_iff_ne.2 hp
  have e1 : o.on v = o:=by have:=E0.out;rw [if_neg hp] at this;simp [OutP.on,this]
  have R:=Lib.hid (show OutIn H a (o.on v) ∧ To W w1 H H a.foot a.foot from ⟨by rw [e1];exact HH.out.1,To.refl M1 _⟩)
  clear E0 SD hp M1 e1
  go_wp2
  go_end0
  exact ⟨rfl,H,R.out⟩
theorem onI_any {a : InA} {i : InP} (h : InIn H a i) (hm : Mem W w H) (v : Int) : Calls Tryz.prog 75 #[ptr a.ib,.int .i64 v] w fun e w'=>e = .returned (.tuple #[]) ∧ ∃ H',InIn H' a (i.on v) ∧ To W w' H H' a.foot a.foot:=by
 have SD:=Lib.hid (sst.recv_any i.recv v w)
 have c2 : w.cell? ⟨a.ib,2,none⟩ = some (.int .i64 i.recv):=h.facts hm 2 rfl
 have e0:=onR_eq i.recv v
 obtain ⟨p1,h1⟩ : ∃ p,(sst.rF i.recv v).1 = p:=⟨_,rfl⟩
 obtain ⟨p2,h2⟩ : ∃ p,(sst.rF i.recv v).2 = p:=⟨_,rfl⟩
 rw [h1,h2] at SD e0
 have E0:=Lib.hid e0
 have HH:=Lib.hid (And.intro h hm)
 clear h1 h2 e0 h hm
 unfold ptr
 go_enter Tryz.func75,Tryz.ntmps75
 go_upto_region 1 with (go_at_call 144;refine SD.out.mono ?_;rintro e w1 ⟨rfl,hb⟩;have B1:=Lib.hid hb;clear hb)
 have M1:=HH.out.2.same B1.out
 have c2 : w1.cell? ⟨a.ib,2,none⟩ = some (.int .i64 i.recv):=HH.out.1.facts M1 2 rfl
 have z2:=frozen_whole (M1.at HH.out.1.ib) 2
 by_cases hp : p2 = 0
 ·have hb : (p2 == 0) = true:=beq_iff_eq.2 hp
  obtain ⟨H',hO,hT⟩:=HH.out.1.set M1 (i':=i.on v) 2 (.int .i64 p1) (by have:=E0.out;rw [if_pos hp] at this;simp [InP.cells,InP.on,this]) rfl rfl
  have R:=Lib.hid (And.intro hO hT)
  clear hO hT E0 SD hp M1
  go_wp2
  go_end0
  exact ⟨rfl,H',R.out⟩
 ·have hb : (p2 == 0) = false:=beq_eq_false_iff_ne.2 hp
  have e1 : i.on v = i:=by have:=E0.out;rw [if_neg hp] at this;simp [InP.on,this]
  have R:=Lib.hid (show InIn H a (i.on v) ∧ To W w1 H H a.foot a.foot from ⟨by rw [e1];exact HH.out.1,To.refl M1 _⟩)
  clear E0 SD hp M1 e1
  go_wp2
  go_end0
  exact ⟨rfl,H,R.out⟩
theorem aband_any {a : OutA} {o : OutP} (h : OutIn H a o) (hm : Mem W w H) (c : Int) : Calls Tryz.prog 84 #[ptr a.ob,.int .i64 c] w fun e w'=>e = .returned (.tuple #[]) ∧ ∃ H',OutIn H' a (o.aband c) ∧ To W w' H H' a.foot a.foot:=by
 have ON:=Lib.hid (onO_any h hm 4)
 unfold ptr at *
 go_enter Tryz.func84,Tryz.ntmps84
 go_upto_region 1 with (go_at_call 86;refine ON.out.mono ?_;rintro e w1 ⟨rfl,H1,hO,hT⟩;have R1:=Lib.hid (And.intro hO hT);clear hO hT)
 have c4 : w1.cell? ⟨a.ob,4,none⟩ = some (.int .i64 o.rw):=R1.out.1.facts R1.out.2.mem 4 rfl
 have c5 : w1.cell? ⟨a.ob,5,none⟩ = some (.bool o.rd):=R1.out.1.facts R1.out.2.mem 5 rfl
 have z4:=frozen_whole (R1.out.2.mem.at R1.out.1.ob) 4
 have z5:=frozen_whole (R1.out.2.mem.at R1.out.1.ob) 5
 obtain ⟨H2,hO2,hT2⟩:=R1.out.1.set R1.out.2.mem (o':={ o.on 4 with rw:=c }) 4 (.int .i64 c) (by simp [OutP.cells,OutP.on]) rfl rfl rfl
 obtain ⟨H3,hO3,hT3⟩:=hO2.set hT2.mem (o':=o.aband c) 5 (.bool true) (by simp [OutP.cells,OutP.on,OutP.aband]) rfl rfl rfl
 have R:=Lib.hid (And.intro hO3 ((R1.out.2.trans hT2).trans hT3))
 clear hO2 hT2 hO3 hT3 R1 h hm ON
 go_wp2
 go_end0
 exact ⟨rfl,H3,R.out⟩
end
end
section
open Go.RowKit
section
variable {W w : World} {H : Nat → Option Obj} {a : SetA} {s : SetS}
theorem SetIn.look (hs : SetIn H a s) (hm : Mem W w H) {xa : StA} {x : Strm} (he : (xa,x) ∈ s.ss) : (Instr.lookup 109 (.map (some a.M)) (.int .i64 x.id) false).run Tryz.prog w = .ok (.pointer (some ⟨xa.xb,0,none⟩)) w:=by
 obtain ⟨mo,m1,m2,m3⟩:=hs.mp
 have:=hs.li.bd _ he
 exact (m3 w (hm.at m1)).look (p:=(x.id,xa.xb)) (ents_mem.2 ⟨_,he,rfl⟩) (idWf (by simp only at this ⊢;omega))
theorem SetIn.look_no (hs : SetIn H a s) (hm : Mem W w H) {i : Int} (he : ∀ e ∈ s.ss,(e.2.id : Int) ≠ i) (hw : (Lit.int .i64 i).wf = true) : (Instr.lookup 109 (.map (some a.M)) (.int .i64 i) false).run Tryz.prog w = .ok (.pointer none) w:=by
 obtain ⟨mo,m1,m2,m3⟩:=hs.mp
 exact (m3 w (hm.at m1)).look_no (fun p hp=>by obtain ⟨e,h,rfl⟩:=ents_mem.1 hp;exact he e h) hw
theorem SetIn.c13 (hs : SetIn H a s) (hm : Mem W w H) : w.cell? ⟨a.sb,13,none⟩ = some (.map (some a.M)):=at_whole' (hm.at hs.sb) rfl
theorem StIn.c1 {xa : StA} {x : Strm} (h : StIn H xa x) (hm : Mem W w H) : w.cell? ⟨xa.xb,1,none⟩ = some (optP (xa.o.map (·.ob))):=at_whole' (hm.at h.xb) rfl
theorem StIn.c2 {xa : StA} {x : Strm} (h : StIn H xa x) (hm : Mem W w H) : w.cell? ⟨xa.xb,2,none⟩ = some (optP (xa.i.map (·.ib))):=at_whole' (hm.at h.xb) rfl
theorem StIn.c0 {xa : StA} {x : Strm} (h : StIn H xa x) (hm : Mem W w H) : w.cell? ⟨xa.xb,0,none⟩ = some (.int .i64 x.id):=at_whole' (hm.at h.xb) rfl
theorem OptO.some_of {oa : Option OutA} {o : OutP} (h : OptO H oa (some o)) : ∃ a,oa = some a ∧ OutIn H a o:=by
 cases oa with
 | none=>exact h.elim
 | some a=>exact ⟨a,rfl,h⟩
theorem OptO.none_of {oa : Option OutA} (h : OptO H oa none) : oa = none:=by
 cases oa with
 | none=>rfl
 | some a=>exact h.elim
theorem OptI.some_of {ia : Option InA} {i : InP} (h : OptI H ia (some i)) : ∃ a,ia = some a ∧ InIn H a i:=by
 cases ia with
 | none=>exact h.elim
 | some a=>exact ⟨a,rfl,h⟩
theorem OptI.none_of {ia : Option InA} (h : OptI H ia none) : ia = none:=by
 cases ia with
 | none=>rfl
 | some a=>exact h.elim
def wrE (x : Strm) : Int:=match x.out with | none=>190 | some o=>if o.sc = -1 then 0 else 194
def wrP (xa : StA) (x : Strm) : Value:=if wrE x = 0 then ptr xa.xb else .pointer none
theorem writable_any (hs : SetIn H a s) (hm : Mem W w H) {xa : StA} {x : Strm} (he : (xa,x) ∈ s.ss) :
  Calls Tryz.prog 58 #[ptr a.sb,.int .i64 x.id] w fun e w'=>e = .returned (.tuple #[wrP xa x,.int .i64 (wrE x)]) ∧ w = w':=by
 have hl:=hs.look hm he
 have c:=hs.c13 hm
 have hx:=hs.li.all _ he
 have c1:=hx.c1 hm
 have ho:=hx.o
 cases hxo : x.out with
 | none=>
  have hE : wrE x = 190:=by simp [wrE,hxo]
  have hP : wrP xa x = .pointer none:=by simp [wrP,hE]
  rw [hE,hP]
  simp only [hxo] at ho
  rw [ho.none_of] at c1
  simp only [Option.map_none,optP] at c1
  clear hs he hx ho hxo hE hP
  unfold ptr
  go_enter Tryz.func58,Tryz.ntmps58
  go_wp2
  go_returns
  exact ⟨rfl,rfl⟩
 | some o=>
  have hE : wrE x = if o.sc = -1 then 0 else 194:=by simp [wrE,hxo]
  have hP:=wrP.eq_1 xa x
  rw [hE] at hP
  rw [hE,hP]
  simp only [hxo] at ho
  obtain ⟨oa,h1,h2⟩:=ho.some_of
  rw [h1] at c1
  simp only [Option.map_some,optP,ptr] at c1
  have c7 : w.cell? ⟨oa.ob,7,none⟩ = some (.int .i64 o.sc):=h2.facts hm 7 rfl
  clear hs he hx ho hxo h1 h2 hE hP
  unfold ptr
  by_cases hsc : o.sc = -1
  ·have hb : (o.sc == -1) = true:=beq_iff_eq.2 hsc
   simp only [if_pos hsc,if_true]
   clear hsc
   go_enter Tryz.func58,Tryz.ntmps58
   go_wp2
   go_returns
   exact ⟨rfl,rfl⟩
  ·have hb : (o.sc == -1) = false:=beq_eq_false_iff_ne.2 hsc
   simp only [if_neg hsc,show ((194 : Int) = 0) = False from by simp,if_false]
   clear hsc
   go_enter Tryz.func58,Tryz.ntmps58
   go_wp2
   go_returns
   exact ⟨rfl,rfl⟩
theorem readable_any (hs : SetIn H a s) (hm : Mem W w H) {xa : StA} {x : Strm} (he : (xa,x) ∈ s.ss) :
  Calls Tryz.prog 74 #[ptr a.sb,.int .i64 x.id] w fun e w'=>e = .returned (.tuple #[if x.inp.isSome then ptr xa.xb else .pointer none,.int .i64 (if x.inp.isSome then 0 else 190)]) ∧ w = w':=by
 have hl:=hs.look hm he
 have c:=hs.c13 hm
 have hx:=hs.li.all _ he
 have c1:=hx.c2 hm
 have ho:=hx.i
 cases hxo : x.inp with
 | none=>
  simp only [hxo] at ho
  rw [ho.none_of] at c1
  simp only [Option.map_none,optP] at c1
  clear hs he hx ho hxo
  unfold ptr
  go_enter Tryz.func74,Tryz.ntmps74
  go_wp2
  go_returns
  exact ⟨by simp,rfl⟩
 | some o=>
  simp only [hxo] at ho
  obtain ⟨oa,h1,h2⟩:=ho.some_of
  rw [h1] at c1
  simp only [Option.map_some,optP,ptr] at c1
  clear hs he hx ho hxo h1 h2
  unfold ptr
  go_enter Tryz.func74,Tryz.ntmps74
  go_wp2
  go_returns
  exact ⟨by simp,rfl⟩
end
end
section
open Go.RowKit
def wcE (x : Strm) : Int:=match x.out with
 | none=>190
 | some o=>if o.sc = -1 then (if o.fnd = true then 192 else if o.act = true then 0 else 192) else 194
def wrN (x : Strm) (d : ByteArray) : Nat:=match x.out with | none=>0 | some o=>if wcE x = 0 then o.X.writeN d else 0
def wrS (x : Strm) (d : ByteArray) : Strm:=match x.out with | none=>x | some o=>if wcE x = 0 then { x with out:=some { o with X:=o.X.write d } } else x
def fnS (x : Strm) : Strm:=match x.out with | none=>x | some o=>if wcE x = 0 then { x with out:=some { o with fnd:=true,X:={ o.X with fin:=true } } } else x
section
variable {W w : World} {H : Nat → Option Obj} {a : SetA} {s : SetS}
theorem SetIn.same (hs : SetIn H a s) {l1 l2 : List (StA × Strm)} {xa : StA} {x : Strm} (hm : Mem W w H) (hl : s.ss = l1 ++ (xa,x) :: l2) : SetIn H a { s with ss:=l1 ++ (xa,x) :: l2 } ∧ To W w H H (s.foot a) (SetS.foot { s with ss:=l1 ++ (xa,x) :: l2 } a):=by
 have e : { s with ss:=l1 ++ (xa,x) :: l2 } = s:=by rw [← hl]
 rw [e]
 exact ⟨hs,To.refl hm _⟩
theorem Write_any (hs : SetIn H a s) (hm : Mem W w H) {l1 l2 : List (StA × Strm)} {xa : StA} {x : Strm} (hl : s.ss = l1 ++ (xa,x) :: l2) (d : ByteArray) (hd : d.size ≤ maxLen) (hroom : ∀ o,x.out = some o → o.X.S.length + o.X.writeN d ≤ 1125899906842624) :
  Calls Tryz.prog 19 #[ptr a.sb,.int .i64 x.id,.string d] w fun e w'=>e = .returned (.tuple #[.int .i64 (wrN x d : Int),.int .i64 (wcE x)]) ∧ ∃ H' xa',xa'.xb = xa.xb ∧ To W w' H H' (s.foot a) (SetS.foot { s with ss:=l1 ++ (xa',wrS x d) :: l2 } a) ∧ SetIn H' a { s with ss:=l1 ++ (xa',wrS x d) :: l2 }:=by
 have he : (xa,x) ∈ s.ss:=by rw [hl];simp
 have WR:=Lib.hid (writable_any hs hm he)
 have hx:=hs.li.all _ he
 have c1:=hx.c1 hm
 have ho:=hx.o
 have SAME:=Lib.hid (hs.same hm hl)
 cases hxo : x.out with
 | none=>
  have hE : wrE x = 190:=by simp [wrE,hxo]
  have hP : wrP xa x = .pointer none:=by simp [wrP,hE]
  have e1 : wrN x d = 0:=by simp [wrN,hxo]
  have e2 : wcE x = 190:=by simp [wcE,hxo]
  have e3 : wrS x d = x:=by simp [wrS,hxo]
  rw [hE,hP] at WR
  rw [e1,e2,e3]
  clear hs he hx ho hxo hE hP c1 e1 e2 e3 hm hroom
  unfold ptr at *
  go_enter Tryz.func19,Tryz.ntmps19
  go_wp2_with (go_at_call 58;refine WR.out.mono ?_;rintro e wv ⟨rfl,rfl⟩)
  go_returns
  exact ⟨rfl,H,xa,rfl,SAME.out.2,SAME.out.1⟩
 | some o=>
  have hE : wrE x = if o.sc = -1 then 0 else 194:=by simp [wrE,hxo]
  have hP:=wrP.eq_1 xa x
  rw [hE] at hP
  rw [hE,hP] at WR
  by_cases hsc : o.sc = -1
  ·simp only [if_pos hsc,if_true] at WR
   simp only [hxo] at ho
   obtain ⟨oa,h1,h2⟩:=ho.some_of
   have AC:=Lib.hid (active_any (a:=xa.o) (o:=some o) (by rw [← hxo];exact hx.o) hm)
   rw [h1] at c1 AC
   simp only [Option.map_some,optP,ptr,outAct] at c1 AC
   have c3 : w.cell? ⟨oa.ob,3,none⟩ = some (.bool o.fnd):=h2.facts hm 3 rfl
   have c0 : w.cell? ⟨oa.ob,0,none⟩ = some (.pointer (some ⟨oa.bb,0,none⟩)):=h2.facts hm 0 rfl
   cases hf : o.fnd with
   | true=>
    have e2 : wcE x = 192:=by simp [wcE,hxo,hsc,hf]
    have e1 : wrN x d = 0:=by simp [wrN,hxo,e2]
    have e3 : wrS x d = x:=by simp [wrS,hxo,e2]
    rw [e1,e2,e3]
    rw [hf] at c3
    clear hs he hx ho hxo hE hP e1 e2 e3 hm hroom h1 h2 hsc
    unfold ptr at *
    go_enter Tryz.func19,Tryz.ntmps19
    go_wp2_with (first | (go_at_call 58;refine WR.out.mono ?_;rintro e wv ⟨rfl,rfl⟩) | (go_at_call 59;refine AC.out.mono ?_;rintro e wv ⟨rfl,rfl⟩))
    go_returns
    exact ⟨rfl,H,xa,rfl,SAME.out.2,SAME.out.1⟩
   | false=>
    rw [hf] at c3
    cases hac : o.act with
    | false=>
     have e2 : wcE x = 192:=by simp [wcE,hxo,hsc,hf,hac]
     have e1 : wrN x d = 0:=by simp [wrN,hxo,e2]
     have e3 : wrS x d = x:=by simp [wrS,hxo,e2]
     rw [e1,e2,e3]
     rw [hac] at AC
     clear hs he hx ho hxo hE hP e1 e2 e3 hm hroom h1 h2 hsc
     unfold ptr at *
     go_enter Tryz.func19,Tryz.ntmps19
     go_wp2_with (first | (go_at_call 58;refine WR.out.mono ?_;rintro e wv ⟨rfl,rfl⟩) | (go_at_call 59;refine AC.out.mono ?_;rintro e wv ⟨rfl,rfl⟩))
     go_returns
     exact ⟨rfl,H,xa,rfl,SAME.out.2,SAME.out.1⟩
    | true=>
     have e2 : wcE x = 0:=by simp [wcE,hxo,hsc,hf,hac]
     have e1 : wrN x d = o.X.writeN d:=by simp [wrN,hxo,e2]
     have e3 : wrS x d = { x with out:=some { o with X:=o.X.write d } }:=by simp [wrS,hxo,e2]
     rw [e1,e2,e3]
     rw [hac] at AC
     have BW : Hid (Calls Tryz.prog 60 #[.pointer (some ⟨oa.bb,0,none⟩),.string d] w fun e w'=>e = .returned (.int .i64 (o.X.writeN d : Int)) ∧ ∃ H' xa',xa'.xb = xa.xb ∧ To W w' H H' (s.foot a) (SetS.foot { s with ss:=l1 ++ (xa',{ x with out:=some { o with X:=o.X.write d } }) :: l2 } a) ∧ SetIn H' a { s with ss:=l1 ++ (xa',{ x with out:=some { o with X:=o.X.write d } }) :: l2 }):=Lib.hid (by
      have hok:=h2.bf.1
      refine (write_any oa.bb oa.bf o.X.buf d w (h2.bf.inv hm) hok.good hd).mono fun e w' hh=>?_
      rw [Wh.writeN_buf hok,Wh.write_buf hok] at hh
      obtain ⟨H',f',q1,q2⟩:=h2.setB hm hh.2.1 hh.2.2 (hok.write d (hroom o hxo))
      obtain ⟨q3,q4⟩:=hx.turnO h1 hxo q2 q1 rfl
      obtain ⟨q5,q6⟩:=hs.turnS hm hl q4 q3 rfl rfl
      exact ⟨hh.1,H',_,by rfl,q6,q5⟩)
     clear hs he hx ho hxo hE hP e1 e2 e3 hm hroom h1 h2 hsc SAME
     unfold ptr at *
     go_enter Tryz.func19,Tryz.ntmps19
     go_wp2_with (first | (go_at_call 58;refine WR.out.mono ?_;rintro e wv ⟨rfl,rfl⟩) | (go_at_call 59;refine AC.out.mono ?_;rintro e wv ⟨rfl,rfl⟩) | (go_at_call 60;refine BW.out.mono ?_;rintro e wb ⟨rfl,hh⟩;have G:=Lib.hid hh;clear hh))
     go_returns
     exact ⟨rfl,G.out⟩
  ·simp only [if_neg hsc,show ((194 : Int) = 0) = False from by simp,if_false] at WR
   have e2 : wcE x = 194:=by simp [wcE,hxo,hsc]
   have e1 : wrN x d = 0:=by simp [wrN,hxo,e2]
   have e3 : wrS x d = x:=by simp [wrS,hxo,e2]
   rw [e1,e2,e3]
   clear hs he hx ho hxo hE hP c1 e1 e2 e3 hm hroom hsc
   unfold ptr at *
   go_enter Tryz.func19,Tryz.ntmps19
   go_wp2_with (go_at_call 58;refine WR.out.mono ?_;rintro e wv ⟨rfl,rfl⟩)
   go_returns
   exact ⟨rfl,H,xa,rfl,SAME.out.2,SAME.out.1⟩
theorem Finish_any (hs : SetIn H a s) (hm : Mem W w H) {l1 l2 : List (StA × Strm)} {xa : StA} {x : Strm} (hl : s.ss = l1 ++ (xa,x) :: l2) :
  Calls Tryz.prog 23 #[ptr a.sb,.int .i64 x.id] w fun e w'=>e = .returned (.int .i64 (wcE x)) ∧ ∃ H' xa',xa'.xb = xa.xb ∧ To W w' H H' (s.foot a) (SetS.foot { s with ss:=l1 ++ (xa',fnS x) :: l2 } a) ∧ SetIn H' a { s with ss:=l1 ++ (xa',fnS x) :: l2 }:=by
 have he : (xa,x) ∈ s.ss:=by rw [hl];simp
 have WR:=Lib.hid (writable_any hs hm he)
 have hx:=hs.li.all _ he
 have c1:=hx.c1 hm
 have ho:=hx.o
 have SAME:=Lib.hid (hs.same hm hl)
 cases hxo : x.out with
 | none=>
  have hE : wrE x = 190:=by simp [wrE,hxo]
  have hP : wrP xa x = .pointer none:=by simp [wrP,hE]
  have e2 : wcE x = 190:=by simp [wcE,hxo]
  have e3 : fnS x = x:=by simp [fnS,hxo]
  rw [hE,hP] at WR
  rw [e2,e3]
  clear hs he hx ho hxo hE hP c1 e2 e3 hm
  unfold ptr at *
  go_enter Tryz.func23,Tryz.ntmps23
  go_wp2_with (go_at_call 58;refine WR.out.mono ?_;rintro e wv ⟨rfl,rfl⟩)
  go_ret
  exact ⟨rfl,H,xa,rfl,SAME.out.2,SAME.out.1⟩
 | some o=>
  have hE : wrE x = if o.sc = -1 then 0 else 194:=by simp [wrE,hxo]
  have hP:=wrP.eq_1 xa x
  rw [hE] at hP
  rw [hE,hP] at WR
  by_cases hsc : o.sc = -1
  ·simp only [if_pos hsc,if_true] at WR
   simp only [hxo] at ho
   obtain ⟨oa,h1,h2⟩:=ho.some_of
   have AC:=Lib.hid (active_any (a:=xa.o) (o:=some o) (by rw [← hxo];exact hx.o) hm)
   rw [h1] at c1 AC
   simp only [Option.map_some,optP,ptr,outAct] at c1 AC
   have c3 : w.cell? ⟨oa.ob,3,none⟩ = some (.bool o.fnd):=h2.facts hm 3 rfl
   have c0 : w.cell? ⟨oa.ob,0,none⟩ = some (.pointer (some ⟨oa.bb,0,none⟩)):=h2.facts hm 0 rfl
   cases hf : o.fnd with
   | true=>
    have e2 : wcE x = 192:=by simp [wcE,hxo,hsc,hf]
    have e3 : fnS x = x:=by simp [fnS,hxo,e2]
    rw [e2,e3]
    rw [hf] at c3
    clear hs he hx ho hxo hE hP e2 e3 hm h1 h2 hsc
    unfold ptr at *
    go_enter Tryz.func23,Tryz.ntmps23
    go_wp2_with (first | (go_at_call 58;refine WR.out.mono ?_;rintro e wv ⟨rfl,rfl⟩) | (go_at_call 59;refine AC.out.mono ?_;rintro e wv ⟨rfl,rfl⟩))
    go_ret
    exact ⟨rfl,H,xa,rfl,SAME.out.2,SAME.out.1⟩
   | false=>
    rw [hf] at c3
    cases hac : o.act with
    | false=>
     have e2 : wcE x = 192:=by simp [wcE,hxo,hsc,hf,hac]
     have e3 : fnS x = x:=by simp [fnS,hxo,e2]
     rw [e2,e3]
     rw [hac] at AC
     clear hs he hx ho hxo hE hP e2 e3 hm h1 h2 hsc
     unfold ptr at *
     go_enter Tryz.func23,Tryz.ntmps23
     go_wp2_with (first | (go_at_call 58;refine WR.out.mono ?_;rintro e wv ⟨rfl,rfl⟩) | (go_at_call 59;refine AC.out.mono ?_;rintro e wv ⟨rfl,rfl⟩))
     go_ret
     exact ⟨rfl,H,xa,rfl,SAME.out.2,SAME.out.1⟩
    | true=>
     have e2 : wcE x = 0:=by simp [wcE,hxo,hsc,hf,hac]
     have e3 : fnS x = { x with out:=some { o with fnd:=true,X:={ o.X with fin:=true } } }:=by simp [fnS,hxo,e2]
     rw [e2,e3]
     rw [hac] at AC
     have z3:=frozen_whole (hm.at h2.ob) 3
     obtain ⟨H1,O1,T1⟩:=h2.set hm (o':={ o with fnd:=true }) 3 (.bool true) (by simp [OutP.cells]) rfl rfl rfl
     obtain ⟨S1,TS1⟩:=hx.turnO h1 hxo T1 O1 rfl
     have c1':=S1.c1 T1.mem
     have c0' : (w.setCell ⟨oa.ob,3,none⟩ (.bool true)).cell? ⟨oa.ob,0,none⟩ = some (.pointer (some ⟨oa.bb,0,none⟩)):=O1.facts T1.mem 0 rfl
     have BW : Hid (Calls Tryz.prog 67 #[.pointer (some ⟨oa.bb,0,none⟩)] (w.setCell ⟨oa.ob,3,none⟩ (.bool true)) fun e w'=>e = .returned (.tuple #[]) ∧ ∃ H' xa',xa'.xb = xa.xb ∧ To W w' H H' (s.foot a) (SetS.foot { s with ss:=l1 ++ (xa',{ x with out:=some { o with fnd:=true,X:={ o.X with fin:=true } } }) :: l2 } a) ∧ SetIn H' a { s with ss:=l1 ++ (xa',{ x with out:=some { o with fnd:=true,X:={ o.X with fin:=true } } }) :: l2 }):=Lib.hid (by
      have hok:=h2.bf.1
      refine (finish_any oa.bb oa.bf o.X.buf _ (O1.bf.inv T1.mem)).mono fun e w' hh=>?_
      obtain ⟨H',f',q1,q2⟩:=O1.setB (X':={ o.X with fin:=true }) T1.mem hh.2.1 (hh.2.2.1.ext (fun k hk=>.inl hk)) hok.finish
      obtain ⟨q3,q4⟩:=hx.turnO h1 hxo (T1.trans q2) q1 rfl
      obtain ⟨q5,q6⟩:=hs.turnS hm hl q4 q3 rfl rfl
      exact ⟨hh.1,H',_,by rfl,q6,q5⟩)
     simp only [Option.map_some,optP,ptr] at c1'
     clear hs he hx ho hxo hE hP e2 e3 hm h1 h2 hsc SAME O1 T1 S1 TS1
     unfold ptr at *
     go_enter Tryz.func23,Tryz.ntmps23
     go_wp2_with (first | (go_at_call 58;refine WR.out.mono ?_;rintro e wv ⟨rfl,rfl⟩) | (go_at_call 59;refine AC.out.mono ?_;rintro e wv ⟨rfl,rfl⟩) | (go_at_call 67;refine BW.out.mono ?_;rintro e wb ⟨rfl,hh⟩;have G:=Lib.hid hh;clear hh))
     go_ret
     exact ⟨rfl,G.out⟩
  ·simp only [if_neg hsc,show ((194 : Int) = 0) = False from by simp,if_false] at WR
   have e2 : wcE x = 194:=by simp [wcE,hxo,hsc]
   have e3 : fnS x = x:=by simp [fnS,hxo,e2]
   rw [e2,e3]
   clear hs he hx ho hxo hE hP c1 e2 e3 hm hsc
   unfold ptr at *
   go_enter Tryz.func23,Tryz.ntmps23
   go_wp2_with (go_at_call 58;refine WR.out.mono ?_;rintro e wv ⟨rfl,rfl⟩)
   go_ret
   exact ⟨rfl,H,xa,rfl,SAME.out.2,SAME.out.1⟩
end
end
end Go.Proofs.YthckbmcmdcemkaaGreatDoor.stm
