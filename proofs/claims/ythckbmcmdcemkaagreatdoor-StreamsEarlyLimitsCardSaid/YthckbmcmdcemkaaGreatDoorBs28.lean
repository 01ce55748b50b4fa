/- Texts of this claim, one behind the other: Nk Nl Nm Nn No. -/
import Derived.Test.YthckbmcmdcemkaaGreatDoorBs27
import Derived.Deep.RegionWith
import Derived.Deep.CutRange
import Derived.Deep.QuietTactic
set_option maxRecDepth 100000
set_option maxHeartbeats 16000000
set_option linter.unusedSimpArgs false
set_option linter.unusedVariables false
namespace Go.Proofs.YthckbmcmdcemkaaGreatDoor.stm
section
open Go.RowKit
structure Stp (W w w' : World) (H H' : Nat → Option Obj) (a : SetA) (s s' : SetS) (bb : Nat) (v v' : Value) (b' : Bat) : Prop where
 sb : SB H' a s' bb v' b'
 tt : To W w' H H' (sbF s a bb v) (sbF s' a bb v')
 chg : Chg (bdF s a bb v) w w'
 fr : ∀ k,sbF s' a bb v' k → sbF s a bb v k ∨ w.heap.size ≤ k
section
variable {W w w' w2 : World} {H H' H2 : Nat → Option Obj} {a : SetA} {s s' s2 : SetS} {bb : Nat} {v v' v2 : Value} {b b' b2 : Bat} {f f' : Nat → Prop}
theorem SB.dom (h : SB H a s bb v b) {k : Nat} (hk : sbF s a bb v k) : ∃ o,H k = some o:=by
 rcases hk with hk | hk
 ·exact h.st.dom hk
 ·exact h.bt.dom hk
theorem Stp.mem (h : Stp W w w' H H' a s s' bb v v' b') : Mem W w' H':=h.tt.mem
theorem Stp.refl (h : SB H a s bb v b) (hm : Mem W w H) : Stp W w w H H a s s bb v v b:=⟨h,To.refl hm _,Chg.refl _ _,fun k hk=>.inl hk⟩
theorem Stp.trans (h : Stp W w w' H H' a s s' bb v v' b') (k : Stp W w' w2 H' H2 a s' s2 bb v' v2 b2) : Stp W w w2 H H2 a s s2 bb v v2 b2:=by
 refine ⟨k.sb,h.tt.trans k.tt,h.chg.trans (k.chg.mono (fun j hj=>?_)),fun j hj=>?_⟩
 ·rcases h.fr j hj.1 with c | c
  ·exact .inl ⟨c,hj.2⟩
  ·obtain ⟨o,ho⟩:=h.sb.dom hj.1
   exact .inr ⟨c,h.tt.mem.lt ho⟩
 ·rcases k.fr j hj with c | c
  ·exact h.fr j c
  ·exact .inr (Nat.le_trans h.chg.size c)
theorem Stp.below (h : SB H a s bb v b) (hm : Mem W w H) (hb : Below w.heap.size w w') : Stp W w w' H H a s s bb v v b:=⟨h,To.refl (hm.same hb) _,Chg.below hb,fun k hk=>.inl hk⟩
theorem Stp.after (h : Stp W w w' H H' a s s' bb v v' b') (hb : Below w'.heap.size w' w2) : Stp W w w2 H H' a s s' bb v v' b':=h.trans (Stp.below h.sb h.mem hb)
theorem Stp.drewN (h : Stp W w w' H H' a s s' bb v v' b') (n : Nat) : Stp W w (w'.drewN n) H H' a s s' bb v v' b':=h.after (belowN bz0 n)
theorem Stp.drew (h : Stp W w w' H H' a s s' bb v v' b') : Stp W w w'.drew H H' a s s' bb v v' b':=h.after bz0.drew
theorem Stp.sbw (h : Stp W w w' H H' a s s' bb v v' b') : SBw W w' a s' bb v' b':=⟨H',h.mem,h.sb⟩
theorem BatTo.stp (h : SB H a s bb v b) (t : BatTo W w w' H H' bb v v' b') : Stp W w w' H H' a s s bb v v' b':=by
 obtain ⟨q1,q2⟩:=h.turnB t.tt t.bt
 refine ⟨q1,q2,t.chg.mono (fun k hk=>⟨.inr hk,fun e=>?_⟩),fun k hk=>?_⟩
 ·subst e;exact h.dj _ (.inl (.inr (.inl rfl))) hk
 ·rcases hk with c | c
  ·exact .inl (.inl c)
  ·exact (t.fr k c).imp .inr id
theorem Stp.ofS (h : SB H a s bb v b) (T : To W w' H H' (s.foot a) (s'.foot a)) (hs : SetIn H' a s') (hc : Chg (fun k=>s.foot a k ∧ k ≠ a.M) w w') (hf : ∀ k,s'.foot a k → s.foot a k ∨ w.heap.size ≤ k) : Stp W w w' H H' a s s' bb v v b:=by
 obtain ⟨q1,q2⟩:=h.turnS T hs
 exact ⟨q1,q2,hc.mono (fun k hk=>⟨.inl hk.1,hk.2⟩),fun k hk=>hk.elim (fun c=>(hf k c).imp .inl id) (fun c=>.inl (.inr c))⟩
theorem foot_eq (h : s'.ss = s.ss) : s'.foot a = s.foot a:=by unfold SetS.foot;rw [h]
theorem SB.set (h : SB H a s bb v b) (hm : Mem W w H) (i : Nat) (x : Value) (hc : (s.cells a).setIfInBounds i x = s'.cells a) (hss : s'.ss = s.ss) (hcr : s'.cr = s.cr) (hwn : s'.wn = s.wn) :
  ∃ H',Stp W w (w.setCell ⟨a.sb,i,none⟩ x) H H' a s s' bb v v b:=by
 obtain ⟨H',S,T⟩:=h.st.set hm i x hc hss hcr hwn
 exact ⟨H',Stp.ofS h T S (Chg.setW' w _ _ _ ⟨.inl (.inl rfl),h.st.ne.1⟩) (fun k hk=>.inl (by rw [← foot_eq (a:=a) hss];exact hk))⟩
theorem SB.setC (h : SB H a s bb v b) (hm : Mem W w H) {c : Snd} (hB : Blk a.cb c.cells 161 w w') (hc : c.Ok) : ∃ H',Stp W w w' H H' a s { s with cr:=c } bb v v b:=by
 obtain ⟨H',S,T⟩:=h.st.setC hm hB hc
 exact ⟨H',Stp.ofS h T S (Chg.grown hB.2 ⟨.inl (.inr (.inr (.inl rfl))),h.st.ne.2.1⟩) (fun k hk=>.inl hk)⟩
theorem SB.setW (h : SB H a s bb v b) (hm : Mem W w H) {r : Rcr} (hB : Blk a.wb r.cells 200 w w') (hr : r.Ok) : ∃ H',Stp W w w' H H' a s { s with wn:=r } bb v v b:=by
 obtain ⟨H',S,T⟩:=h.st.setW hm hB hr
 exact ⟨H',Stp.ofS h T S (Chg.grown hB.2 ⟨.inl (.inr (.inr (.inr rfl))),h.st.ne.2.2.1⟩) (fun k hk=>.inl hk)⟩
theorem SB.strm (h : SB H a s bb v b) (hm : Mem W w H) {l1 l2 : List (StA × Strm)} {xa xa' : StA} {x x' : Strm} (hl : s.ss = l1 ++ (xa,x) :: l2) (T : To W w' H H' xa.foot xa'.foot) (hx : StIn H' xa' x') (hid : x'.id = x.id) (hxb : xa'.xb = xa.xb)
  (hc : Chg xa.foot w w') (hf : ∀ k,xa'.foot k → xa.foot k ∨ w.heap.size ≤ k) : Stp W w w' H H' a s { s with ss:=l1 ++ (xa',x') :: l2 } bb v v b:=by
 have he : (xa,x) ∈ s.ss:=by rw [hl];simp
 obtain ⟨S,T2⟩:=h.st.turnS hm hl T hx hid hxb
 refine Stp.ofS h T2 S (hc.mono (fun k hk=>⟨.inr ⟨_,he,hk⟩,(h.st.far he hk).2.1⟩)) (fun k hk=>?_)
 rcases hk with c | ⟨e,he2,c⟩
 ·exact .inl (.inl c)
 ·rcases List.mem_append.1 he2 with c2 | c2
  ·exact .inl (.inr ⟨e,by rw [hl];exact List.mem_append_left _ c2,c⟩)
  ·rcases List.mem_cons.1 c2 with rfl | c2
   ·exact (hf k c).imp (fun c=>.inr ⟨_,he,c⟩) id
   ·exact .inl (.inr ⟨e,by rw [hl];exact List.mem_append_right _ (List.mem_cons_of_mem _ c2),c⟩)
theorem StA.eqO {xa : StA} {oa : OutA} (h : xa.o = some oa) : ({ xa with o:=some oa } : StA) = xa:=by cases xa;simp at h;subst h;rfl
theorem StA.eqI {xa : StA} {ia : InA} (h : xa.i = some ia) : ({ xa with i:=some ia } : StA) = xa:=by cases xa;simp at h;subst h;rfl
theorem SB.out (h : SB H a s bb v b) (hm : Mem W w H) {l1 l2 : List (StA × Strm)} {xa : StA} {x : Strm} {oa : OutA} {o o' : OutP} (hl : s.ss = l1 ++ (xa,x) :: l2) (ho : xa.o = some oa) (hxo : x.out = some o) (T : To W w' H H' oa.foot oa.foot) (hO : OutIn H' oa o') (hc : Chg oa.foot w w') :
  Stp W w w' H H' a s { s with ss:=l1 ++ (xa,{ x with out:=some o' }) :: l2 } bb v v b:=by
 have he : (xa,x) ∈ s.ss:=by rw [hl];simp
 obtain ⟨X,T2⟩:=(h.st.li.all _ he).turnO ho hxo T hO rfl
 rw [StA.eqO ho] at X T2
 exact h.strm hm hl T2 X rfl rfl (hc.mono (fun k hk=>.inr (.inl (by rw [ho];exact hk)))) (fun k hk=>.inl hk)
theorem SB.inp (h : SB H a s bb v b) (hm : Mem W w H) {l1 l2 : List (StA × Strm)} {xa : StA} {x : Strm} {ia : InA} {i i' : InP} (hl : s.ss = l1 ++ (xa,x) :: l2) (ho : xa.i = some ia) (hxo : x.inp = some i) (T : To W w' H H' ia.foot ia.foot) (hO : InIn H' ia i') (hc : Chg ia.foot w w') :
  Stp W w w' H H' a s { s with ss:=l1 ++ (xa,{ x with inp:=some i' }) :: l2 } bb v v b:=by
 have he : (xa,x) ∈ s.ss:=by rw [hl];simp
 obtain ⟨X,T2⟩:=(h.st.li.all _ he).turnI ho hxo T hO rfl
 rw [StA.eqI ho] at X T2
 exact h.strm hm hl T2 X rfl rfl (hc.mono (fun k hk=>.inr (.inr (by rw [ho];exact hk)))) (fun k hk=>.inl hk)
theorem SB.outSet (h : SB H a s bb v b) (hm : Mem W w H) {l1 l2 : List (StA × Strm)} {xa : StA} {x : Strm} {oa : OutA} {o o' : OutP} (hl : s.ss = l1 ++ (xa,x) :: l2) (ho : xa.o = some oa) (hxo : x.out = some o) (hO : OutIn H oa o) (i : Nat) (y : Value) (hc : (o.cells oa).setIfInBounds i y = o'.cells oa) (hX : o'.X = o.X) (hcr : o'.cr = o.cr) (hak : o'.ak = o.ak) :
  ∃ H',Stp W w (w.setCell ⟨oa.ob,i,none⟩ y) H H' a s { s with ss:=l1 ++ (xa,{ x with out:=some o' }) :: l2 } bb v v b:=by
 obtain ⟨H',O,T⟩:=hO.set hm i y hc hX hcr hak
 exact ⟨H',h.out hm hl ho hxo T O (Chg.setW' w _ _ _ (.inl rfl))⟩
theorem SB.inSet (h : SB H a s bb v b) (hm : Mem W w H) {l1 l2 : List (StA × Strm)} {xa : StA} {x : Strm} {ia : InA} {i i' : InP} (hl : s.ss = l1 ++ (xa,x) :: l2) (ho : xa.i = some ia) (hxo : x.inp = some i) (hI : InIn H ia i) (j : Nat) (y : Value) (hc : (i.cells ia).setIfInBounds j y = i'.cells ia) (hR : i'.R = i.R) (hw : i'.wn = i.wn) :
  ∃ H',Stp W w (w.setCell ⟨ia.ib,j,none⟩ y) H H' a s { s with ss:=l1 ++ (xa,{ x with inp:=some i' }) :: l2 } bb v v b:=by
 obtain ⟨H',O,T⟩:=hI.set hm j y hc hR hw
 exact ⟨H',h.inp hm hl ho hxo T O (Chg.setW' w _ _ _ (.inl rfl))⟩
theorem SB.outAt (h : SB H a s bb v b) {l1 l2 : List (StA × Strm)} {xa : StA} {x : Strm} {o : OutP} (hl : s.ss = l1 ++ (xa,x) :: l2) (hxo : x.out = some o) : StIn H xa x ∧ ∃ oa,xa.o = some oa ∧ OutIn H oa o:=by
 have hx:=h.st.li.all (xa,x) (by rw [hl];simp)
 have h0:=hx.o
 simp only [hxo] at h0
 obtain ⟨oa,h1,h2⟩:=h0.some_of
 exact ⟨hx,oa,h1,h2⟩
theorem SB.inAt (h : SB H a s bb v b) {l1 l2 : List (StA × Strm)} {xa : StA} {x : Strm} {i : InP} (hl : s.ss = l1 ++ (xa,x) :: l2) (hxo : x.inp = some i) : StIn H xa x ∧ ∃ ia,xa.i = some ia ∧ InIn H ia i:=by
 have hx:=h.st.li.all (xa,x) (by rw [hl];simp)
 have h0:=hx.i
 simp only [hxo] at h0
 obtain ⟨oa,h1,h2⟩:=h0.some_of
 exact ⟨hx,oa,h1,h2⟩
end
end
section
open Go.RowKit
open frm (FrV)
def SetS.put (p : SetP) (l : List (StA × Strm)) : SetS:=⟨p.cl,p.loc,p.peer,l,p.g0,p.g1,p.cr,p.wn,p.tot,p.dd,p.srv⟩
structure Bat.Ok (b : Bat) : Prop where
 l0 : -1152921504606846976 ≤ b.lf
 l1 : b.lf ≤ 1152921504606846976
 n : b.fs.length ≤ 90000
section
variable {W w w' : World} {H : Nat → Option Obj} {a : SetA} {s s' : SetS} {bb : Nat} {v : Value} {b : Bat}
theorem pend_set (hm : Mem W w H) (h : SB H a s bb v b) (hk : b.Ok) (i : Nat) (d : Bool) (hi : (s.cells a)[i]? = some (.bool d)) (f : Fr) (hv : FrV f) (hc : (s.cells a).setIfInBounds i (.bool (pendD d b f)) = s'.cells a) (hss : s'.ss = s.ss) (hcr : s'.cr = s.cr) (hwn : s'.wn = s.wn) :
  Calls Tryz.prog 124 #[ptr bb,.pointer (some ⟨a.sb,i,none⟩),f.val] w fun e w'=>e = .returned (.bool (!pendD d b f)) ∧ ∃ H' v',Stp W w w' H H' a s s' bb v v' (pendB d b f):=by
 refine (pending_any hm h.bt a.sb i 115 (s.cells a) d h.st.sb hi (fun c=>h.dj _ (.inl (.inl rfl)) c) f hv ⟨hk.l0,hk.l1⟩ (by have:=hk.n;omega)).mono ?_
 rintro e w' ⟨rfl,w1,H1,v',t,rfl⟩
 have S1:=t.stp h
 obtain ⟨H2,S2⟩:=S1.sb.set S1.mem i (.bool (pendD d b f)) hc hss hcr hwn
 exact ⟨rfl,H2,v',S1.trans S2⟩
theorem pend_out (hm : Mem W w H) (h : SB H a s bb v b) (hk : b.Ok) {l1 l2 : List (StA × Strm)} {xa : StA} {x : Strm} {oa : OutA} {o o' : OutP} (hl : s.ss = l1 ++ (xa,x) :: l2) (ho : xa.o = some oa) (hxo : x.out = some o) (i : Nat) (d : Bool) (hi : (o.cells oa)[i]? = some (.bool d)) (f : Fr) (hv : FrV f)
  (hc : (o.cells oa).setIfInBounds i (.bool (pendD d b f)) = o'.cells oa) (hX : o'.X = o.X) (hcr : o'.cr = o.cr) (hak : o'.ak = o.ak) :
  Calls Tryz.prog 124 #[ptr bb,.pointer (some ⟨oa.ob,i,none⟩),f.val] w fun e w'=>e = .returned (.bool (!pendD d b f)) ∧ ∃ H' v',Stp W w w' H H' a s { s with ss:=l1 ++ (xa,{ x with out:=some o' }) :: l2 } bb v v' (pendB d b f):=by
 obtain ⟨_,oa',e1,hO⟩:=h.outAt hl hxo
 rw [ho] at e1;cases e1
 have he : (xa,x) ∈ s.ss:=by rw [hl];simp
 refine (pending_any hm h.bt oa.ob i 126 (o.cells oa) d hO.ob hi (fun c=>h.dj _ (.inr ⟨_,he,.inr (.inl (by rw [ho];exact .inl rfl))⟩) c) f hv ⟨hk.l0,hk.l1⟩ (by have:=hk.n;omega)).mono ?_
 rintro e w' ⟨rfl,w1,H1,v',t,rfl⟩
 have S1:=t.stp h
 obtain ⟨_,oa',e1,hO⟩:=S1.sb.outAt hl hxo
 rw [ho] at e1;cases e1
 obtain ⟨H2,S2⟩:=S1.sb.outSet S1.mem hl ho hxo hO i (.bool (pendD d b f)) hc hX hcr hak
 exact ⟨rfl,H2,v',S1.trans S2⟩
theorem pend_in (hm : Mem W w H) (h : SB H a s bb v b) (hk : b.Ok) {l1 l2 : List (StA × Strm)} {xa : StA} {x : Strm} {ia : InA} {i i' : InP} (hl : s.ss = l1 ++ (xa,x) :: l2) (ho : xa.i = some ia) (hxo : x.inp = some i) (j : Nat) (d : Bool) (hi : (i.cells ia)[j]? = some (.bool d)) (f : Fr) (hv : FrV f)
  (hc : (i.cells ia).setIfInBounds j (.bool (pendD d b f)) = i'.cells ia) (hR : i'.R = i.R) (hw : i'.wn = i.wn) :
  Calls Tryz.prog 124 #[ptr bb,.pointer (some ⟨ia.ib,j,none⟩),f.val] w fun e w'=>e = .returned (.bool (!pendD d b f)) ∧ ∃ H' v',Stp W w w' H H' a s { s with ss:=l1 ++ (xa,{ x with inp:=some i' }) :: l2 } bb v v' (pendB d b f):=by
 obtain ⟨_,oa',e1,hO⟩:=h.inAt hl hxo
 rw [ho] at e1;cases e1
 have he : (xa,x) ∈ s.ss:=by rw [hl];simp
 refine (pending_any hm h.bt ia.ib j 155 (i.cells ia) d hO.ib hi (fun c=>h.dj _ (.inr ⟨_,he,.inr (.inr (by rw [ho];exact .inl rfl))⟩) c) f hv ⟨hk.l0,hk.l1⟩ (by have:=hk.n;omega)).mono ?_
 rintro e w' ⟨rfl,w1,H1,v',t,rfl⟩
 have S1:=t.stp h
 obtain ⟨_,oa',e1,hO⟩:=S1.sb.inAt hl hxo
 rw [ho] at e1;cases e1
 obtain ⟨H2,S2⟩:=S1.sb.inSet S1.mem hl ho hxo hO j (.bool (pendD d b f)) hc hR hw
 exact ⟨rfl,H2,v',S1.trans S2⟩
theorem Bat.Ok.add (h : b.Ok) {f : Fr} (hv : FrV f) (hn : b.fs.length + 1 ≤ 90000) : (b.add f).Ok:=by
 have h1:=szF_pos f
 unfold Bat.add Bat.fits
 split
 ·rename_i hf
  simp only [decide_eq_true_eq] at hf
  have h2:=szF_le hv
  by_cases h3 : szF f ≤ b.lf
  ·exact ⟨by simp only;omega,by simp only;have:=h.l1;omega,by simp;omega⟩
  ·omega
 ·exact h
end
end
section
open Go.RowKit
section
variable {W w w' : World} {H : Nat → Option Obj} {a : SetA} {s s' : SetS} {bb : Nat} {v : Value} {b : Bat}
theorem Rcr.Ok.upd {r : Rcr} (h : r.Ok) : r.upd.Ok:=by
 obtain ⟨h1,h2,h3,h4,h5,h6⟩:=h
 unfold Rcr.upd
 split
 ·exact ⟨h1,h2,by simp only;omega,by simp only;omega,h5,h6⟩
 ·exact ⟨h1,h2,h3,h4,h5,h6⟩
theorem pendB_ok {d : Bool} (h : b.Ok) {f : Fr} (hv : frm.FrV f) (hn : b.fs.length + 1 ≤ 90000) : (pendB d b f).Ok:=by
 unfold pendB
 split
 ·exact h.add hv hn
 ·exact h
theorem pendB_len (d : Bool) (b : Bat) (f : Fr) : (pendB d b f).fs.length ≤ b.fs.length + 1:=by
 unfold pendB Bat.add
 split
 ·split
  ·simp
  ·omega
 ·omega
theorem clP_a {p : SetP} {b : Bat} (h : pendD (p.dd || p.wn.up) b (fMaxData p.wn.upd.most) = true) : clP p b = ({ p with wn:=p.wn.upd,dd:=true },pendB (p.dd || p.wn.up) b (fMaxData p.wn.upd.most),false):=by
 unfold clP
 simp [cl1,cl2,h]
theorem clP_b {p : SetP} {b b1 : Bat} {md : Bool} {m : Int} (h : pendD (p.dd || p.wn.up) b (fMaxData p.wn.upd.most) = false) (h1 : pendB (p.dd || p.wn.up) b (fMaxData p.wn.upd.most) = b1) (hm : p.g0.md = md) (hf : p.g0.gr + p.g0.fg = m) (h2 : pendD md b1 (fMaxStr false m) = true) :
  clP p b = ({ p with wn:=p.wn.upd,dd:=false,g0:={ p.g0 with md:=true } },pendB md b1 (fMaxStr false m),false):=by
 subst hm hf
 unfold clP
 simp [cl1,cl2,cl3,h,h1,h2]
theorem clP_c {p : SetP} {b b1 b2 : Bat} {md md1 : Bool} {m m1 : Int} (h : pendD (p.dd || p.wn.up) b (fMaxData p.wn.upd.most) = false) (h1 : pendB (p.dd || p.wn.up) b (fMaxData p.wn.upd.most) = b1) (hm : p.g0.md = md) (hf : p.g0.gr + p.g0.fg = m) (h2 : pendD md b1 (fMaxStr false m) = false) (h3 : pendB md b1 (fMaxStr false m) = b2) (hm1 : p.g1.md = md1) (hf1 : p.g1.gr + p.g1.fg = m1) :
  clP p b = ({ p with wn:=p.wn.upd,dd:=false,g0:={ p.g0 with md:=false },g1:={ p.g1 with md:=pendD md1 b2 (fMaxStr true m1) } },pendB md1 b2 (fMaxStr true m1),!pendD md1 b2 (fMaxStr true m1)):=by
 subst hm hf hm1 hf1
 unfold clP
 simp [cl1,cl2,cl3,cl4,h,h1,h2,h3]
theorem climits_any (hm : Mem W w H) (h : SB H a s bb v b) (hk : b.Ok) (hn : b.fs.length + 3 ≤ 90000) (h0 : s.g0.Ok) (h1 : s.g1.Ok) :
  Calls Tryz.prog 61 #[ptr a.sb,ptr bb] w fun e w'=>e = .returned (.bool (clP s.pl b).2.2) ∧ ∃ H' v',Stp W w w' H H' a s (SetS.put (clP s.pl b).1 s.ss) bb v v' (clP s.pl b).2.1:=by
 have c31 : w.cell? ⟨a.sb,31,none⟩ = some (.pointer (some ⟨a.wb,0,none⟩)):=at_whole' (hm.at h.st.sb) rfl
 have UP:=Lib.hid (update_any a.wb s.wn w (hm.at h.st.wb) h.st.wn)
 have HH:=Lib.hid (And.intro hm h)
 obtain ⟨up,hup⟩ : ∃ up,s.wn.up = up:=⟨_,rfl⟩
 rw [hup] at UP
 have HU:=Lib.hid hup
 have HK:=Lib.hid (And.intro hk (And.intro hn (And.intro h0 h1)))
 clear hm h hup hk hn h0 h1
 unfold ptr at *
 go_enter Tryz.func61,Tryz.ntmps61
 go_upto_if 17 with (go_at_call 123;refine UP.out.mono ?_;rintro e w1 ⟨⟨vv,rfl⟩,hB⟩;obtain ⟨H1,S1⟩:=HH.out.2.setW HH.out.1 hB HH.out.2.st.wn.upd;have R1:=Lib.hid S1;clear hB S1)
 go_cut [] from 18 to 59 (fun w2=>∃ H2,Hid (Stp W w w2 H H2 a s { s with wn:=s.wn.upd,dd:=s.dd || up } bb v v b))
 case first=>
  cases up with
  | false=>
   go_wp2
   go_meet
   exact ⟨H1,Lib.hid (by rw [Bool.or_false];exact R1.out)⟩
  | true=>
   have c33 : w1.cell? ⟨a.sb,33,none⟩ = some (.bool s.dd):=at_whole' (R1.out.mem.at R1.out.sb.st.sb) rfl
   have z33:=frozen_whole (R1.out.mem.at R1.out.sb.st.sb) 33
   obtain ⟨H2,S2⟩:=R1.out.sb.set R1.out.mem (s':={ s with wn:=s.wn.upd,dd:=true }) 33 (.bool true) rfl rfl rfl rfl
   have R2:=Lib.hid (R1.out.trans S2)
   clear S2
   go_wp2
   go_meet
   exact ⟨H2,Lib.hid (by rw [Bool.or_true];exact R2.out)⟩
 case rest=>
 obtain ⟨H2,R2⟩:=hcut
 obtain ⟨dd,hdd⟩ : ∃ dd,(s.dd || up) = dd:=⟨_,rfl⟩
 rw [hdd] at R2
 have HD:=Lib.hid hdd
 clear hdd R1 c31 UP
 have c31 : wc.cell? ⟨a.sb,31,none⟩ = some (.pointer (some ⟨a.wb,0,none⟩)):=at_whole' (R2.out.mem.at R2.out.sb.st.sb) rfl
 have LM:=Lib.hid (limit_any a.wb s.wn.upd wc.drew (R2.out.mem.drew.at R2.out.sb.st.wb))
 have hok:=R2.out.sb.st.wn
 have P1:=Lib.hid (pend_set (W:=W) (w:=wc.drew) R2.out.mem.drew R2.out.sb HK.out.1 33 dd rfl (fMaxData s.wn.upd.most) (v_maxData ⟨by have:=hok.r0;have:=hok.rh;have:=hok.hm;simp only at *;omega,by have:=hok.mm;unfold maxOff at this;simp only at *;omega⟩) (s':={ s with wn:=s.wn.upd,dd:=pendD dd b (fMaxData s.wn.upd.most) }) rfl rfl rfl rfl)
 clear hok
 unfold ptr at P1 LM
 generalize hwn : s.wn.upd = wn' at *
 have HWN:=Lib.hid hwn
 clear hwn
 go_upto_region 4 with fail
 go_region_with (first | (go_at_call 125;refine LM.out.mono ?_;rintro e wv ⟨rfl,rfl⟩) | (go_at_call 124;refine P1.out.mono ?_;rintro e w3 ⟨rfl,H3,v3,S3⟩;have R3:=Lib.hid (R2.out.drew.trans S3);clear S3))
 obtain ⟨d1,hd1⟩ : ∃ d1,pendD dd b (fMaxData wn'.most) = d1:=⟨_,rfl⟩
 obtain ⟨b1,hb1⟩ : ∃ b1,pendB dd b (fMaxData wn'.most) = b1:=⟨_,rfl⟩
 have hk1 : b1.Ok ∧ b1.fs.length ≤ b.fs.length + 1:=by
  rw [← hb1]
  refine ⟨pendB_ok HK.out.1 (v_maxData ?_) (by have:=HK.out.2.1;omega),pendB_len _ _ _⟩
  have hok:=R2.out.sb.st.wn
  exact ⟨by have:=hok.r0;have:=hok.rh;have:=hok.hm;simp only at *;omega,by have:=hok.mm;unfold maxOff at this;simp only at *;omega⟩
 have HP1 : Hid (pendD (s.pl.dd || s.pl.wn.up) b (fMaxData s.pl.wn.upd.most) = d1 ∧ pendB (s.pl.dd || s.pl.wn.up) b (fMaxData s.pl.wn.upd.most) = b1):=Lib.hid (by
  show pendD (s.dd || s.wn.up) b (fMaxData s.wn.upd.most) = d1 ∧ pendB (s.dd || s.wn.up) b (fMaxData s.wn.upd.most) = b1
  rw [HU.out,HWN.out,HD.out];exact ⟨hd1,hb1⟩)
 rw [hd1,hb1] at R3
 rw [hd1]
 have HK1:=Lib.hid hk1
 clear hd1 hb1 hk1 P1 LM c31 R2
 cases d1 with
 | true=>
  have HC:=Lib.hid (clP_a HP1.out.1)
  go_wp2
  go_returns
  refine ⟨by rw [HC.out];rfl,H3,v3,?_⟩
  rw [HC.out,HP1.out.2]
  have e : s.pl.wn.upd = wn':=HWN.out
  rw [e]
  exact R3.out
 | false=>
  go_wp2_with fail
  refine wp_loop_rounds 3 ?_
  rw [rounds_succ]
  have cgr : w3.cell? ⟨a.sb,17,none⟩ = some (.int .i64 s.g0.gr):=at_whole' (R3.out.mem.at R3.out.sb.st.sb) rfl
  have cfg : w3.cell? ⟨a.sb,18,none⟩ = some (.int .i64 s.g0.fg):=at_whole' (R3.out.mem.at R3.out.sb.st.sb) rfl
  obtain ⟨m0,hm0⟩ : ∃ m,s.g0.gr + s.g0.fg = m:=⟨_,rfl⟩
  have hmb0 : 0 ≤ m0 ∧ m0 ≤ 2000000000:=by have:=HK.out.2.2.1;unfold Grp.Ok at this;omega
  have hw0 : IntKind.i64.wrap (s.g0.gr + s.g0.fg) = m0:=by rw [hm0];exact IntWalk.i64_in _ (by omega)
  have P2:=Lib.hid (pend_set (W:=W) (w:=w3.drew) R3.out.mem.drew R3.out.sb HK1.out.1 19 s.g0.md rfl (fMaxStr false m0) (v_maxStr ⟨hmb0.1,by omega⟩) (s':={ s with wn:=wn',dd:=false,g0:={ s.g0 with md:=pendD s.g0.md b1 (fMaxStr false m0) } }) rfl rfl rfl rfl)
  have HM0:=Lib.hid (And.intro hm0 hmb0)
  clear hm0 hmb0
  unfold ptr at P2
  go_upto_region 10 with fail
  go_cut [58] from 41 to 58 (fun s58 wx=>s58 = .bool (pendD s.g0.md b1 (fMaxStr false m0)) ∧ ∃ Hx vx,Hid (Stp W w wx H Hx a s { s with wn:=wn',dd:=false,g0:={ s.g0 with md:=pendD s.g0.md b1 (fMaxStr false m0) } } bb v vx (pendB s.g0.md b1 (fMaxStr false m0))))
  case first=>
   go_region_with (go_at_call 124;refine P2.out.mono ?_;rintro e wx ⟨rfl,Hx,vx,Sx⟩;have Rx:=Lib.hid (R3.out.drew.trans Sx);clear Sx)
   all_goals
    go_wp2_with fail
    go_meet
    exact ⟨by simp,Hx,vx,Rx⟩
  case rest=>
  obtain ⟨rfl,H4,v4,R4⟩:=hcut
  generalize wc = w4 at *
  obtain ⟨d2,hd⟩ : ∃ d,pendD s.g0.md b1 (fMaxStr false m0) = d:=⟨_,rfl⟩
  obtain ⟨b2,hb⟩ : ∃ d,pendB s.g0.md b1 (fMaxStr false m0) = d:=⟨_,rfl⟩
  have hk2 : b2.Ok ∧ b2.fs.length ≤ b1.fs.length + 1:=by
   rw [← hb]
   exact ⟨pendB_ok HK1.out.1 (v_maxStr ⟨HM0.out.2.1,by have:=HM0.out.2.2;omega⟩) (by have:=HK1.out.2;have:=HK.out.2.1;omega),pendB_len _ _ _⟩
  have HP2 : Hid (pendD s.pl.g0.md b1 (fMaxStr false m0) = d2 ∧ pendB s.pl.g0.md b1 (fMaxStr false m0) = b2):=Lib.hid ⟨hd,hb⟩
  rw [hd,hb] at R4
  rw [hd]
  have HK2:=Lib.hid hk2
  clear hd hb hk2 P2 cgr cfg hw0 R3
  cases d2 with
  | true=>
   have HC:=Lib.hid (clP_b HP1.out.1 HP1.out.2 rfl HM0.out.1 HP2.out.1)
   go_wp2
   go_returns
   refine ⟨by rw [HC.out];rfl,H4,v4,?_⟩
   rw [HC.out,HP2.out.2]
   have e : s.pl.wn.upd = wn':=HWN.out
   rw [e]
   exact R4.out
  | false=>
   go_wp2_with fail
   rw [rounds_succ]
   have cgr : w4.cell? ⟨a.sb,25,none⟩ = some (.int .i64 s.g1.gr):=at_whole' (R4.out.mem.at R4.out.sb.st.sb) rfl
   have cfg : w4.cell? ⟨a.sb,26,none⟩ = some (.int .i64 s.g1.fg):=at_whole' (R4.out.mem.at R4.out.sb.st.sb) rfl
   obtain ⟨m1,hm1⟩ : ∃ m,s.g1.gr + s.g1.fg = m:=⟨_,rfl⟩
   have hmb1 : 0 ≤ m1 ∧ m1 ≤ 2000000000:=by have:=HK.out.2.2.2;unfold Grp.Ok at this;omega
   have hw1 : IntKind.i64.wrap (s.g1.gr + s.g1.fg) = m1:=by rw [hm1];exact IntWalk.i64_in _ (by omega)
   have P2:=Lib.hid (pend_set (W:=W) (w:=w4.drew) R4.out.mem.drew R4.out.sb HK2.out.1 27 s.g1.md rfl (fMaxStr true m1) (v_maxStr ⟨hmb1.1,by omega⟩) (s':={ s with wn:=wn',dd:=false,g0:={ s.g0 with md:=false },g1:={ s.g1 with md:=pendD s.g1.md b2 (fMaxStr true m1) } }) rfl rfl rfl rfl)
   have HM1:=Lib.hid (And.intro hm1 hmb1)
   clear hm1 hmb1
   unfold ptr at P2
   go_upto_region 10 with fail
   go_cut [58] from 41 to 58 (fun s58 wx=>s58 = .bool (pendD s.g1.md b2 (fMaxStr true m1)) ∧ ∃ Hx vx,Hid (Stp W w wx H Hx a s { s with wn:=wn',dd:=false,g0:={ s.g0 with md:=false },g1:={ s.g1 with md:=pendD s.g1.md b2 (fMaxStr true m1) } } bb v vx (pendB s.g1.md b2 (fMaxStr true m1))))
   case first=>
    go_region_with (go_at_call 124;refine P2.out.mono ?_;rintro e wx ⟨rfl,Hx,vx,Sx⟩;have Rx:=Lib.hid (R4.out.drew.trans Sx);clear Sx)
    all_goals
     go_wp2_with fail
     go_meet
     exact ⟨by simp,Hx,vx,Rx⟩
   case rest=>
   obtain ⟨rfl,H5,v5,R5⟩:=hcut
   generalize wc = w5 at *
   obtain ⟨d3,hd⟩ : ∃ d,pendD s.g1.md b2 (fMaxStr true m1) = d:=⟨_,rfl⟩
   obtain ⟨b3,hb⟩ : ∃ d,pendB s.g1.md b2 (fMaxStr true m1) = d:=⟨_,rfl⟩
   have HC:=Lib.hid (clP_c HP1.out.1 HP1.out.2 rfl HM0.out.1 HP2.out.1 HP2.out.2 rfl HM1.out.1)
   have HP3 : Hid (pendD s.pl.g1.md b2 (fMaxStr true m1) = d3 ∧ pendB s.pl.g1.md b2 (fMaxStr true m1) = b3):=Lib.hid ⟨hd,hb⟩
   rw [HP3.out.1,HP3.out.2] at HC
   rw [hd,hb] at R5
   rw [hd]
   clear hd hb P2 cgr cfg hw1 R4
   cases d3 with
   | true=>
    go_wp2
    go_returns
    refine ⟨by rw [HC.out];rfl,H5,v5,?_⟩
    rw [HC.out]
    have e : s.pl.wn.upd = wn':=HWN.out
    rw [e]
    exact R5.out
   | false=>
    go_wp2_with fail
    rw [rounds_succ]
    go_wp2
    go_returns
    refine ⟨by rw [HC.out];rfl,H5,v5,?_⟩
    rw [HC.out]
    have e : s.pl.wn.upd = wn':=HWN.out
    rw [e]
    exact R5.out
end
end
section
open Go.RowKit
section
variable {W w w' : World} {H : Nat → Option Obj}
theorem OutIn.buf {a : OutA} {o : OutP} (h : OutIn H a o) (hm : Mem W w H) : ∃ vd vs,w.heap[a.bb]? = some (.cells (o.X.buf.cells vd vs) 209 (0,0)):=by
 obtain ⟨_,vd,vs,h1,_⟩:=h.bf
 exact ⟨vd,vs,hm.at h1⟩
theorem sentO_any {a : OutA} {o : OutP} (h : OutIn H a o) (hm : Mem W w H) : Calls Tryz.prog 129 #[ptr a.bb] w fun e w'=>e = .returned (.int .i64 o.X.sent) ∧ w = w':=by
 obtain ⟨vd,vs,hb⟩:=h.buf hm
 have c4 : w.cell? ⟨a.bb,4,none⟩ = some (.int .i64 o.X.sent):=at_whole' hb rfl
 clear hb h hm
 unfold ptr
 go_enter Tryz.func129,Tryz.ntmps129
 go_wp2
 go_ret
 exact ⟨rfl,rfl⟩
theorem writtenO_any {a : OutA} {o : OutP} (h : OutIn H a o) (hm : Mem W w H) : Calls Tryz.prog 79 #[ptr a.bb] w fun e w'=>e = .returned (.int .i64 o.X.S.length) ∧ ∃ n,w' = w.drewN n:=by
 have hX:=h.bf.1
 refine (written_any a.bb a.bf o.X.buf w (h.bf.inv hm) hX.good).mono ?_
 rintro e w' ⟨rfl,n,rfl⟩
 refine ⟨?_,n,rfl⟩
 have h1:=o.X.u_le
 have h2:=hX.len
 unfold writtenF Wh.buf
 simp only [List.length_drop]
 congr 2
 omega
theorem waiting_any {a : Option OutA} {o : Option OutP} (h : OptO H a o) (hm : Mem W w H) : Calls Tryz.prog 131 #[optP (a.map (·.ob))] w fun e w'=>e = .returned (.bool (outWait o)) ∧ ∃ n,w' = w.drewN n:=by
 have AC:=Lib.hid (fun n=>active_any h (hm.same (belowN (Below.refl _ w) n)))
 cases o with
 | none=>
  obtain rfl:=h.none_of
  have HA:=Lib.hid (show outAct none = false from rfl)
  rw [HA.out] at AC
  clear h hm
  simp only [Option.map_none,optP] at *
  go_enter Tryz.func131,Tryz.ntmps131
  go_upto_region 1 with fail
  go_quiet ((go_at_call 59;exact Calls.quiet_of_same ((AC.out _).mono fun _ _ h=>⟨h.1,h.2.symm⟩)))
  go_wp2
  go_ret
  exact ⟨rfl,_,rfl⟩
 | some o=>
  obtain ⟨oa,rfl,hO⟩:=h.some_of
  have SE:=Lib.hid (fun n=>(sentO_any hO (hm.same (belowN (Below.refl _ w) n))).mono fun e w' hh=>(show e = .returned (.int .i64 o.X.sent) ∧ ∃ m,w' = w.drewN m from ⟨hh.1,n,hh.2.symm⟩))
  have WR:=Lib.hid (fun n=>(writtenO_any hO (hm.same (belowN (Below.refl _ w) n))).mono fun e w' hh=>(show e = .returned (.int .i64 o.X.S.length) ∧ ∃ m,w' = w.drewN m from ⟨hh.1,by obtain ⟨m,hm⟩:=hh.2;exact ⟨_,by rw [hm];exact World.drewN_drewN _ _ _⟩⟩))
  have c0 : w.cell? ⟨oa.ob,0,none⟩ = some (.pointer (some ⟨oa.bb,0,none⟩)):=hO.facts hm 0 rfl
  have c2 : w.cell? ⟨oa.ob,2,none⟩ = some (.int .i64 o.send):=hO.facts hm 2 rfl
  obtain ⟨ac,hac⟩ : ∃ b,outAct (some o) = b:=⟨_,rfl⟩
  obtain ⟨n2,hn2⟩ : ∃ b,decide (o.send ≠ 2) = b:=⟨_,rfl⟩
  obtain ⟨lt,hlt⟩ : ∃ b,decide (o.X.sent < o.X.S.length) = b:=⟨_,rfl⟩
  have HW : Hid (outWait (some o) = (ac && n2 && lt)):=Lib.hid (by rw [← hac,← hn2,← hlt];rfl)
  have e2 : (o.send != 2) = n2:=by rw [← hn2];by_cases h : o.send = 2 <;> simp [h]
  have e3 : decide ((o.X.sent : Int) < (o.X.S.length : Int)) = lt:=by rw [← hlt];simp
  rw [hac] at AC
  have AC : Hid (∀ n,Calls Tryz.prog 59 #[optP (some oa.ob)] (w.drewN n) fun e w'=>e = .returned (.bool ac) ∧ ∃ m,w' = w.drewN m):=Lib.hid (fun n=>(AC.out n).mono fun e w' hh=>⟨hh.1,n,hh.2.symm⟩)
  rw [HW.out]
  clear h hm hO hac hn2 hlt HW
  generalize (o.X.sent : Int) = se at *
  generalize (o.X.S.length : Int) = le at *
  simp only [Option.map_some,optP,ptr] at *
  go_enter Tryz.func131,Tryz.ntmps131
  go_upto_region 1 with fail
  cases ac with
  | false=>
   clear e2 e3
   go_quiet ((go_at_call 59;exact AC.out _))
   go_wp2
   go_ret
   exact ⟨rfl,_,rfl⟩
  | true=>
   cases n2 with
   | false=>
    clear e3
    go_quiet ((go_at_call 59;exact AC.out _))
    go_wp2
    go_ret
    exact ⟨rfl,_,rfl⟩
   | true=>
    go_quiet (first | (go_at_call 59;exact AC.out _) | (go_at_call 129;exact SE.out _) | (go_at_call 79;exact WR.out _))
    go_wp2
    go_ret
    exact ⟨rfl,_,rfl⟩
end
end
section
open Go.RowKit
def ctlA (x : Strm) (b : Bat) : Strm × Bat × Bool:=match x.out with
 | none=>(x,b,false)
 | some o=>({ x with out:=some (ctlO x.id o b).1 },(ctlO x.id o b).2,(ctlO x.id o b).1.rd)
theorem ctlX_eq (x : Strm) (b : Bat) : ctlX x b = if (ctlA x b).2.2 then ((ctlA x b).1,(ctlA x b).2.1,false) else ctlIx (ctlA x b).1 (ctlA x b).2.1:=by
 unfold ctlX ctlA
 cases x.out with
 | none=>rfl
 | some o=>rfl
structure StrOk (x : Strm) : Prop where
 o : ∀ o,x.out = some o → 0 ≤ o.rw ∧ o.rw ≤ 1073741823 ∧ (o.X.sent : Int) ≤ 1099511627776
 i : ∀ i,x.inp = some i → 0 ≤ i.sw ∧ i.sw ≤ 1073741823
section
variable {W w w' : World} {H : Nat → Option Obj} {a : SetA} {s s' : SetS} {bb : Nat} {v : Value} {b : Bat}
theorem put_ss {l1 l2 : List (StA × Strm)} {xa : StA} {x : Strm} (hl : s.ss = l1 ++ (xa,x) :: l2) : ({ s with ss:=l1 ++ (xa,x) :: l2 } : SetS) = s:=by rw [← hl]
theorem ctlA_len (x : Strm) (b : Bat) : (ctlA x b).2.1.fs.length ≤ b.fs.length + 1:=by
 unfold ctlA
 split
 ·simp
 ·exact pendB_len _ _ _
theorem sctl_any (hm : Mem W w H) (h : SB H a s bb v b) (hk : b.Ok) (hn : b.fs.length + 3 ≤ 90000) {l1 l2 : List (StA × Strm)} {xa : StA} {x : Strm} (hl : s.ss = l1 ++ (xa,x) :: l2) (hx : StrOk x) :
  Calls Tryz.prog 63 #[ptr xa.xb,ptr bb] w fun e w'=>e = .returned (.bool (ctlX x b).2.2) ∧ ∃ H' v',Stp W w w' H H' a s { s with ss:=l1 ++ (xa,(ctlX x b).1) :: l2 } bb v v' (ctlX x b).2.1:=by
 have he : (xa,x) ∈ s.ss:=by rw [hl];simp
 have hst : StIn H xa x:=h.st.li.all _ he
 have hid : x.id < 1152921504606846976:=h.st.li.bd _ he
 obtain ⟨po,hpo⟩ : ∃ po,optP (xa.o.map (·.ob)) = po:=⟨_,rfl⟩
 obtain ⟨pi,hpi⟩ : ∃ pi,optP (xa.i.map (·.ib)) = pi:=⟨_,rfl⟩
 have cx0 : w.cell? ⟨xa.xb,0,none⟩ = some (.int .i64 x.id):=hst.c0 hm
 have cx1 : w.cell? ⟨xa.xb,1,none⟩ = some po:=by rw [← hpo];exact hst.c1 hm
 have HPO:=Lib.hid (And.intro hpo hpi)
 clear hpo hpi
 have HH:=Lib.hid (And.intro hm (And.intro h (And.intro hl (And.intro hst hid))))
 have HK:=Lib.hid (And.intro hk (And.intro hn hx))
 rw [ctlX_eq]
 clear hm h hk hn hl hx he hst hid
 unfold ptr at *
 obtain ⟨x1,hx1⟩ : ∃ y,(ctlA x b).1 = y:=⟨_,rfl⟩
 obtain ⟨b1,hb1⟩ : ∃ y,(ctlA x b).2.1 = y:=⟨_,rfl⟩
 obtain ⟨d1,hd1⟩ : ∃ y,(ctlA x b).2.2 = y:=⟨_,rfl⟩
 rw [hx1,hb1,hd1]
 have HA:=Lib.hid (And.intro hx1 (And.intro hb1 hd1))
 obtain ⟨res,hres⟩ : ∃ res,(if d1 then (x1,b1,false) else ctlIx x1 b1) = res:=⟨_,rfl⟩
 rw [hres]
 have HR:=Lib.hid hres
 clear hx1 hb1 hd1 hres
 go_enter Tryz.func63,Tryz.ntmps63
 go_upto_region 2 with fail
 go_cut [36] from 13 to 36 (fun s36 w2=>s36 = .bool d1 ∧ ∃ H2 v2,Hid (Stp W w w2 H H2 a s { s with ss:=l1 ++ (xa,x1) :: l2 } bb v v2 b1))
 case first=>
  cases hxo : x.out with
  | none=>
   have h1:=HH.out.2.2.2.1.o
   rw [hxo] at h1
   obtain rfl : po = .pointer none:=by rw [← HPO.out.1,h1.none_of];rfl
   have e1 : ctlA x b = (x,b,false):=by unfold ctlA;rw [hxo]
   obtain ⟨q1,q2,q3⟩:=HA.out
   rw [e1] at q1 q2 q3
   simp only at q1 q2 q3
   subst q1 q2 q3
   have S0:=Lib.hid (Stp.refl HH.out.2.1 HH.out.1)
   clear h1 e1 hxo cx0 cx1 HA HPO
   go_quiet (fail)
   go_wp2_with fail
   go_meet
   exact ⟨rfl,H,v,Lib.hid (by rw [put_ss HH.out.2.2.1];exact S0.out.drewN _)⟩
  | some o=>
   obtain ⟨_,oa,hoa,hO⟩:=HH.out.2.1.outAt HH.out.2.2.1 hxo
   obtain rfl : po = .pointer (some ⟨oa.ob,0,none⟩):=by rw [← HPO.out.1,hoa];rfl
   have e1 : ctlA x b = ({ x with out:=some (ctlO x.id o b).1 },(ctlO x.id o b).2,(ctlO x.id o b).1.rd):=by unfold ctlA;rw [hxo]
   obtain ⟨q1,q2,q3⟩:=HA.out
   rw [e1] at q1 q2 q3
   simp only at q1 q2 q3
   have hM:=HH.out.1.drew
   have c0 : w.cell? ⟨oa.ob,0,none⟩ = some (.pointer (some ⟨oa.bb,0,none⟩)):=hO.facts HH.out.1 0 rfl
   have c4 : w.cell? ⟨oa.ob,4,none⟩ = some (.int .i64 o.rw):=hO.facts HH.out.1 4 rfl
   have SE:=Lib.hid (sentO_any hO hM)
   have ho:=HK.out.2.2.o o hxo
   have P1:=Lib.hid (pend_out (w:=w.drew) hM HH.out.2.1 HK.out.1 HH.out.2.2.1 hoa hxo 5 o.rd rfl (fReset x.id o.rw o.X.sent) (v_reset ⟨by omega,by have:=HH.out.2.2.2.2;omega⟩ ⟨ho.1,ho.2.1⟩ ⟨by omega,ho.2.2⟩) (o':=(ctlO x.id o b).1) rfl rfl rfl rfl)
   have S0:=Lib.hid ((Stp.refl HH.out.2.1 HH.out.1).drew)
   have HQ:=Lib.hid (And.intro q1 (And.intro q2 q3))
   clear hO hM ho q1 q2 q3 e1 HA
   unfold ptr at P1 SE
   have SQ:=Lib.hid (SE.out.mono fun _ _ h=>(⟨h.1,h.2.symm⟩ : _ ∧ _))
   clear SE
   refine wp_region_still_tail 21 (by kernel_rfl) (by kernel_rfl) ?_
   simp only [List.take_succ_cons,List.take_zero,List.drop_succ_cons,List.drop_zero]
   repeat (first | ((with_reducible refine wpStill_step (fun K hK=>?_));go_simp;(with_reducible refine hK _ ?_);clear hK K) | ((with_reducible refine wpStill_step (fun K hK=>?_));go_simp;(refine ⟨_,SQ.out,hK _ ?_⟩);clear hK K))
   with_reducible refine wpStill_nil ?_
   go_wp2_with (go_at_call 124;refine P1.out.mono ?_;rintro e w3 ⟨rfl,H3,v3,S3⟩;have R3:=Lib.hid (S0.out.trans S3);clear S3)
   go_meet
   exact ⟨by rw [← HQ.out.2.2];rfl,H3,v3,Lib.hid (by rw [← HQ.out.1,← HQ.out.2.1];exact R3.out)⟩
 case rest=>
 obtain ⟨rfl,H2,v2,R2⟩:=hcut
 have HI : Hid (x1.inp = x.inp ∧ x1.id = x.id):=Lib.hid (by rw [← HA.out.1];unfold ctlA;split <;> exact ⟨rfl,rfl⟩)
 have HB1 : Hid (b1.Ok ∧ b1.fs.length ≤ b.fs.length + 1):=Lib.hid (by
  have hl:=ctlA_len x b
  rw [HA.out.2.1] at hl
  refine ⟨?_,hl⟩
  rw [← HA.out.2.1]
  unfold ctlA
  split
  ·exact HK.out.1
  ·rename_i o hxo
   have ho:=HK.out.2.2.o o hxo
   exact pendB_ok HK.out.1 (v_reset ⟨by omega,by have:=HH.out.2.2.2.2;omega⟩ ⟨ho.1,ho.2.1⟩ ⟨by omega,ho.2.2⟩) (by have:=HK.out.2.1;omega))
 clear HA cx0 cx1
 have hl1 : ({ s with ss:=l1 ++ (xa,x1) :: l2 } : SetS).ss = l1 ++ (xa,x1) :: l2:=rfl
 have hst1 : StIn H2 xa x1:=R2.out.sb.st.li.all (xa,x1) (by rw [hl1];simp)
 cases d1 with
 | true=>
  clear hst1
  have hr : Hid (res = (x1,b1,false)):=Lib.hid HR.out.symm
  go_wp2
  go_returns
  exact ⟨by rw [hr.out];rfl,H2,v2,by rw [hr.out];exact R2.out⟩
 | false=>
  have hr0 : Hid (res = ctlIx x1 b1):=Lib.hid HR.out.symm
  have cx2 : wc.cell? ⟨xa.xb,2,none⟩ = some pi:=by rw [← HPO.out.2];exact hst1.c2 R2.out.mem
  have cx0 : wc.cell? ⟨xa.xb,0,none⟩ = some (.int .i64 x1.id):=hst1.c0 R2.out.mem
  cases hxi : x1.inp with
  | none=>
   have e1 : Hid (res = (x1,b1,true)):=Lib.hid (by rw [hr0.out];unfold ctlIx;rw [hxi])
   have h1:=hst1.i
   rw [hxi] at h1
   obtain rfl : pi = .pointer none:=by rw [← HPO.out.2,h1.none_of];rfl
   clear h1 hst1 hxi HPO
   go_wp2
   go_returns
   exact ⟨by rw [e1.out];rfl,H2,v2,by rw [e1.out];exact R2.out⟩
  | some i=>
   obtain ⟨_,ia,hia,hI⟩:=R2.out.sb.inAt hl1 hxi
   obtain rfl : pi = .pointer (some ⟨ia.ib,0,none⟩):=by rw [← HPO.out.2,hia];rfl
   have e1 : Hid (res = ({ x1 with inp:=some (ctlI x1.id i b1).1 },(ctlI x1.id i b1).2.1,(ctlI x1.id i b1).2.2)):=Lib.hid (by rw [hr0.out];unfold ctlIx;rw [hxi])
   have hsw:=HK.out.2.2.i i (by rw [← HI.out.1];exact hxi)
   have hidb : 0 ≤ (x1.id : Int) ∧ (x1.id : Int) ≤ 4611686018427387903:=⟨by omega,by rw [HI.out.2];have:=HH.out.2.2.2.2;omega⟩
   have P1:=Lib.hid (pend_in (w:=wc.drew) R2.out.mem.drew R2.out.sb HB1.out.1 hl1 hia hxi 5 i.sd rfl (fStop x1.id i.sw) (v_stop hidb hsw) (i':=(ctlI1 x1.id i b1).1) rfl rfl rfl)
   have c4 : wc.cell? ⟨ia.ib,4,none⟩ = some (.int .i64 i.sw):=hI.facts R2.out.mem 4 rfl
   have HV:=Lib.hid (And.intro hsw (And.intro hidb (And.intro hia hxi)))
   clear hsw hidb hI hst1 HPO
   unfold ptr at P1
   go_upto_region 7 with fail
   refine wp_region_still_tail 13 (by kernel_rfl) (by kernel_rfl) ?_
   simp only [List.take_succ_cons,List.take_zero,List.drop_succ_cons,List.drop_zero]
   repeat ((with_reducible refine wpStill_step (fun K hK=>?_));go_simp;(with_reducible refine hK _ ?_);clear hK K)
   with_reducible refine wpStill_nil ?_
   go_upto_if 57 with (go_at_call 124;refine P1.out.mono ?_;rintro e w3 ⟨rfl,H3,v3,S3⟩;have R3:=Lib.hid (R2.out.drew.trans S3);clear S3)
   obtain ⟨d2,hd2⟩ : ∃ d,pendD i.sd b1 (fStop x1.id i.sw) = d:=⟨_,rfl⟩
   obtain ⟨b2,hb2⟩ : ∃ d,pendB i.sd b1 (fStop x1.id i.sw) = d:=⟨_,rfl⟩
   have e2 : Hid (ctlI1 x1.id i b1 = ({ i with sd:=d2 },b2)):=Lib.hid (by unfold ctlI1;rw [hd2,hb2])
   have HB2 : Hid (b2.Ok ∧ b2.fs.length ≤ b1.fs.length + 1):=Lib.hid (by
    rw [← hb2]
    exact ⟨pendB_ok HB1.out.1 (v_stop HV.out.2.1 HV.out.1) (by have:=HB1.out.2;have:=HK.out.2.1;omega),pendB_len _ _ _⟩)
   rw [e2.out,hb2] at R3
   rw [hd2]
   clear hd2 hb2 P1 cx0 cx2 c4
   simp only at R3
   have hl3 : ({ s with ss:=l1 ++ (xa,{ x1 with inp:=some { i with sd:=d2 } }) :: l2 } : SetS).ss = l1 ++ (xa,{ x1 with inp:=some { i with sd:=d2 } }) :: l2:=rfl
   obtain ⟨hst3,ia3,hia3,hI3⟩:=R3.out.sb.inAt (x:={ x1 with inp:=some { i with sd:=d2 } }) (i:={ i with sd:=d2 }) hl3 rfl
   rw [HV.out.2.2.1] at hia3
   cases hia3
   cases d2 with
   | true=>
    have e3 : Hid (ctlI x1.id i b1 = ({ i with sd:=true },b2,false)):=Lib.hid (by unfold ctlI;rw [e2.out];rfl)
    rw [e3.out] at e1
    clear hst3 hI3
    go_wp2
    go_returns
    exact ⟨by rw [e1.out];rfl,H3,v3,by rw [e1.out];exact R3.out⟩
   | false=>
    have c2 : w3.cell? ⟨ia.ib,2,none⟩ = some (.int .i64 i.recv):=hI3.facts R3.out.mem 2 rfl
    have c3 : w3.cell? ⟨ia.ib,3,none⟩ = some (.bool i.stp):=hI3.facts R3.out.mem 3 rfl
    have c1 : w3.cell? ⟨ia.ib,1,none⟩ = some (.pointer (some ⟨ia.wb,0,none⟩)):=hI3.facts R3.out.mem 1 rfl
    obtain ⟨rb,hrb⟩ : ∃ rb,(!(decide (i.recv = 0))) = rb:=⟨_,rfl⟩
    have er : (i.recv != 0) = rb:=by rw [← hrb];by_cases h : i.recv = 0 <;> simp [h]
    obtain ⟨sp,hsp⟩ : ∃ sp,i.stp = sp:=⟨_,rfl⟩
    have e4 : Hid ((!(decide (i.recv = 0)) || i.stp) = (rb || sp)):=Lib.hid (by rw [hrb,hsp])
    rw [hsp] at c3
    have e5 : Hid ((rb || sp) = true → res = ({ x1 with inp:=some { i with sd:=false } },b2,true)):=Lib.hid (fun hc=>by
     rw [e1.out];unfold ctlI;rw [e2.out]
     simp only [e4.out,hc,Bool.false_eq_true,if_false,if_true])
    have e6 : Hid ((rb || sp) = false → res = ({ x1 with inp:=some (ctlI3 x1.id (ctlI2 { i with sd:=false }) b2).1 },(ctlI3 x1.id (ctlI2 { i with sd:=false }) b2).2,!(ctlI3 x1.id (ctlI2 { i with sd:=false }) b2).1.md)):=Lib.hid (fun hc=>by
     rw [e1.out];unfold ctlI;rw [e2.out]
     simp only [e4.out,hc,Bool.false_eq_true,if_false])
    have UP:=Lib.hid (update_any ia.wb i.wn w3 (R3.out.mem.at hI3.wb) hI3.wn)
    have HI3:=Lib.hid hI3
    clear hrb hsp hst3 hI3
    cases rb with
    | true=>
     go_wp2
     go_returns
     exact ⟨by rw [e5.out rfl];rfl,H3,v3,by rw [e5.out rfl];exact R3.out⟩
    | false=>
     cases sp with
     | true=>
      go_wp2
      go_returns
      exact ⟨by rw [e5.out rfl];rfl,H3,v3,by rw [e5.out rfl];exact R3.out⟩
     | false=>
      obtain ⟨up,hup⟩ : ∃ up,i.wn.up = up:=⟨_,rfl⟩
      have UP2:=UP.out
      rw [hup] at UP2
      have UP:=Lib.hid UP2
      have HU:=Lib.hid hup
      clear UP2 hup
      unfold ptr at UP
      go_upto_if 77 with (go_at_call 123;refine UP.out.mono ?_;rintro e w4 ⟨⟨vv,rfl⟩,hB⟩;obtain ⟨H4,I4,T4⟩:=HI3.out.setW R3.out.mem hB HI3.out.wn.upd;have S4:=R3.out.sb.inp (x:={ x1 with inp:=some { i with sd:=false } }) R3.out.mem hl3 HV.out.2.2.1 rfl T4 I4 (Chg.grown hB.2 (.inr (.inr (.inr (.inr rfl)))));have R4:=Lib.hid (R3.out.trans S4);clear hB I4 T4 S4)
      go_cut [] from 78 to 80 (fun w5=>∃ H5,Hid (Stp W w w5 H H5 a s { s with ss:=l1 ++ (xa,{ x1 with inp:=some { i with sd:=false,wn:=i.wn.upd,md:=i.md || up } }) :: l2 } bb v v3 b2))
      case first=>
       have hl4 : ({ s with ss:=l1 ++ (xa,{ x1 with inp:=some { i with sd:=false,wn:=i.wn.upd } }) :: l2 } : SetS).ss = l1 ++ (xa,{ x1 with inp:=some { i with sd:=false,wn:=i.wn.upd } }) :: l2:=rfl
       cases up with
       | false=>
        go_wp2
        go_meet
        exact ⟨H4,Lib.hid (by rw [Bool.or_false];exact R4.out)⟩
       | true=>
        obtain ⟨_,ia4,hia4,hI4⟩:=R4.out.sb.inAt (x:={ x1 with inp:=some { i with sd:=false,wn:=i.wn.upd } }) (i:={ i with sd:=false,wn:=i.wn.upd }) hl4 rfl
        rw [HV.out.2.2.1] at hia4
        cases hia4
        have c6 : w4.cell? ⟨ia.ib,6,none⟩ = some (.bool i.md):=hI4.facts R4.out.mem 6 rfl
        have z6:=frozen_whole (R4.out.mem.at hI4.ib) 6
        obtain ⟨H5,S5⟩:=R4.out.sb.inSet (x:={ x1 with inp:=some { i with sd:=false,wn:=i.wn.upd } }) (i':={ i with sd:=false,wn:=i.wn.upd,md:=true }) R4.out.mem hl4 HV.out.2.2.1 rfl hI4 6 (.bool true) rfl rfl rfl
        have R5:=Lib.hid (R4.out.trans S5)
        clear S5 hI4
        go_wp2
        go_meet
        exact ⟨H5,Lib.hid (by rw [Bool.or_true];exact R5.out)⟩
      case rest=>
      obtain ⟨H5,R5⟩:=hcut
      generalize wc = w5 at *
      obtain ⟨md,hmd⟩ : ∃ md,(i.md || up) = md:=⟨_,rfl⟩
      have e7 : Hid (ctlI2 { i with sd:=false } = { i with sd:=false,wn:=i.wn.upd,md:=md }):=Lib.hid (by unfold ctlI2;simp only;rw [HU.out,hmd])
      rw [hmd] at R5
      have e8:=Lib.hid (e6.out rfl)
      rw [e7.out] at e8
      have hl5 : ({ s with ss:=l1 ++ (xa,{ x1 with inp:=some { i with sd:=false,wn:=i.wn.upd,md:=md } }) :: l2 } : SetS).ss = l1 ++ (xa,{ x1 with inp:=some { i with sd:=false,wn:=i.wn.upd,md:=md } }) :: l2:=rfl
      obtain ⟨hst5,ia5,hia5,hI5⟩:=R5.out.sb.inAt (x:={ x1 with inp:=some { i with sd:=false,wn:=i.wn.upd,md:=md } }) (i:={ i with sd:=false,wn:=i.wn.upd,md:=md }) hl5 rfl
      rw [HV.out.2.2.1] at hia5
      cases hia5
      have c1 : w5.cell? ⟨ia.ib,1,none⟩ = some (.pointer (some ⟨ia.wb,0,none⟩)):=hI5.facts R5.out.mem 1 rfl
      have cx0 : w5.cell? ⟨xa.xb,0,none⟩ = some (.int .i64 x1.id):=hst5.c0 R5.out.mem
      have LM0:=limit_any ia.wb i.wn.upd w5.drew (R5.out.mem.drew.at hI5.wb)
      have LM:=Lib.hid (LM0.mono fun _ _ h=>(⟨h.1,h.2.symm⟩ : _ ∧ _))
      have hok : i.wn.upd.Ok:=hI5.wn
      have P5:=Lib.hid (pend_in (w:=w5.drew) R5.out.mem.drew R5.out.sb HB2.out.1 hl5 HV.out.2.2.1 rfl 6 md rfl (fMaxSD x1.id i.wn.upd.most) (v_maxSD HV.out.2.1 ⟨by have:=hok.r0;have:=hok.rh;have:=hok.hm;omega,by have:=hok.mm;unfold maxOff at this;omega⟩) (i':=(ctlI3 x1.id { i with sd:=false,wn:=i.wn.upd,md:=md } b2).1) rfl rfl rfl)
      have e9 : Hid (ctlI3 x1.id { i with sd:=false,wn:=i.wn.upd,md:=md } b2 = ({ i with sd:=false,wn:=i.wn.upd,md:=pendD md b2 (fMaxSD x1.id i.wn.upd.most) },pendB md b2 (fMaxSD x1.id i.wn.upd.most))):=Lib.hid rfl
      clear hmd hst5 hI5 hok LM0 c2 c3 er R4 UP HI3
      unfold ptr at P5 LM
      generalize i.wn.upd = wn' at *
      go_upto_region 14 with fail
      refine wp_region_still_tail 14 (by kernel_rfl) (by kernel_rfl) ?_
      simp only [List.take_succ_cons,List.take_zero,List.drop_succ_cons,List.drop_zero]
      repeat (first | ((with_reducible refine wpStill_step (fun K hK=>?_));go_simp;(with_reducible refine hK _ ?_);clear hK K) | ((with_reducible refine wpStill_step (fun K hK=>?_));go_simp;(refine ⟨_,LM.out,hK _ ?_⟩);clear hK K))
      with_reducible refine wpStill_nil ?_
      go_wp2_with (go_at_call 124;refine P5.out.mono ?_;rintro e w6 ⟨rfl,H6,v6,S6⟩;have R6:=Lib.hid (R5.out.drew.trans S6);clear S6)
      go_returns
      refine ⟨?_,H6,v6,?_⟩
      ·rw [e8.out,e9.out];rfl
      ·rw [e8.out];exact R6.out
end
end
end Go.Proofs.YthckbmcmdcemkaaGreatDoor.stm
