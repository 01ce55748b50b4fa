/- Texts of this claim, one behind the other: Tc Td Te Tf Ua Ub Uc. -/
import Derived.Test.YthckbmcmdcemkaaGreatDoorBs38
import Derived.Test.YthckbmcmdcemkaaGreatDoorBs40
import Derived.Test.YthckbmcmdcemkaaGreatDoorBs39
import Derived.Test.YthckbmcmdcemkaaGreatDoorBs27
set_option maxRecDepth 100000
set_option maxHeartbeats 16000000
set_option linter.unusedSimpArgs false
set_option linter.unusedVariables false
namespace Go.Proofs.YthckbmcmdcemkaaGreatDoor.stm
section
open Go.RowKit Go.Maps
section
variable {W w w' : World} {H H' : Nat → Option Obj} {a : SetA} {s s' : SetS} {p p2 : SetP} {R : List (Nat × Obj)}
def CnOk (W : World) (a : SetA) (p p2 : SetP) (id : Nat) (snd : Bool) : Prop:=∀ s w1 H1,s.pl = p → Mem W w1 H1 → SetIn H1 a s →
 Calls Tryz.prog 71 #[ptr a.sb,.int .i64 id,.bool snd] w1 fun e w2=>∃ xb H2 s2,e = .returned (.tuple #[ptr xb,.int .i64 0]) ∧ To W w2 H1 H2 (s.foot a) (s2.foot a) ∧ SetIn H2 a s2 ∧ s2.pl = p2 ∧ fndP s2.ss id = ptr xb
theorem fndP_of {l : List (StA × Strm)} (hu : l.Pairwise fun e f=>e.2.id < f.2.id) {l1 l2 : List (StA × Strm)} {xa : StA} {x : Strm} (hl : l = l1 ++ (xa,x) :: l2) : fndP l x.id = ptr xa.xb:=by
 unfold fndP
 have : l.find? (fun e=>e.2.id == x.id) = some (xa,x):=by
  rw [hl,List.find?_append]
  have h1 : l1.find? (fun e=>e.2.id == x.id) = none:=by
   rw [List.find?_eq_none]
   intro e he
   rw [hl] at hu
   have:=(List.pairwise_append.mp hu).2.2 e he (xa,x) (by simp)
   simp at this ⊢
   omega
  rw [h1]
  simp
 rw [this]
theorem ptr_inj {b c : Nat} (h : ptr b = ptr c) : b = c:=by
 unfold ptr at h
 injection h with h
 injection h with h
 injection h
theorem xb_of (S : SetIn H a s) {l1 l2 : List (StA × Strm)} {xa : StA} {x : Strm} (hl : s.ss = l1 ++ (xa,x) :: l2) {xb : Nat} (hf : fndP s.ss x.id = ptr xb) : xa.xb = xb:=by
 rw [fndP_of S.li.up hl] at hf
 exact ptr_inj hf
theorem cn_old0 (id : Nat) (hid : id < 9223372036854775808) (snd : Bool) {q1 q2 : List Strm} {x : Strm} (hq : p.ss = q1 ++ x :: q2) (hid2 : x.id = id) (hk : kindN id = 0) (hlc : isLoc p.cl id = true) (hi : (id : Int) / 4 < p.g0.opn) : CnOk W a p p id snd:=by
 intro s w1 H1 hp hm hs
 subst hp
 obtain ⟨l1,xa,l2,hl,e1,e2⟩:=pl_split (l:=s.ss) hq
 refine (concerned_old0 hs hm id hid snd (xa:=xa) (x:=x) (by rw [hl];simp) hid2 hk hlc hi).mono fun e w2 hh=>?_
 obtain ⟨rfl,n,rfl⟩:=hh
 exact ⟨xa.xb,H1,s,rfl,(To.refl hm _).same (belowN (Below.refl _ w1) n),hs,rfl,hid2 ▸ fndP_of hs.li.up hl⟩
def crP (cl : Bool) (psd : Int) (sd b : Nat) : Nat → Nat → List Strm → List Strm
 | 0,_,l=>l
 | n + 1,j,l=>crP cl psd sd b n (j + 1) (insP (newStrm cl psd sd (4 * j + b)) l)
theorem pl_cr (cl : Bool) (psd : Int) (sd b : Nat) : ∀ (xs : List StA) (j : Nat) (l : List (StA × Strm)),(crL cl psd sd b xs j l).map (·.2) = crP cl psd sd b xs.length j (l.map (·.2))
 | [],_,_=>rfl
 | x :: t,j,l=>by
  unfold crL
  rw [pl_cr cl psd sd b t,pl_ins]
  rfl
theorem fr_pl {m id : Nat} (h : ∀ e ∈ s.pl.ss,e.id % 4 = id % 4 → e.id / 4 < m) : ∀ e ∈ s.ss,e.2.id % 4 = id % 4 → e.2.id / 4 < m:=fun e he=>h e.2 (List.mem_map.mpr ⟨e,he,rfl⟩)
theorem cn_new0 (id : Nat) (hid : id < 1152921504606846976) (snd : Bool) (hk : kindN id = 0) (hlc : isLoc p.cl id = false) (m : Nat) (hmo : p.g0.acc = m) (hi : (id : Int) / 4 < p.g0.gr + p.g0.fg) (hb : -9223372036854775808 ≤ p.g0.gr + p.g0.fg ∧ p.g0.gr + p.g0.fg ≤ 800000)
  (hp0 : 0 ≤ p.peer.sdata) (hp1 : p.peer.sdata ≤ 1073741824) (sd : Nat) (hl : p.loc.sdata = sd) (hl2 : sd ≤ 8192) (hmb : m ≤ 800000) (hfree : ∀ e ∈ p.ss,e.id % 4 = id % 4 → e.id / 4 < m) (hlen : p.ss.length + (id / 4 + 1 - m) ≤ 900000)
  {q1 q2 : List Strm} {x : Strm} (hq : crP p.cl p.peer.sdata sd (id % 4) (id / 4 + 1 - m) m p.ss = q1 ++ x :: q2) (hx : x.id = id) :
  CnOk W a p { p with ss:=q1 ++ x :: q2,g0:={ p.g0 with acc:=(m + (id / 4 + 1 - m) : Nat) } } id snd:=by
 intro s w1 H1 hp hm hs
 subst hp
 refine (concerned_new0 hs hm id hid snd hk hlc m hmo hi hb hp0 hp1 sd hl hl2 hmb (fr_pl hfree) (by simpa [SetS.pl] using hlen)).mono fun e w2 hh=>?_
 obtain ⟨xs,hxs,rfl,H2,T,S⟩:=hh
 have e1 : (crL s.cl s.peer.sdata sd (id % 4) xs m s.ss).map (·.2) = q1 ++ x :: q2:=by rw [pl_cr,hxs];exact hq
 obtain ⟨l1,xa,l2,hl',_,_⟩:=pl_split e1
 have e2:=fndP_of S.li.up hl'
 rw [hx] at e2
 refine ⟨xa.xb,H2,_,by rw [e2],T,S,?_,e2⟩
 unfold SetS.pl
 simp only [e1,hxs]
theorem cn_new1 (id : Nat) (hid : id < 1152921504606846976) (hk : kindN id = 1) (hlc : isLoc p.cl id = false) (m : Nat) (hmo : p.g1.acc = m) (hi : (id : Int) / 4 < p.g1.gr + p.g1.fg) (hb : -9223372036854775808 ≤ p.g1.gr + p.g1.fg ∧ p.g1.gr + p.g1.fg ≤ 800000)
  (hp0 : 0 ≤ p.peer.sdata) (hp1 : p.peer.sdata ≤ 1073741824) (sd : Nat) (hl : p.loc.sdata = sd) (hl2 : sd ≤ 8192) (hmb : m ≤ 800000) (hfree : ∀ e ∈ p.ss,e.id % 4 = id % 4 → e.id / 4 < m) (hlen : p.ss.length + (id / 4 + 1 - m) ≤ 900000)
  {q1 q2 : List Strm} {x : Strm} (hq : crP p.cl p.peer.sdata sd (id % 4) (id / 4 + 1 - m) m p.ss = q1 ++ x :: q2) (hx : x.id = id) :
  CnOk W a p { p with ss:=q1 ++ x :: q2,g1:={ p.g1 with acc:=(m + (id / 4 + 1 - m) : Nat) } } id false:=by
 intro s w1 H1 hp hm hs
 subst hp
 refine (concerned_new1 hs hm id hid hk hlc m hmo hi hb hp0 hp1 sd hl hl2 hmb (fr_pl hfree) (by simpa [SetS.pl] using hlen)).mono fun e w2 hh=>?_
 obtain ⟨xs,hxs,rfl,H2,T,S⟩:=hh
 have e1 : (crL s.cl s.peer.sdata sd (id % 4) xs m s.ss).map (·.2) = q1 ++ x :: q2:=by rw [pl_cr,hxs];exact hq
 obtain ⟨l1,xa,l2,hl',_,_⟩:=pl_split e1
 have e2:=fndP_of S.li.up hl'
 rw [hx] at e2
 refine ⟨xa.xb,H2,_,by rw [e2],T,S,?_,e2⟩
 unfold SetS.pl
 simp only [e1,hxs]
theorem mn_stop (h : Mn W w a p R) (f : Fr) (hv : frm.FrV f) (hty : f.ty = 5) {x : Strm} {o : OutP} {q1 q2 : List Strm} (hstr : f.str = x.id) (CN : CnOk W a p p2 x.id true) (hq : p2.ss = q1 ++ x :: q2) (ho : x.out = some o) (hg0 : p2.g0.Ok) (hg1 : p2.g1.Ok) :
  Calls Tryz.prog 24 #[ptr a.sb,f.val] w fun e w'=>e = .returned (.int .i64 0) ∧ Mn W w' a (stlP { p2 with ss:=q1 ++ { x with out:=some (stpO o f.code) } :: q2 } q1 q2 { x with out:=some (stpO o f.code) }) R:=by
 obtain ⟨H,s,hm,hs,rfl,hr⟩:=h
 refine (Receive_140 hs hm f hv (by rw [hty];decide) (by rw [hty];decide) (by rw [hty];rfl) (by rw [hty];rfl)
  (fun xb s2=>s2.pl = p2 ∧ fndP s2.ss x.id = ptr xb)
  (fun er s3 l1 l2 _ x3=>er = 0 ∧ s3.pl = { p2 with ss:=q1 ++ { x with out:=some (stpO o f.code) } :: q2 } ∧ l1.map (·.2) = q1 ∧ l2.map (·.2) = q2 ∧ x3 = { x with out:=some (stpO o f.code) })
  (fun w1 H1 hm1 hs1=>by rw [hstr];exact CN s w1 H1 rfl hm1 hs1) ?_).mono fun e w' hh=>?_
 ·rintro w2 H2 s2 xb ⟨rfl,hf⟩ hm2 hs2
  obtain ⟨l1,xa,l2,hl,e1,e2⟩:=pl_split (l:=s2.ss) hq
  have hxb:=xb_of hs2 hl hf
  subst hxb
  refine (onStop_any hs2 hm2 hl ho f).mono fun e w3 hh=>?_
  obtain ⟨rfl,H3,xa',hx',T,S⟩:=hh
  exact ⟨0,H3,_,l1,l2,xa',_,rfl,T,S,rfl,hx',hg0,hg1,rfl,by unfold SetS.pl;simp only [pl_set q1 q2 l1 l2 _ _ e1 e2],e1,e2,rfl⟩
 ·obtain ⟨er,H4,s3,l1,l2,xa3,x3,rfl,⟨rfl,h1,rfl,rfl,rfl⟩,hl,T,S⟩:=hh
  exact ⟨rfl,Mn.to hr T S (by rw [pl_stl,h1])⟩
def excP (p : SetP) (i : InP) (e : Int) : Bool:=decide (i.wn.most < e) || decide (p.wn.most < p.tot + max (e - i.cn) 0)
def datEP (p : SetP) (i : InP) (f : Fr) : Int:=
 if i.wasR then (if decide (i.fl < datEnd f) || (f.fin && !decide (datEnd f = i.fl)) then 161 else 0)
 else if excP p i (datEnd f) then 150 else rea.putE i.R f.off.toNat f.s f.fin
def cntTP (p : SetP) (i : InP) (e : Int) : Int:=p.tot + (cntN i e - i.cn)
def cntSP (p : SetP) (i : InP) (e : Int) (L : List Strm) : SetP:={ p with ss:=L,tot:=cntTP p i e,wn:=p.wn.recH (cntTP p i e) }
def datSP (p : SetP) (i : InP) (f : Fr) (L : List Strm) : SetP:=if i.stp then { cntSP p i (datEnd f) L with wn:=(cntSP p i (datEnd f) L).wn.read (rdN (datI i f).R 8192) } else cntSP p i (datEnd f) L
theorem mn_data (h : Mn W w a p R) (f : Fr) (hv : frm.FrV f) (hty : f.ty = 8) {x : Strm} {i : InP} {q1 q2 : List Strm} (hstr : f.str = x.id) (CN : CnOk W a p p2 x.id false) (hq : p2.ss = q1 ++ x :: q2) (hi : x.inp = some i) (hg0 : p2.g0.Ok) (hg1 : p2.g1.Ok)
  (hf0 : 0 ≤ f.off) (hf1 : f.off + f.s.size ≤ 1099511627776) (hf2 : f.s.size ≤ 8192) (hc : 0 ≤ i.cn ∧ i.cn ≤ maxOff) (ht : 0 ≤ p2.tot ∧ p2.tot ≤ maxOff) (hat : i.R.at_ ≤ 1125899906842624)
  (hcw : i.cn ≤ i.wn.most) (htw : p2.tot ≤ p2.wn.most) (hroom : i.wn.most ≤ i.R.at_ + i.R.bs.length) {a0 a1 a2 a3 : Addr} (hE : rea.Errs W a0 a1 a2 a3) (hA : rea.Apt W a0 a1) (hwr : i.wasR = false) (hd : datEP p2 i f = 0) :
  Calls Tryz.prog 24 #[ptr a.sb,f.val] w fun e w'=>e = .returned (.int .i64 0) ∧ Mn W w' a (stlP (datSP p2 i f (q1 ++ { x with inp:=some (datI2 i f) } :: q2)) q1 q2 { x with inp:=some (datI2 i f) }) R:=by
 obtain ⟨H,s,hm,hs,rfl,hr⟩:=h
 refine (Receive_138 hs hm f hv (by rw [hty];decide) (by rw [hty];decide) (by rw [hty];rfl) (by rw [hty];rfl)
  (fun xb s2=>s2.pl = p2 ∧ fndP s2.ss x.id = ptr xb)
  (fun er s3 l1 l2 _ x3=>er = 0 ∧ s3.pl = datSP p2 i f (q1 ++ { x with inp:=some (datI2 i f) } :: q2) ∧ l1.map (·.2) = q1 ∧ l2.map (·.2) = q2 ∧ x3 = { x with inp:=some (datI2 i f) })
  (fun w1 H1 hm1 hs1=>by rw [hstr];exact CN s w1 H1 rfl hm1 hs1) ?_).mono fun e w' hh=>?_
 ·rintro w2 H2 s2 xb ⟨rfl,hf⟩ hm2 hs2
  obtain ⟨l1,xa,l2,hl,e1,e2⟩:=pl_split (l:=s2.ss) hq
  have hxb:=xb_of hs2 hl hf
  subst hxb
  refine (onData_yes hs2 hm2 hl hi f hf0 hf1 hf2 hc ht hat hcw htw hroom (hE.below hm2.below) (hA.below hm2.below) hwr hd).mono fun e w3 hh=>?_
  obtain ⟨rfl,H3,xa',hx',T,S⟩:=hh
  refine ⟨0,H3,_,l1,l2,xa',_,rfl,T,S,?_,hx',?_,?_,rfl,?_,e1,e2,rfl⟩
  ·unfold datS;split <;> rfl
  ·unfold datS;split <;> exact hg0
  ·unfold datS;split <;> exact hg1
  ·unfold datS datSP
   split
   ·unfold cntS cntSP cntT cntTP SetS.pl
    simp only [pl_set q1 q2 l1 l2 _ _ e1 e2]
   ·unfold cntS cntSP cntT cntTP SetS.pl
    simp only [pl_set q1 q2 l1 l2 _ _ e1 e2]
 ·obtain ⟨er,H4,s3,l1,l2,xa3,x3,rfl,⟨rfl,h1,rfl,rfl,rfl⟩,hl,T,S⟩:=hh
  exact ⟨rfl,Mn.to hr T S (by rw [pl_stl,h1])⟩
theorem mn_take (h : Mn W w a p R) {q1 q2 : List Strm} {x : Strm} {i : InP} (hq : p.ss = q1 ++ x :: q2) (hi : x.inp = some i) (n : Nat) (hn : n ≤ 1152921504606846976) (hat : i.R.at_ ≤ 1125899906842624) (h0 : p.g0.Ok) (hg1 : p.g1.Ok) (hst : i.stp = false) (hrv : i.recv ≠ 3 ∧ i.recv ≠ 4 ∧ i.recv ≠ 5) :
  Calls Tryz.prog 26 #[ptr a.sb,.int .i64 x.id,.int .i64 n] w fun e w'=>e = .returned (.tuple #[.string (rdStr i.R n),.bool (rdEnd i.R n),.int .i64 0]) ∧ Mn W w' a (stlP { p with wn:=p.wn.read (rdN i.R n) } q1 q2 { x with inp:=some (takeI i n) }) R:=by
 obtain ⟨H,s,hm,hs,rfl,hr⟩:=h
 obtain ⟨l1,xa,l2,hl,e1,e2⟩:=pl_split (l:=s.ss) hq
 refine (Read_take hs hm hl hi n hn hat h0 hg1 hst hrv).mono fun e w' hh=>?_
 obtain ⟨rfl,H',xa',_,T,S⟩:=hh
 refine ⟨rfl,Mn.to hr T S ?_⟩
 rw [pl_stl,e1,e2]
 rfl
end
end
def srvG : Nat → List Nat → Nat → SetP → Bat → Option (SetP × Bat)
 | 0,_,_,_,_=>none
 | n + 1,l,i,s,b=>if l.length ≤ i then some (s,b) else match l with
  | []=>none
  | x :: t=>srvG n (t ++ [x]) (if (srv s x b).2.2 then 0 else i + 1) (srv s x b).1 (srv s x b).2.1
theorem srvG_ok : ∀ (n : Nat) (l : List Nat) (i : Nat) (s : SetP) (b : Bat) (r : SetP × Bat),srvG n l i s b = some r → Srv l i s b r.1 r.2
 | 0,_,_,_,_,_,h=>by cases h
 | n + 1,l,i,s,b,r,h=>by
  unfold srvG at h
  split at h
  ·rename_i hi
   injection h with h
   subst h
   exact .stop l i s b hi
  ·rename_i hi
   cases l with
   | nil=>cases h
   | cons x t=>exact .go x t i s b _ _ (by simp at hi;omega) (srvG_ok n _ _ _ _ _ h)
def frmG (n : Nat) (s : SetP) (most : Int) : Option (SetP × List Fr):=
 if (clP s ⟨[],most⟩).2.2 then
  if (ctlL (clP s ⟨[],most⟩).1.ss (clP s ⟨[],most⟩).2.1).2.2 then
   (srvG n (cycF ((blP { (clP s ⟨[],most⟩).1 with ss:=(ctlL (clP s ⟨[],most⟩).1.ss (clP s ⟨[],most⟩).2.1).1 } (ctlL (clP s ⟨[],most⟩).1.ss (clP s ⟨[],most⟩).2.1).2.1).1.ss.map (·.id)) (blP { (clP s ⟨[],most⟩).1 with ss:=(ctlL (clP s ⟨[],most⟩).1.ss (clP s ⟨[],most⟩).2.1).1 } (ctlL (clP s ⟨[],most⟩).1.ss (clP s ⟨[],most⟩).2.1).2.1).1.srv) 0 (blP { (clP s ⟨[],most⟩).1 with ss:=(ctlL (clP s ⟨[],most⟩).1.ss (clP s ⟨[],most⟩).2.1).1 } (ctlL (clP s ⟨[],most⟩).1.ss (clP s ⟨[],most⟩).2.1).2.1).1 (blP { (clP s ⟨[],most⟩).1 with ss:=(ctlL (clP s ⟨[],most⟩).1.ss (clP s ⟨[],most⟩).2.1).1 } (ctlL (clP s ⟨[],most⟩).1.ss (clP s ⟨[],most⟩).2.1).2.1).2).map fun x=>(x.1,x.2.fs)
  else some ({ (clP s ⟨[],most⟩).1 with ss:=(ctlL (clP s ⟨[],most⟩).1.ss (clP s ⟨[],most⟩).2.1).1 },(ctlL (clP s ⟨[],most⟩).1.ss (clP s ⟨[],most⟩).2.1).2.1.fs)
 else some ((clP s ⟨[],most⟩).1,(clP s ⟨[],most⟩).2.1.fs)
theorem FramesP.is {s s' : SetP} {most : Int} {fs : List Fr} (h : FramesP s most s' fs) {n : Nat} {r : SetP × List Fr} (hr : frmG n s most = some r) : s' = r.1 ∧ fs = r.2:=by
 unfold FramesP at h
 unfold frmG at hr
 split at h
 ·rename_i h1
  rw [if_pos h1] at hr
  split at h
  ·rename_i h2
   rw [if_pos h2] at hr
   obtain ⟨q,rfl,b',h3,rfl⟩:=h
   obtain ⟨y,h4,rfl⟩:=Option.map_eq_some_iff.mp hr
   obtain ⟨rfl,rfl⟩:=h3.det (srvG_ok _ _ _ _ _ _ h4)
   exact ⟨rfl,rfl⟩
  ·rename_i h2
   rw [if_neg h2] at hr
   injection hr with hr
   subst hr
   exact h
 ·rename_i h1
  rw [if_neg h1] at hr
  injection hr with hr
  subst hr
  exact h
def sP : Pms:=⟨100,50,1,1,0,0⟩
def s0 : SetP:=newP true sP sP
def s1 : SetP:={ s0 with g0:=incG s0.g0,ss:=insP (newStrm s0.cl s0.peer.sdata 50 (4 * 0 + 0)) s0.ss }
def s2 : SetP:={ s1 with g0:=blkG s1.g0 }
def abc : ByteArray:=⟨#[97,98,99]⟩
def x0 : Strm:=newStrm true 50 50 0
def s3 : SetP:={ s2 with ss:=[] ++ wrS x0 abc :: [] }
theorem wr0 : wrN x0 abc = 3 ∧ wcE x0 = 0:=by decide
def s4 : SetP:=((frmG 10 s3 100).getD (s3,[])).1
def row1 : List Fr:=[fSBl false 1,fStr 0 0 abc false]
theorem fr4 : frmG 10 s3 100 = some (s4,row1):=by rfl
def x4 : Strm:=s4.ss.headD x0
theorem s4_ss : s4.ss = [] ++ x4 :: []:=by rfl
def s5 : SetP:={ s4 with ss:=[] ++ fnS x4 :: [] }
theorem wc4 : wcE x4 = 0:=by rfl
theorem id4 : x4.id = 0:=by rfl
def s6 : SetP:=((frmG 10 s5 100).getD (s3,[])).1
def row2 : List Fr:=[fStr 0 3 ByteArray.empty true]
theorem fr6 : frmG 10 s5 100 = some (s6,row2):=by rfl
def x6 : Strm:=s6.ss.headD x0
theorem s6_ss : s6.ss = [] ++ x6 :: []:=by rfl
def o6 : OutP:=x6.out.getD (newOut 50)
theorem o6_ss : x6.out = some o6:=by rfl
def y6 : Strm:={ x6 with out:=some (stpO o6 7) }
def s7 : SetP:=stlP { s6 with ss:=[] ++ y6 :: [] } [] [] y6
theorem s7_ss : s7.ss = [] ++ y6 :: []:=by rfl
theorem wc7 : wcE y6 = 194:=by rfl
theorem wn7 : wrN y6 ⟨#[120]⟩ = 0:=by rfl
def s8 : SetP:={ s7 with ss:=[] ++ wrS y6 ⟨#[120]⟩ :: [] }
def s9 : SetP:=((frmG 10 s8 100).getD (s3,[])).1
def row3 : List Fr:=[fReset 0 7 3]
theorem fr9 : frmG 10 s8 100 = some (s9,row3):=by rfl
def x9 : Strm:=s9.ss.headD x0
theorem s9_ss : s9.ss = [] ++ x9 :: []:=by rfl
def y3 : Strm:=newStrm true 50 50 3
theorem cr9 : crP s9.cl s9.peer.sdata 50 (3 % 4) (3 / 4 + 1 - 0) 0 s9.ss = [x9] ++ y3 :: []:=by rfl
def t0 : SetP:={ s9 with ss:=[x9] ++ y3 :: [],g1:={ s9.g1 with acc:=(0 + (3 / 4 + 1 - 0) : Nat) } }
def hello : ByteArray:=⟨#[104,101,108,108,111]⟩
def fHello : Fr:=fStr 3 0 hello true
def i3 : InP:=newIn 50
theorem y3_i : y3.inp = some i3:=by rfl
theorem dat3 : datEP t0 i3 fHello = 0:=by decide
def z3 : Strm:={ y3 with inp:=some (datI2 i3 fHello) }
def t1 : SetP:=stlP (datSP t0 i3 fHello ([x9] ++ z3 :: [])) [x9] [] z3
theorem t1_ss : t1.ss = [x9] ++ z3 :: []:=by rfl
theorem acc1 : t1.ss.find? (accE t1.cl) = some z3:=by rfl
def z4 : Strm:={ z3 with acc:=true }
def t2 : SetP:={ t1 with ss:=[x9] ++ z4 :: [] }
def i4 : InP:=datI2 i3 fHello
theorem z4_i : z4.inp = some i4:=by rfl
theorem rd4 : rdStr i4.R 9 = hello ∧ rdEnd i4.R 9 = true:=by constructor <;> rfl
theorem st4 : i4.stp = false ∧ i4.recv ≠ 3 ∧ i4.recv ≠ 4 ∧ i4.recv ≠ 5:=by decide
section
open Go.RowKit Go.Maps
def oB (o : OutP) : Bool:=decide (0 ≤ o.rw ∧ o.rw ≤ 1073741823 ∧ 0 ≤ o.cr.used ∧ o.cr.used ≤ o.cr.most ∧ o.cr.most ≤ maxOff ∧ -1 ≤ o.cr.rep ∧ o.cr.rep ≤ 9223372036854775807 ∧ (o.X.sent : Int) ≤ o.cr.used)
def sB (x : Strm) : Bool:=(match x.out with | none=>true | some o=>oB o) && (match x.inp with | none=>true | some i=>decide (0 ≤ i.sw ∧ i.sw ≤ 1073741823))
def gB (g : Grp) : Bool:=decide (0 ≤ g.opn ∧ g.opn ≤ 1000000000 ∧ 0 ≤ g.acc ∧ g.acc ≤ 1000000000 ∧ 0 ≤ g.gr ∧ g.gr ≤ 1000000000 ∧ 0 ≤ g.fg ∧ g.fg ≤ 1000000000)
def goodB (p : SetP) : Bool:=p.ss.all sB && (gB p.g0 && (gB p.g1 && decide ((0 ≤ p.g0.olim ∧ p.g0.olim ≤ 4611686018427387903) ∧ (0 ≤ p.g1.olim ∧ p.g1.olim ≤ 4611686018427387903) ∧ 0 ≤ p.cr.used ∧ p.cr.used ≤ p.cr.most ∧ p.cr.most ≤ maxOff ∧ -1 ≤ p.cr.rep ∧ p.cr.rep ≤ 9223372036854775807 ∧ p.ss.length ≤ 5000)))
theorem gB_ok {g : Grp} (h : gB g = true) : g.Ok:=by
 have:=of_decide_eq_true h
 exact this
theorem goodB_ok {p : SetP} (h : goodB p = true) : FGood p:=by
 unfold goodB at h
 simp only [Bool.and_eq_true] at h
 obtain ⟨h1,h2,h3,h4⟩:=h
 obtain ⟨a1,a2,a3,a4,a5,a6,a7,a8⟩:=of_decide_eq_true h4
 refine ⟨fun x hx=>?_,gB_ok h2,gB_ok h3,a1,a2,⟨a3,a4,a5⟩,⟨a6,a7⟩,a8⟩
 have hb:=List.all_eq_true.mp h1 x hx
 unfold sB at hb
 simp only [Bool.and_eq_true] at hb
 refine ⟨fun o ho=>?_,fun i hi=>?_⟩
 ·rw [ho] at hb
  obtain ⟨b1,b2,b3,b4,b5,b6,b7,b8⟩:=of_decide_eq_true hb.1
  exact ⟨⟨b1,b2⟩,⟨b3,b4,b5⟩,⟨b6,b7⟩,b8⟩
 ·rw [hi] at hb
  exact of_decide_eq_true hb.2
theorem g3 : FGood s3:=goodB_ok rfl
theorem g5 : FGood s5:=goodB_ok rfl
theorem g8 : FGood s8:=goodB_ok rfl
theorem g7 : s6.g0.Ok ∧ s6.g1.Ok:=⟨gB_ok rfl,gB_ok rfl⟩
theorem gt0 : t0.g0.Ok ∧ t0.g1.Ok:=⟨gB_ok rfl,gB_ok rfl⟩
theorem gt2 : t2.g0.Ok ∧ t2.g1.Ok:=⟨gB_ok rfl,gB_ok rfl⟩
section
variable {W w : World} {a : SetA} {R : List (Nat × Obj)} {a0 a1 a2 a3 : Addr}
theorem c_open1 (h : Mn W w a s0 R) : Calls Tryz.prog 18 #[.pointer (some ⟨a.sb,0,none⟩),.bool false] w fun e w'=>e = .returned (.tuple #[.int .i64 0,.int .i64 0]) ∧ Mn W w' a s1 R:=
 mn_open0c h (by decide) 0 rfl (by decide) rfl (by decide) (by decide) 50 rfl (by decide) (fun e he=>by cases he) (by decide)
theorem c_open2 (h : Mn W w a s1 R) : Calls Tryz.prog 18 #[.pointer (some ⟨a.sb,0,none⟩),.bool false] w fun e w'=>e = .returned (.tuple #[.int .i64 0,.int .i64 191]) ∧ Mn W w' a s2 R:=
 mn_open_no0 h (by decide)
theorem c_write (h : Mn W w a s2 R) : Calls Tryz.prog 19 #[.pointer (some ⟨a.sb,0,none⟩),.int .i64 0,.string { data:=#[97,98,99] }] w fun e w'=>e = .returned (.tuple #[.int .i64 3,.int .i64 0]) ∧ Mn W w' a s3 R:=by
 have:=mn_write h (q1:=[]) (q2:=[]) (x:=x0) rfl abc (by decide) (fun o ho=>by injection ho with ho;subst ho;decide)
 rw [wr0.1,wr0.2] at this
 exact this
def FrOut (W w' : World) (a : SetA) (p : SetP) (row : List Fr) (R : List (Nat × Obj)) (e : Ending) : Prop:=∃ g cap o,e = .returned (.slice (some ⟨g,0,none⟩) row.length cap) ∧ (∀ w : World,w.heap[g]? = some o → ∀ (k : Nat) u,(frs row)[k]? = some u → w.cell? ⟨g,k,none⟩ = some u) ∧ Mn W w' a p ((g,o) :: R)
theorem c_frames {s s' : SetP} {row : List Fr} (hg : FGood s) (hr : frmG 10 s 100 = some (s',row)) (h0 : 0 < row.length) (h : Mn W w a s R) : Calls Tryz.prog 21 #[.pointer (some ⟨a.sb,0,none⟩),.int .i64 100] w fun e w'=>FrOut W w' a s' row R e:=by
 refine (mn_frames h hg 100 (by decide) (by decide)).mono fun e w' hh=>?_
 obtain ⟨v,fs,p',R',rfl,h1,h2,h3,h4,h5⟩:=hh
 obtain ⟨rfl,rfl⟩:=h1.is hr
 obtain ⟨g,cap,o,rfl,rfl,h6⟩:=h4.cell h0
 exact ⟨g,cap,o,rfl,h6,h5⟩
theorem c_finish (h : Mn W w a s4 R) : Calls Tryz.prog 23 #[.pointer (some ⟨a.sb,0,none⟩),.int .i64 0] w fun e w'=>e = .returned (.int .i64 0) ∧ Mn W w' a s5 R:=by
 have:=mn_finish h (q1:=[]) (q2:=[]) (x:=x4) s4_ss
 rw [wc4,id4] at this
 exact this
theorem vStop : frm.FrV (fStop 0 7):=v_stop (by decide) (by decide)
theorem c_stop (h : Mn W w a s6 R) : Calls Tryz.prog 24 #[.pointer (some ⟨a.sb,0,none⟩),(fStop 0 7).val] w fun e w'=>e = .returned (.int .i64 0) ∧ Mn W w' a s7 R:=
 mn_stop h (fStop 0 7) vStop rfl (x:=x6) (o:=o6) (q1:=[]) (q2:=[]) rfl (cn_old0 _ (by decide) true s6_ss rfl (by decide) (by decide) (by decide)) s6_ss o6_ss g7.1 g7.2
theorem c_write2 (h : Mn W w a s7 R) : Calls Tryz.prog 19 #[.pointer (some ⟨a.sb,0,none⟩),.int .i64 0,.string { data:=#[120] }] w fun e w'=>e = .returned (.tuple #[.int .i64 0,.int .i64 194]) ∧ Mn W w' a s8 R:=by
 have:=mn_write h (q1:=[]) (q2:=[]) (x:=y6) s7_ss ⟨#[120]⟩ (by decide) (fun o ho=>by injection ho with ho;subst ho;decide)
 rw [wc7,wn7] at this
 exact this
theorem vHello : frm.FrV fHello:=v_str (by decide) (by decide) (by decide) (by decide)
theorem c_hello (h : Mn W w a s9 R) (hE : rea.Errs W a0 a1 a2 a3) (hA : rea.Apt W a0 a1) : Calls Tryz.prog 24 #[.pointer (some ⟨a.sb,0,none⟩),fHello.val] w fun e w'=>e = .returned (.int .i64 0) ∧ Mn W w' a t1 R:=
 mn_data h fHello vHello rfl (x:=y3) (i:=i3) (q1:=[x9]) (q2:=[]) rfl (cn_new1 3 (by decide) (by decide) (by decide) 0 rfl (by decide) (by decide) (by decide) (by decide) 50 rfl (by decide) (by decide) (fun e he=>by rw [s9_ss] at he;simp at he;subst he;decide) (by decide) cr9 rfl) rfl y3_i gt0.1 gt0.2
  (by decide) (by decide) (by decide) (by decide) (by decide) (by decide) (by decide) (by decide) (by decide) hE hA rfl dat3
theorem c_accept (h : Mn W w a t1 R) : Calls Tryz.prog 25 #[.pointer (some ⟨a.sb,0,none⟩)] w fun e w'=>e = .returned (.tuple #[.int .i64 3,.bool true]) ∧ Mn W w' a t2 R:=by
 refine (mn_accept_yes h (by decide) acc1).mono fun e w' hh=>?_
 obtain ⟨rfl,q1,q2,hq,hM⟩:=hh
 refine ⟨rfl,?_⟩
 have : q1 = [x9] ∧ q2 = []:=by
  rw [t1_ss] at hq
  cases q1 with
  | nil=>injection hq with h1 h2;exact absurd (congrArg Strm.id h1) (by decide)
  | cons y t=>
   injection hq with h1 h2
   cases t with
   | nil=>injection h2 with h3 h4;exact ⟨by rw [h1],h4.symm⟩
   | cons z t=>injection h2 with h3 h4;cases t <;> cases h4
 rw [this.1,this.2] at hM
 exact hM
theorem c_read (h : Mn W w a t2 R) : Calls Tryz.prog 26 #[.pointer (some ⟨a.sb,0,none⟩),.int .i64 3,.int .i64 9] w fun e w'=>e = .returned (.tuple #[.string { data:=#[104,101,108,108,111] },.bool true,.int .i64 0]) ∧ Below W.heap.size W w':=by
 refine (mn_take h (q1:=[x9]) (q2:=[]) (x:=z4) (i:=i4) rfl z4_i 9 (by decide) (by decide) gt2.1 gt2.2 st4.1 st4.2).mono fun e w' hh=>?_
 obtain ⟨rfl,hM⟩:=hh
 rw [rd4.1,rd4.2]
 exact ⟨rfl,hM.below⟩
end
end
section
open Go.RowKit Go.Maps
theorem bf1 (w : World) (c0 c1 c2 c3 c4 c5 c6 c7 c8 c9 c10 c11 c12 : Value) : (Instr.buildSlice 34 1 #[(0,.agg #[c0,c1,c2,c3,c4,c5,c6,c7,c8,c9,c10,c11,c12])]).run Tryz.prog w = .ok (.slice (some ⟨w.heap.size,0,none⟩) 1 1) (w.alloc (.cells #[c0,c1,c2,c3,c4,c5,c6,c7,c8,c9,c10,c11,c12] 38)):=by
 simp [Instr.buildSlice,go_sem]
 try rfl
theorem bf2 (w : World) (c0 c1 c2 c3 c4 c5 c6 c7 c8 c9 c10 c11 c12 d0 d1 d2 d3 d4 d5 d6 d7 d8 d9 d10 d11 d12 : Value) : (Instr.buildSlice 34 2 #[(0,.agg #[c0,c1,c2,c3,c4,c5,c6,c7,c8,c9,c10,c11,c12]),(1,.agg #[d0,d1,d2,d3,d4,d5,d6,d7,d8,d9,d10,d11,d12])]).run Tryz.prog w = .ok (.slice (some ⟨w.heap.size,0,none⟩) 2 2) (w.alloc (.cells #[c0,c1,c2,c3,c4,c5,c6,c7,c8,c9,c10,c11,c12,d0,d1,d2,d3,d4,d5,d6,d7,d8,d9,d10,d11,d12] 38)):=by
 simp [Instr.buildSlice,go_sem]
 try rfl
theorem box1 (w : World) (o : Obj) : (w.alloc o).heap[w.heap.size]? = some o ∧ Below w.heap.size w (w.alloc o):=⟨heap_alloc_new w o,bz0.alloc (Nat.le_refl _) o⟩
def pB : Pms:=⟨-1,0,0,0,0,0⟩
def pL : Pms:=⟨0,8193,0,0,0,0⟩
theorem New1 {W w : World} (hb : Below W.heap.size W w) : Calls Tryz.prog 17 #[.bool true,.agg #[.int .i64 100,.int .i64 50,.int .i64 1,.int .i64 1,.int .i64 0,.int .i64 0],.agg #[.int .i64 100,.int .i64 50,.int .i64 1,.int .i64 1,.int .i64 0,.int .i64 0]] w fun e w'=>∃ a : SetA,e = .returned (.tuple #[.pointer (some ⟨a.sb,0,none⟩),.int .i64 0]) ∧ Mn W w' a s0 []:=
 mn_new hb true sP sP (by decide) (by decide) (by decide)
theorem New2 (w : World) : Calls Tryz.prog 17 #[.bool true,.agg #[.int .i64 (-1),.int .i64 0,.int .i64 0,.int .i64 0,.int .i64 0,.int .i64 0],.agg #[.int .i64 100,.int .i64 50,.int .i64 1,.int .i64 1,.int .i64 0,.int .i64 0]] w fun e w'=>e = .returned (.tuple #[.pointer none,.int .i64 200]) ∧ Below w.heap.size w w':=
 New_no true pB sP (.inl (by decide)) w
theorem New3 (w : World) : Calls Tryz.prog 17 #[.bool true,.agg #[.int .i64 0,.int .i64 8193,.int .i64 0,.int .i64 0,.int .i64 0,.int .i64 0],.agg #[.int .i64 100,.int .i64 50,.int .i64 1,.int .i64 1,.int .i64 0,.int .i64 0]] w fun e w'=>e = .returned (.tuple #[.pointer none,.int .i64 200]) ∧ Below w.heap.size w w':=
 New_no true pL sP (.inr (.inr (by decide))) w
theorem same_lit {row : List Fr} {n : Nat} (hn : row.length = n) (h0 : 0 < n) (hn2 : n ≤ 100000) (hr : ∀ f ∈ row,f.ranges = .slice none 0 0) {cs : Array Value} (hcs : cs.toList = frs row) {g cap : Nat} {o : Obj}
  (hk : ∀ w : World,w.heap[g]? = some o → ∀ (k : Nat) u,(frs row)[k]? = some u → w.cell? ⟨g,k,none⟩ = some u) {wx : World} (ho : wx.heap[g]? = some o) :
  Calls Tryz.prog 54 #[.slice (some ⟨g,0,none⟩) n cap,.slice (some ⟨wx.heap.size,0,none⟩) n n] (wx.alloc (.cells cs 38)) fun e w'=>e = .returned (.bool true) ∧ Below wx.heap.size wx w':=by
 subst hn
 have hB:=(Below.refl wx.heap.size wx).alloc (Nat.le_refl _) (.cells cs 38)
 refine (sameFrames_any row hr g wx.heap.size cap _ _ hn2 h0 (hk _ (heap_below hB ho)) (fun k u hu=>at_whole' (heap_alloc_new wx _) (by rw [← hcs] at hu;simpa using hu))).mono fun e w' hh=>⟨hh.1,btr2 hB hh.2⟩
section
variable {W w : World} {a : SetA} {R : List (Nat × Obj)}
def FrO (W w' : World) (a : SetA) (p : SetP) (row : List Fr) (R : List (Nat × Obj)) (n : Nat) (e : Ending) : Prop:=∃ g cap o,e = .returned (.slice (some ⟨g,0,none⟩) n cap) ∧ (∀ w : World,w.heap[g]? = some o → ∀ (k : Nat) u,(frs row)[k]? = some u → w.cell? ⟨g,k,none⟩ = some u) ∧ Mn W w' a p ((g,o) :: R)
theorem c_fr {s s' : SetP} {row : List Fr} (hg : FGood s) (hr : frmG 10 s 100 = some (s',row)) (n : Nat) (hn : row.length = n) (h0 : 0 < n) (h : Mn W w a s R) : Calls Tryz.prog 21 #[.pointer (some ⟨a.sb,0,none⟩),.int .i64 100] w fun e w'=>FrO W w' a s' row R n e:=by
 subst hn
 exact c_frames hg hr h0 h
theorem c_stop' (h : Mn W w a s6 R) : Calls Tryz.prog 24 #[.pointer (some ⟨a.sb,0,none⟩),.agg #[.int .i64 5,.int .i64 0,.int .i64 0,.string { data:=#[] },.bool false,.int .i64 0,.int .i64 7,.bool false,.int .i64 0,.slice none 0 0,.int .i64 0,.int .i64 0,.string { data:=#[] }]] w fun e w'=>e = .returned (.int .i64 0) ∧ Mn W w' a s7 R:=c_stop h
theorem c_hello' {a0 a1 a2 a3 : Addr} (h : Mn W w a s9 R) (hE : rea.Errs W a0 a1 a2 a3) (hA : rea.Apt W a0 a1) : Calls Tryz.prog 24 #[.pointer (some ⟨a.sb,0,none⟩),.agg #[.int .i64 8,.int .i64 3,.int .i64 0,.string { data:=#[104,101,108,108,111] },.bool true,.int .i64 0,.int .i64 0,.bool false,.int .i64 0,.slice none 0 0,.int .i64 0,.int .i64 0,.string { data:=#[] }]] w fun e w'=>e = .returned (.int .i64 0) ∧ Mn W w' a t1 R:=c_hello h hE hA
theorem rg1 : ∀ f ∈ row1,f.ranges = .slice none 0 0:=fun f hf=>by
 simp only [row1,List.mem_cons,List.not_mem_nil,or_false] at hf
 rcases hf with rfl | rfl <;> rfl
theorem rg2 : ∀ f ∈ row2,f.ranges = .slice none 0 0:=fun f hf=>by
 simp only [row2,List.mem_cons,List.not_mem_nil,or_false] at hf
 subst hf;rfl
theorem rg3 : ∀ f ∈ row3,f.ranges = .slice none 0 0:=fun f hf=>by
 simp only [row3,List.mem_cons,List.not_mem_nil,or_false] at hf
 subst hf;rfl
theorem c_nil (w : World) : Calls Tryz.prog 24 #[.pointer none,.agg #[.int .i64 0,.int .i64 0,.int .i64 0,.string { data:=#[] },.bool false,.int .i64 0,.int .i64 0,.bool false,.int .i64 0,.slice none 0 0,.int .i64 0,.int .i64 0,.string { data:=#[] }]] w fun e w'=>e = .returned (.int .i64 1) ∧ Below w.heap.size w w':=Receive_nil ⟨0,0,0,⟨#[]⟩,false,0,0,false,0,.slice none 0 0,0,0,⟨#[]⟩⟩ w
end
theorem sane_any {w : World} {a0 a1 a2 a3 : Addr} (hE : rea.Errs w a0 a1 a2 a3) (hA : rea.Apt w a0 a1) : Calls Tryz.prog 16 #[] w fun e w'=>e = .returned (.bool true) ∧ Below w.heap.size w w':=by
 have X:=Lib.hid (box1 w (.cells #[.int .i64 100,.int .i64 50,.int .i64 1,.int .i64 1,.int .i64 0,.int .i64 0] 24))
 have ER:=Lib.hid (And.intro (hE.below X.out.2) (hA.below X.out.2))
 clear hE hA
 go_enter Tryz.func16,Tryz.ntmps16
 go_upto_region 2 with (fail)
 obtain ⟨X1,X2⟩:=X.out
 have XB:=Lib.hid X2
 obtain ⟨b,hb⟩ : ∃ b,w.heap.size = b:=⟨_,rfl⟩
 rw [hb] at X1 ⊢
 clear X hb X2
 generalize World.alloc _ _ = W at *
 have OLD : Hid (∀ wx : World,Below W.heap.size W wx → wx.cell? ⟨b,0,none⟩ = some (.int .i64 100) ∧ wx.cell? ⟨b,1,none⟩ = some (.int .i64 50) ∧ wx.cell? ⟨b,2,none⟩ = some (.int .i64 1) ∧ wx.cell? ⟨b,3,none⟩ = some (.int .i64 1) ∧ wx.cell? ⟨b,4,none⟩ = some (.int .i64 0) ∧ wx.cell? ⟨b,5,none⟩ = some (.int .i64 0)):=Lib.hid (fun wx hb=>by
  have e0:=heap_below hb X1
  exact ⟨at_whole' e0 rfl,at_whole' e0 rfl,at_whole' e0 rfl,at_whole' e0 rfl,at_whole' e0 rfl,at_whole' e0 rfl⟩)
 clear X1
 have N1:=Lib.hid (fun (wx : World) (hb : Below W.heap.size W wx)=>New1 hb)
 have N2:=Lib.hid New2
 have N3:=Lib.hid New3
 obtain ⟨q0,q1,q2,q3,q4,q5⟩:=OLD.out W bz0
 go_upto_region 3 with (go_at_call 17;refine (N1.out _ bz0).mono ?_;rintro e w1 ⟨a,rfl,hM⟩;have M1:=Lib.hid hM;clear hM q0 q1 q2 q3 q4 q5)
 obtain ⟨q0,q1,q2,q3,q4,q5⟩:=OLD.out _ M1.out.below
 go_upto_region 4 with (go_at_call 17;refine (N2.out _).mono ?_;rintro e w2 ⟨rfl,hb⟩;have M2:=Lib.hid (M1.out.same hb);clear hb q0 q1 q2 q3 q4 q5)
 clear M1
 obtain ⟨q0,q1,q2,q3,q4,q5⟩:=OLD.out _ M2.out.below
 go_upto_region 7 with (go_at_call 17;refine (N3.out _).mono ?_;rintro e w3 ⟨rfl,hb⟩;have M3:=Lib.hid (M2.out.same hb);clear hb q0 q1 q2 q3 q4 q5)
 clear M2 N1 N2 N3
 go_upto_region 8 with (go_at_call 18;refine (c_open1 M3.out).mono ?_;rintro e w4 ⟨rfl,hM⟩;have M4:=Lib.hid hM;clear hM M3)
 go_upto_region 9 with (go_at_call 18;refine (c_open2 M4.out).mono ?_;rintro e w5 ⟨rfl,hM⟩;have M5:=Lib.hid hM;clear hM M4)
 go_upto_region 10 with (go_at_call 19;refine (c_write M5.out).mono ?_;rintro e w6 ⟨rfl,hM⟩;have M6:=Lib.hid hM;clear hM M5)
 go_upto_region 11 with (go_at_call 21;refine (c_fr g3 fr4 2 rfl (by decide) M6.out).mono ?_;rintro e w7 ⟨ga,ca,oa,rfl,hk,hM⟩;have M7:=Lib.hid hM;have K1:=Lib.hid hk;clear hM hk M6)
 go_upto_region 12 with (go_at_call 23;refine (c_finish M7.out).mono ?_;rintro e w8 ⟨rfl,hM⟩;have M8:=Lib.hid hM;clear hM M7)
 go_upto_region 13 with (go_at_call 21;refine (c_fr g5 fr6 1 rfl (by decide) M8.out).mono ?_;rintro e w9 ⟨gb,cb,ob,rfl,hk,hM⟩;have M9:=Lib.hid hM;have K2:=Lib.hid hk;clear hM hk M8)
 go_upto_region 14 with (go_at_call 24;refine (c_stop' M9.out).mono ?_;rintro e w10 ⟨rfl,hM⟩;have M10:=Lib.hid hM;clear hM M9)
 go_upto_region 15 with (go_at_call 19;refine (c_write2 M10.out).mono ?_;rintro e w11 ⟨rfl,hM⟩;have M11:=Lib.hid hM;clear hM M10)
 go_upto_region 16 with (go_at_call 21;refine (c_fr g8 fr9 1 rfl (by decide) M11.out).mono ?_;rintro e w12 ⟨gc,cc,oc,rfl,hk,hM⟩;have M12:=Lib.hid hM;have K3:=Lib.hid hk;clear hM hk M11)
 have bb1:=bf1
 have bb2:=bf2
 have SF1:=Lib.hid (same_lit (row:=row1) (n:=2) rfl (by decide) (by decide) rg1 (cs:=#[.int .i64 22,.int .i64 0,.int .i64 0,.string { data:=#[] },.bool false,.int .i64 1,.int .i64 0,.bool false,.int .i64 0,.slice none 0 0,.int .i64 0,.int .i64 0,.string { data:=#[] },.int .i64 8,.int .i64 0,.int .i64 0,.string { data:=#[97,98,99] },.bool false,.int .i64 0,.int .i64 0,.bool false,.int .i64 0,.slice none 0 0,.int .i64 0,.int .i64 0,.string { data:=#[] }]) rfl (cap:=ca) K1.out (M12.out.row (x:=(ga,oa)) (by simp)))
 have SF2:=Lib.hid (fun (wx : World) (h : Mn W wx a s9 [(gc,oc),(gb,ob),(ga,oa)])=>same_lit (row:=row2) (n:=1) rfl (by decide) (by decide) rg2 (cs:=#[.int .i64 8,.int .i64 0,.int .i64 3,.string { data:=#[] },.bool true,.int .i64 0,.int .i64 0,.bool false,.int .i64 0,.slice none 0 0,.int .i64 0,.int .i64 0,.string { data:=#[] }]) rfl (cap:=cb) K2.out (h.row (x:=(gb,ob)) (by simp)))
 have SF3:=Lib.hid (fun (wx : World) (h : Mn W wx a s9 [(gc,oc),(gb,ob),(ga,oa)])=>same_lit (row:=row3) (n:=1) rfl (by decide) (by decide) rg3 (cs:=#[.int .i64 4,.int .i64 0,.int .i64 0,.string { data:=#[] },.bool false,.int .i64 3,.int .i64 7,.bool false,.int .i64 0,.slice none 0 0,.int .i64 0,.int .i64 0,.string { data:=#[] }]) rfl (cap:=cc) K3.out (h.row (x:=(gc,oc)) (by simp)))
 clear K1 K2 K3
 go_upto_region 17 with (fail)
 have Z1:=Lib.hid True.intro
 have Z2:=Lib.hid True.intro
 go_upto_region 19 with (first
  | (go_at_call 54;have Z0:=Z1.out;clear Z0 Z1;refine SF1.out.mono ?_;rintro e w13 ⟨rfl,hb⟩;have M13:=Lib.hid (M12.out.same hb);clear hb)
  | (go_at_call 54;have Z0:=Z2.out;clear Z0 Z2;refine (SF2.out _ M13.out).mono ?_;rintro e w14 ⟨rfl,hb⟩;have M14:=Lib.hid (M13.out.same hb);clear hb)
  | (go_at_call 54;refine (SF3.out _ M14.out).mono ?_;rintro e w15 ⟨rfl,hb⟩;have M15:=Lib.hid (M14.out.same hb);clear hb))
 clear SF1 SF2 SF3 M12 M13 M14 bb1 bb2
 go_upto_region 20 with (go_at_call 24;refine (c_hello' M15.out ER.out.1 ER.out.2).mono ?_;rintro e w16 ⟨rfl,hM⟩;have M16:=Lib.hid hM;clear hM M15)
 go_upto_region 21 with (go_at_call 25;refine (c_accept M16.out).mono ?_;rintro e w17 ⟨rfl,hM⟩;have M17:=Lib.hid hM;clear hM M16)
 go_upto_region 22 with (go_at_call 26;refine (c_read M17.out).mono ?_;rintro e w18 ⟨rfl,hb⟩;have M18:=Lib.hid (btr2 XB.out hb);clear hb M17)
 go_upto_region 24 with (go_at_call 18;refine (Open_nil _ _).mono ?_;rintro e w19 ⟨rfl,rfl⟩)
 go_wp2_with (go_at_call 24;refine (c_nil _).mono ?_;rintro e w20 ⟨rfl,hb⟩;have M20:=Lib.hid (btr2 M18.out hb);clear hb)
 go_ret
 exact ⟨rfl,M20.out⟩
end
section
open Go.RowKit Go.Maps
section
variable {W w w' : World} {a : SetA} {p p2 : SetP} {R : List (Nat × Obj)}
section
variable {i : InP} {wn : Rcr} {tot : Int} {a0 a1 a2 a3 : Addr}
end
end
end
section
open Go.RowKit Go.Maps
theorem agF_nil (a : Int) (bs : List Int) (hs : List Bool) (off : Int) : rea.agF a bs hs off [] = true:=by
 unfold rea.agF
 rw [List.all_eq_true]
 intro x hx
 have:=(rea.ovl_mem hx).1
 simp at this
section
variable {n : Nat} {i : InP} {wn : Rcr} {tot : Int}
structure Rs (n : Nat) (i : InP) : Prop where
 rc : i.recv = 3
 fl : i.fl = n
 cn : i.cn = n
 ms : i.wn.most = 500
 st : i.stp = false
 at0 : i.R.at_ = 0
end
end
section
open Go.RowKit Go.Maps
section
variable {W w w' : World} {a : SetA} {R : List (Nat × Obj)} {n m k : Nat} {r : Bool} {a0 a1 a2 a3 : Addr}
theorem Mn.lay {p : SetP} (h : Mn W w a p R) (hb : Below w.heap.size w w') {c : Nat} {o : Obj} (hc : w.heap.size ≤ c) (ho : w'.heap[c]? = some o) : Mn W w' a p ((c,o) :: R):=by
 obtain ⟨H,s,h1,h2,h3,h4⟩:=h
 have T:=To.new (g:=(· = c)) h1 hb (fun k hk=>by rw [hk];exact hc)
 obtain ⟨S1,_⟩:=h2.laid T
 refine ⟨_,s,T.mem,S1,h3,fun x hx=>?_⟩
 rcases List.mem_cons.mp hx with rfl | hx
 ·refine ⟨ovr_at rfl ho,fun hf=>?_⟩
  obtain ⟨o2,ho2⟩:=h2.dom hf
  have:=h1.lt ho2
  omega
 ·exact ⟨T.kp _ _ (h4 x hx).1 (fun f=>f),(h4 x hx).2⟩
theorem mo (h : n ≤ 200) : (0 : Int) ≤ n ∧ (n : Int) ≤ maxOff:=⟨by omega,by unfold maxOff;omega⟩
end
end
end Go.Proofs.YthckbmcmdcemkaaGreatDoor.stm
