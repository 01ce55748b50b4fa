/- Texts of this claim, one behind the other: Mo Mt Mu Mq Nf Sh Si. -/
import Derived.Test.YthckbmcmdcemkaaGreatDoorBs25
import Derived.StillTailTactics
import Derived.Test.YthckbmcmdcemkaaGreatDoorBs24
import Derived.Test.YthckbmcmdcemkaaGreatDoorBs1
import Derived.Test.YthckbmcmdcemkaaGreatDoorBs8
import Derived.Deep.MidRow
set_option maxRecDepth 100000
set_option maxHeartbeats 16000000
set_option linter.unusedSimpArgs false
set_option linter.unusedVariables false
namespace Go.Proofs.YthckbmcmdcemkaaGreatDoor.stm
section
open Go.RowKit Go.Maps
theorem dn_eq (s : Int) : sst.sdF s = dn s:=by
 unfold sst.sdF dn
 congr 1 <;> (rw [Bool.eq_iff_iff];simp)
section
variable {W w w' : World} {H : Nat → Option Obj} {a : SetA} {s : SetS}
theorem done_any {xa : StA} {x : Strm} (hx : StIn H xa x) (hm : Mem W w H) : Calls Tryz.prog 143 #[ptr xa.xb] w fun e w'=>e = .returned (.bool x.done) ∧ w = w':=by
 have SD:=Lib.hid (fun v=>sst.sendDone_any v w)
 have RD:=Lib.hid (fun v=>sst.recvDone_any v w)
 have c1:=hx.c1 hm
 have c2:=hx.c2 hm
 have ho:=hx.o
 have hi:=hx.i
 have D1 : Hid (∀ v,sst.sdF v = dn v):=Lib.hid dn_eq
 cases hxo : x.out with
 | none=>
  rw [hxo] at ho
  rw [ho.none_of] at c1
  cases hxi : x.inp with
  | none=>
   rw [hxi] at hi
   rw [hi.none_of] at c2
   simp only [Option.map_none,optP] at c1 c2
   have hd : x.done = true:=by simp [Strm.done,hxo,hxi]
   rw [hd]
   clear hx hm ho hi hd hxo hxi
   unfold ptr
   go_enter Tryz.func143,Tryz.ntmps143
   go_wp2
   go_ret
   exact ⟨rfl,rfl⟩
  | some i=>
   rw [hxi] at hi
   obtain ⟨ia,h1,h2⟩:=hi.some_of
   rw [h1] at c2
   simp only [Option.map_none,Option.map_some,optP,ptr] at c1 c2
   have r2 : w.cell? ⟨ia.ib,2,none⟩ = some (.int .i64 i.recv):=h2.facts hm 2 rfl
   have hd : x.done = sst.sdF i.recv:=by simp [Strm.done,hxo,hxi,dn_eq]
   rw [hd]
   clear hx hm ho hi hd hxo hxi h1 h2
   unfold ptr
   generalize hb : sst.sdF i.recv = bb
   have RD2:=Lib.hid (RD.out i.recv)
   rw [hb] at RD2
   clear hb
   go_enter Tryz.func143,Tryz.ntmps143
   go_wp2_with (go_at_call 216;refine RD2.out.mono ?_;rintro e wv ⟨rfl,rfl⟩)
   go_ret
   exact ⟨rfl,rfl⟩
 | some o=>
  rw [hxo] at ho
  obtain ⟨oa,p1,p2⟩:=ho.some_of
  rw [p1] at c1
  have s2 : w.cell? ⟨oa.ob,2,none⟩ = some (.int .i64 o.send):=p2.facts hm 2 rfl
  have SD2:=Lib.hid (SD.out o.send)
  generalize hb : sst.sdF o.send = bb at SD2
  have hbb : dn o.send = bb:=by rw [← dn_eq,hb]
  clear hb
  cases hxi : x.inp with
  | none=>
   rw [hxi] at hi
   rw [hi.none_of] at c2
   simp only [Option.map_none,Option.map_some,optP,ptr] at c1 c2
   have hd : x.done = bb:=by simp [Strm.done,hxo,hxi,hbb]
   rw [hd]
   clear hx hm ho hi hd hxo hxi p1 p2 hbb
   unfold ptr
   cases bb
   ·go_enter Tryz.func143,Tryz.ntmps143
    go_wp2_with (go_at_call 215;refine SD2.out.mono ?_;rintro e wv ⟨rfl,rfl⟩)
    go_ret
    exact ⟨rfl,rfl⟩
   ·go_enter Tryz.func143,Tryz.ntmps143
    go_wp2_with (go_at_call 215;refine SD2.out.mono ?_;rintro e wv ⟨rfl,rfl⟩)
    go_ret
    exact ⟨rfl,rfl⟩
  | some i=>
   rw [hxi] at hi
   obtain ⟨ia,h1,h2⟩:=hi.some_of
   rw [h1] at c2
   simp only [Option.map_some,optP,ptr] at c1 c2
   have r2 : w.cell? ⟨ia.ib,2,none⟩ = some (.int .i64 i.recv):=h2.facts hm 2 rfl
   have RD2:=Lib.hid (RD.out i.recv)
   generalize hb : sst.sdF i.recv = cc at RD2
   have hcc : dn i.recv = cc:=by rw [← dn_eq,hb]
   have hd : x.done = (bb && cc):=by simp [Strm.done,hxo,hxi,hbb,hcc]
   rw [hd]
   clear hx hm ho hi hd hxo hxi p1 p2 hbb h1 h2 hb hcc
   unfold ptr
   cases bb
   ·go_enter Tryz.func143,Tryz.ntmps143
    go_wp2_with (first | (go_at_call 215;refine SD2.out.mono ?_;rintro e wv ⟨rfl,rfl⟩) | (go_at_call 216;refine RD2.out.mono ?_;rintro e wv ⟨rfl,rfl⟩))
    go_ret
    exact ⟨by simp,rfl⟩
   ·go_enter Tryz.func143,Tryz.ntmps143
    go_wp2_with (first | (go_at_call 215;refine SD2.out.mono ?_;rintro e wv ⟨rfl,rfl⟩) | (go_at_call 216;refine RD2.out.mono ?_;rintro e wv ⟨rfl,rfl⟩))
    go_ret
    exact ⟨by simp,rfl⟩
theorem ents_filter {l1 l2 : List (StA × Strm)} {xa : StA} {x : Strm} (hu : (l1 ++ (xa,x) :: l2).Pairwise fun e f=>e.2.id < f.2.id) : (ents (l1 ++ (xa,x) :: l2)).filter (fun p=>p.1 != x.id) = ents (l1 ++ l2):=by
 obtain ⟨d1,d2,d3⟩:=List.pairwise_append.1 hu
 obtain ⟨d4,d5⟩:=List.pairwise_cons.1 d2
 have f1 : (ents l1).filter (fun p=>p.1 != x.id) = ents l1:=List.filter_eq_self.2 fun p hp=>by
  obtain ⟨e,he,rfl⟩:=ents_mem.1 hp
  have:=d3 e he (xa,x) (by simp)
  simp only at this
  simp;omega
 have f2 : (ents l2).filter (fun p=>p.1 != x.id) = ents l2:=List.filter_eq_self.2 fun p hp=>by
  obtain ⟨e,he,rfl⟩:=ents_mem.1 hp
  have:=d4 e he
  simp only at this
  simp;omega
 have e1 : ents (l1 ++ (xa,x) :: l2) = ents l1 ++ (x.id,xa.xb) :: ents l2:=by simp [ents]
 have e2 : ents (l1 ++ l2) = ents l1 ++ ents l2:=by simp [ents]
 rw [e1,e2,List.filter_append,List.filter_cons,f1,f2]
 simp
theorem SetIn.del {l1 l2 : List (StA × Strm)} {xa : StA} {x : Strm} {nn : Nat} (hs : SetIn H a s) (hm : Mem W w H) (hl : s.ss = l1 ++ (xa,x) :: l2) (hM : MapE w' a.M nn ((ents s.ss).filter fun p=>p.1 != x.id)) (hg : w.grownBy w' (some a.M)) :
  ∃ H',To W w' H H' (s.foot a) (SetS.foot { s with ss:=l1 ++ l2 } a) ∧ SetIn H' a { s with ss:=l1 ++ l2 } ∧ StIn H' xa x:=by
 obtain ⟨mo,m1,m2,m3⟩:=hs.mp
 have hli:=hs.li
 have sub : ∀ e,e ∈ l1 ++ l2 → e ∈ s.ss:=fun e he=>by rw [hl];rcases List.mem_append.1 he with h | h <;> simp [h]
 have hT:=To.ovr (f:=fun k=>k = a.M) (g:=fun k=>k = a.M) hm (Chg.grown hg rfl) (fun k hk=>by subst hk;exact (hm.far _ _ m1).2) (fun k hk=>.inl hk)
 have hsl : List.Sublist (l1 ++ l2) (l1 ++ (xa,x) :: l2):=List.Sublist.append (List.Sublist.refl _) (List.sublist_cons_self _ _)
 have keepOld : ∀ e ∈ s.ss,StIn (ovr H (fun k=>k = a.M) (fun k=>k = a.M) w') e.1 e.2:=fun e he=>(hli.all e he).keep (fun k o hk ho=>hT.kp k o ho (fun c=>hs.dj k (.inr (.inl c)) ⟨e,he,hk⟩))
 have hdj:=hli.dj
 have hup:=hli.up
 rw [hl] at hdj hup hM
 rw [ents_filter hup] at hM
 obtain ⟨mo',hmo'⟩ : ∃ mo',w'.heap[a.M]? = some mo':=⟨_,Array.getElem?_eq_getElem hM.lt⟩
 obtain ⟨n1,n2,n3,_⟩:=hs.ne
 have L : LiIn (ovr H (fun k=>k = a.M) (fun k=>k = a.M) w') (l1 ++ l2):=⟨fun e he=>keepOld e (sub e he),hdj.sublist hsl,hup.sublist hsl,fun e he=>hli.bd e (sub e he)⟩
 refine ⟨_,hT.wide (fun k hk=>.inl (.inr (.inl hk))) (fun k hk=>.inr (.inl ?_)),⟨hT.kp _ _ hs.sb n1,⟨mo',ovr_at rfl hmo',mapE_noC hM hmo',fun w2 h2=>?_⟩,hT.kp _ _ hs.cb n2,hT.kp _ _ hs.wb n3,hs.cr,hs.wn,L,fun k hk ⟨e,he,hf⟩=>hs.dj k hk ⟨e,sub e he,hf⟩⟩,keepOld (xa,x) (by rw [hl];simp)⟩
 ·rcases hk with hk | ⟨e,he,hf⟩
  ·exact .inl hk
  ·exact .inr ⟨e,sub e he,hf⟩
 ·exact mapE_tight (hM.of_block (h2.trans hmo'.symm)) L.upE
def grp (s : SetS) (k : Nat) : Grp:=if k = 0 then s.g0 else s.g1
def setG (s : SetS) (k : Nat) (g : Grp) : SetS:=if k = 0 then { s with g0:=g } else { s with g1:=g }
def stlG (g : Grp) : Grp:={ g with fg:=g.fg + 1,md:=true }
def goneS (s : SetS) (id : Nat) (l : List (StA × Strm)) : SetS:=if isLoc s.cl id then { s with ss:=l } else setG { s with ss:=l } (kindN id) (stlG (grp s (kindN id)))
end
end
section
open Go.RowKit Go.Maps
def Pms.cs (p : Pms) : Array Value:=#[.int .i64 p.data,.int .i64 p.sdata,.int .i64 p.bidi,.int .i64 p.uni,.int .i64 p.ad,.int .i64 p.idle]
def pmOk (p : Pms) : Bool:=inR p.data 1073741824 && (inR p.sdata 1073741824 && (inR p.bidi 64 && inR p.uni 64))
theorem inRange_any (p : Pms) (w : World) : Calls Tryz.prog 55 #[.agg p.cs] w fun e w'=>e = .returned (.bool (pmOk p)) ∧ Below w.heap.size w w':=by
 have R:=Lib.hid (fun (n m : Int) (wx : World)=>inR_any n m wx)
 have X:=Lib.hid (box1 w (.cells p.cs 24))
 obtain ⟨d,sd,b,u,ad,id⟩:=p
 unfold pmOk
 simp only [Pms.cs] at X ⊢
 have R1:=Lib.hid (R.out d 1073741824)
 have R2:=Lib.hid (R.out sd 1073741824)
 have R3:=Lib.hid (R.out b 64)
 have R4:=Lib.hid (R.out u 64)
 clear R
 generalize inR d 1073741824 = r1 at *
 generalize inR sd 1073741824 = r2 at *
 generalize inR b 64 = r3 at *
 generalize inR u 64 = r4 at *
 cases r1
 ·go_enter Tryz.func55,Tryz.ntmps55
  go_wp2_with (go_at_call 118;refine (R1.out _).mono ?_;rintro e wv ⟨rfl,rfl⟩)
  go_ret
  exact ⟨by simp,X.out.2.1⟩
 ·have T1:=Lib.hid True.intro
  cases r2
  ·go_enter Tryz.func55,Tryz.ntmps55
   go_wp2_with (first | (go_at_call 118;have T0:=T1.out;clear T0 T1;refine (R1.out _).mono ?_;rintro e wv ⟨rfl,rfl⟩) | (go_at_call 118;refine (R2.out _).mono ?_;rintro e wv ⟨rfl,rfl⟩))
   go_ret
   exact ⟨by simp,X.out.2.1⟩
  ·have T2:=Lib.hid True.intro
   cases r3
   ·go_enter Tryz.func55,Tryz.ntmps55
    go_wp2_with (first | (go_at_call 118;have T0:=T1.out;clear T0 T1;refine (R1.out _).mono ?_;rintro e wv ⟨rfl,rfl⟩) | (go_at_call 118;have T0:=T2.out;clear T0 T2;refine (R2.out _).mono ?_;rintro e wv ⟨rfl,rfl⟩) | (go_at_call 118;refine (R3.out _).mono ?_;rintro e wv ⟨rfl,rfl⟩))
    go_ret
    exact ⟨by simp,X.out.2.1⟩
   ·have T3:=Lib.hid True.intro
    go_enter Tryz.func55,Tryz.ntmps55
    go_wp2_with (first | (go_at_call 118;have T0:=T1.out;clear T0 T1;refine (R1.out _).mono ?_;rintro e wv ⟨rfl,rfl⟩) | (go_at_call 118;have T0:=T2.out;clear T0 T2;refine (R2.out _).mono ?_;rintro e wv ⟨rfl,rfl⟩) | (go_at_call 118;have T0:=T3.out;clear T0 T3;refine (R3.out _).mono ?_;rintro e wv ⟨rfl,rfl⟩) | (go_at_call 118;refine (R4.out _).mono ?_;rintro e wv ⟨rfl,rfl⟩))
    go_ret
    exact ⟨by simp,X.out.2.1⟩
def newSet (cl : Bool) (loc peer : Pms) : SetS:=⟨cl,loc,peer,[],⟨0,0,peer.bidi,loc.bidi,0,false,false,-1⟩,⟨0,0,peer.uni,loc.uni,0,false,false,-1⟩,⟨peer.data,0,0⟩,⟨loc.data,loc.data,0,0⟩,0,false,-1⟩
theorem newSet_in {W w w' : World} {H : Nat → Option Obj} {a : SetA} {cl : Bool} {loc peer : Pms} (hm : Mem W w H) (hb : Below w.heap.size w w') (hok : pmOk loc = true ∧ pmOk peer = true) (l1 : w.heap.size ≤ a.sb) (l2 : w.heap.size ≤ a.M) (l3 : w.heap.size ≤ a.cb) (l4 : w.heap.size ≤ a.wb)
  (h1 : w'.heap[a.sb]? = some (.cells ((newSet cl loc peer).cells a) 115 (0,0))) (h2 : w'.heap[a.M]? = some (.map #[] 0)) (h3 : w'.heap[a.cb]? = some (.cells (Snd.cells ⟨peer.data,0,0⟩) 161 (0,0))) (h4 : w'.heap[a.wb]? = some (.cells (Rcr.cells ⟨loc.data,loc.data,0,0⟩) 200 (0,0))) :
  ∃ H',To W w' H H' (fun _=>False) ((newSet cl loc peer).foot a) ∧ SetIn H' a (newSet cl loc peer):=by
 have T:=To.new (g:=a.own) hm hb (fun k hk=>by rcases hk with rfl | rfl | rfl | rfl <;> assumption)
 have e : ∀ w2 : World,w2.heap[a.M]? = some (.map #[] 0) → MapE w2 a.M 0 []:=fun w2 h=>by
  have:=(frm.MapAt.made w2 3)
  have h5 : frm.MapAt (w2.alloc (.map #[] 0)) 3 w2.heap.size 0 (.map []):=this
  obtain ⟨es,clock,q1,q2,q3,q4⟩:=h5
  rw [heap_alloc_new] at q1
  cases q1
  exact ⟨_,⟨_,_,h,q2,q3,rfl⟩,by rw [← q4];exact holdsE_nil⟩
 have b1 : 0 ≤ peer.data ∧ peer.data ≤ 1073741824:=by have:=hok.2;simp [pmOk,inR] at this;omega
 have b2 : 0 ≤ loc.data ∧ loc.data ≤ 1073741824:=by have:=hok.1;simp [pmOk,inR] at this;omega
 refine ⟨_,T.wide (fun k hk=>hk.elim) (fun k hk=>?_),⟨ovr_at (.inl rfl) h1,⟨_,ovr_at (.inr (.inl rfl)) h2,rfl,fun w2 h=>e w2 h⟩,ovr_at (.inr (.inr (.inl rfl))) h3,ovr_at (.inr (.inr (.inr rfl))) h4,⟨Int.le_refl _,b1.1,by unfold maxOff;exact Int.le_trans b1.2 (by decide)⟩,⟨Int.le_refl _,Int.le_refl _,b2.1,by unfold maxOff;exact Int.le_trans b2.2 (by decide),b2.1,b2.2⟩,⟨(fun e he=>by cases he),List.Pairwise.nil,List.Pairwise.nil,(fun e he=>by cases he)⟩,fun k hk ⟨e,he,_⟩=>by cases he⟩⟩
 rcases hk with hk | ⟨e,he,_⟩
 ·exact .inl hk
 ·cases he
end
section
open Go.RowKit Go.Maps
theorem btr2 {a b c : World} (h : Below a.heap.size a b) (k : Below b.heap.size b c) : Below a.heap.size a c:=h.trans (k.mono h.size)
theorem set8 {w wx : World} {b : Nat} {cs : Array Value} {T : TypeId} (h : w.heap[b]? = some (.cells cs T (0,0))) {i0 i1 i2 i3 i4 i5 i6 i7 : Nat} {v0 v1 v2 v3 v4 v5 v6 v7 : Value}
  (e : ((((((((w.setCell ⟨b,i0,none⟩ v0).setCell ⟨b,i1,none⟩ v1).setCell ⟨b,i2,none⟩ v2).setCell ⟨b,i3,none⟩ v3).setCell ⟨b,i4,none⟩ v4).setCell ⟨b,i5,none⟩ v5).setCell ⟨b,i6,none⟩ v6).setCell ⟨b,i7,none⟩ v7) = wx) : wx.heap[b]? = some (.cells ((((((((cs.setIfInBounds i0 v0).setIfInBounds i1 v1).setIfInBounds i2 v2).setIfInBounds i3 v3).setIfInBounds i4 v4).setIfInBounds i5 v5).setIfInBounds i6 v6).setIfInBounds i7 v7) T (0,0)) ∧ w.grownBy wx (some b):=by
 subst e
 exact ⟨(heap_set v7 (heap_set v6 (heap_set v5 (heap_set v4 (heap_set v3 (heap_set v2 (heap_set v1 (heap_set v0 h)))))))),(grown_set (grown_set (grown_set (grown_set (grown_set (grown_set (grown_set (grown_set (grown_refl w (some b)) v0) v1) v2) v3) v4) v5) v6) v7)⟩
theorem New_ok {W w : World} {H : Nat → Option Obj} (hm : Mem W w H) (cl : Bool) (loc peer : Pms) (h1 : pmOk loc = true) (h2 : pmOk peer = true) (h3 : loc.sdata ≤ 8192) :
  Calls Tryz.prog 17 #[.bool cl,.agg loc.cs,.agg peer.cs] w fun e w'=>∃ a : SetA,e = .returned (.tuple #[ptr a.sb,.int .i64 0]) ∧ ∃ H',To W w' H H' (fun _=>False) ((newSet cl loc peer).foot a) ∧ SetIn H' a (newSet cl loc peer):=by
 have FIN:=Lib.hid (fun (w' : World) (a : SetA) (hb : Below w.heap.size w w') (l1 : w.heap.size ≤ a.sb) (l2 : w.heap.size ≤ a.M) (l3 : w.heap.size ≤ a.cb) (l4 : w.heap.size ≤ a.wb) q1 q2 q3 q4=>newSet_in (cl:=cl) (loc:=loc) (peer:=peer) hm hb ⟨h1,h2⟩ l1 l2 l3 l4 q1 q2 q3 q4)
 clear hm
 have IR:=Lib.hid (fun (p : Pms) (wx : World)=>inRange_any p wx)
 have IL:=Lib.hid (IR.out loc)
 have IP:=Lib.hid (IR.out peer)
 rw [h1] at IL
 rw [h2] at IP
 have bld : 0 ≤ loc.data ∧ loc.data ≤ 1073741824:=by have:=h1;simp [pmOk,inR] at this;omega
 have bpd : 0 ≤ peer.data ∧ peer.data ≤ 1073741824:=by have:=h2;simp [pmOk,inR] at this;omega
 have T1:=Lib.hid True.intro
 have d1 : (8192 < loc.sdata) = False:=eq_false (by omega)
 clear IR
 obtain ⟨ld,ls,lb,lu,la,li⟩:=loc
 obtain ⟨pd,ps,pb,pu,pa,pi⟩:=peer
 have X:=Lib.hid (box2 w (.cells #[.int .i64 ld,.int .i64 ls,.int .i64 lb,.int .i64 lu,.int .i64 la,.int .i64 li] 24) (.cells #[.int .i64 pd,.int .i64 ps,.int .i64 pb,.int .i64 pu,.int .i64 pa,.int .i64 pi] 24))
 simp only [Pms.cs] at *
 go_enter Tryz.func17,Tryz.ntmps17
 go_upto_region 1 with (fail)
 obtain ⟨X1,X2,X3,X4⟩:=X.out
 generalize hb0 : w.heap.size + 1 = b1 at *
 obtain ⟨b0,hbb⟩ : ∃ b0,w.heap.size = b0:=⟨_,rfl⟩
 rw [hbb] at X1 ⊢
 have XB:=Lib.hid X3
 have LB : Hid (w.heap.size ≤ b0 ∧ w.heap.size ≤ b1):=Lib.hid (by omega)
 clear X hb0 hbb X3
 generalize World.alloc _ _ = W0 at *
 have OLD : Hid (∀ wx : World,Below W0.heap.size W0 wx → wx.cell? ⟨b0,0,none⟩ = some (.int .i64 ld) ∧ wx.cell? ⟨b0,1,none⟩ = some (.int .i64 ls) ∧ wx.cell? ⟨b0,2,none⟩ = some (.int .i64 lb) ∧ wx.cell? ⟨b0,3,none⟩ = some (.int .i64 lu) ∧ wx.cell? ⟨b0,4,none⟩ = some (.int .i64 la) ∧ wx.cell? ⟨b0,5,none⟩ = some (.int .i64 li) ∧ wx.cell? ⟨b1,0,none⟩ = some (.int .i64 pd) ∧ wx.cell? ⟨b1,1,none⟩ = some (.int .i64 ps) ∧ wx.cell? ⟨b1,2,none⟩ = some (.int .i64 pb) ∧ wx.cell? ⟨b1,3,none⟩ = some (.int .i64 pu) ∧ wx.cell? ⟨b1,4,none⟩ = some (.int .i64 pa) ∧ wx.cell? ⟨b1,5,none⟩ = some (.int .i64 pi)):=Lib.hid (fun wx hb=>by
  have e0:=heap_below hb X1
  have e1:=heap_below hb X2
  exact ⟨at_whole' e0 rfl,at_whole' e0 rfl,at_whole' e0 rfl,at_whole' e0 rfl,at_whole' e0 rfl,at_whole' e0 rfl,at_whole' e1 rfl,at_whole' e1 rfl,at_whole' e1 rfl,at_whole' e1 rfl,at_whole' e1 rfl,at_whole' e1 rfl⟩)
 clear X1 X2 X4
 obtain ⟨q0,q1,q2,q3,q4,q5,q6,q7,q8,q9,q10,q11⟩:=OLD.out W0 bz0
 go_upto_region 3 with (first
  | (go_at_call 55;have T0:=T1.out;clear T0 T1;refine (IL.out _).mono ?_;rintro e w1 ⟨rfl,hb⟩;clear q0 q1 q2 q3 q4 q5 q6 q7 q8 q9 q10 q11;obtain ⟨q0,q1,q2,q3,q4,q5,q6,q7,q8,q9,q10,q11⟩:=OLD.out _ hb;have B1:=Lib.hid hb;clear hb)
  | (go_at_call 55;refine (IP.out _).mono ?_;rintro e w2 ⟨rfl,hb⟩;clear q0 q1 q2 q3 q4 q5 q6 q7 q8 q9 q10 q11;have B2:=Lib.hid (btr2 B1.out hb);clear hb;obtain ⟨q0,q1,q2,q3,q4,q5,q6,q7,q8,q9,q10,q11⟩:=OLD.out _ B2.out))
 have hmm:=@run_makeMap Tryz.prog
 go_upto_region 4 with (fail)
 generalize hw3 : (w2.alloc (.map #[] 0)).alloc _ = w3
 have Y : ∀ O,(w2.alloc (.map #[] 0)).alloc O = w3 → w3.heap[w2.heap.size]? = some (.map #[] 0) ∧ w3.heap[w2.heap.size + 1]? = some O ∧ Below w2.heap.size w2 w3:=fun O h=>by have:=box2 w2 (.map #[] 0) O;rw [h] at this;exact ⟨this.1,this.2.1,this.2.2.1⟩
 obtain ⟨Y1,Y2,Y3⟩:=Y _ hw3
 clear Y hw3 hmm
 obtain ⟨M,hM⟩ : ∃ M,w2.heap.size = M:=⟨_,rfl⟩
 obtain ⟨sb,hsb⟩ : ∃ sb,M + 1 = sb:=⟨_,rfl⟩
 rw [hM,hsb] at Y2
 rw [hM] at Y1
 simp only [hM,hsb]
 have LS : Hid (w.heap.size ≤ sb ∧ w.heap.size ≤ M ∧ M ≠ sb):=Lib.hid (by have:=B2.out.size;have:=XB.out.size;omega)
 have B3:=Lib.hid (btr2 B2.out Y3)
 have LS3 : Hid (W0.heap.size ≤ sb):=Lib.hid (by have:=B2.out.size;omega)
 have D3:=Lib.hid (And.intro Y1 Y2)
 clear q0 q1 q2 q3 q4 q5 q6 q7 q8 q9 q10 q11
 obtain ⟨q0,q1,q2,q3,q4,q5,q6,q7,q8,q9,q10,q11⟩:=OLD.out _ B3.out
 have z3:=frozen_whole D3.out.2
 have e14:=at_whole' (i:=14) D3.out.2 rfl
 have e15:=at_whole' (i:=15) D3.out.2 rfl
 have e16:=at_whole' (i:=16) D3.out.2 rfl
 have e17:=at_whole' (i:=17) D3.out.2 rfl
 have e18:=at_whole' (i:=18) D3.out.2 rfl
 have e19:=at_whole' (i:=19) D3.out.2 rfl
 have e20:=at_whole' (i:=20) D3.out.2 rfl
 have e21:=at_whole' (i:=21) D3.out.2 rfl
 clear Y1 Y2 Y3 hM hsb
 go_wp2_with fail
 go_region
 generalize hwx : World.setCell _ _ _ = wx
 obtain ⟨g8,gg⟩:=set8 D3.out.2 hwx
 clear hwx e14 e15 e16 e17 e18 e19 e20 e21 z3 q0 q1 q2 q3 q4 q5 q6 q7 q8 q9 q10 q11
 have gb:=grown_drew gg
 have D4 : Hid (wx.drew.heap[M]? = some (.map #[] 0) ∧ wx.drew.heap[sb]? = some (.cells (#[.bool cl,.int .i64 ld,.int .i64 ls,.int .i64 lb,.int .i64 lu,.int .i64 la,.int .i64 li,.int .i64 pd,.int .i64 ps,.int .i64 pb,.int .i64 pu,.int .i64 pa,.int .i64 pi,.map (some M),.int .i64 0,.int .i64 0,.int .i64 pb,.int .i64 lb,.int .i64 0,.bool false,.bool false,.int .i64 (-1),.int .i64 0,.int .i64 0,.int .i64 0,.int .i64 0,.int .i64 0,.bool false,.bool false,.int .i64 0,.pointer none,.pointer none,.int .i64 0,.bool false,.int .i64 (-1)] : Array Value) 115 (0,0))):=Lib.hid ⟨heap_grown gb D3.out.1 LS.out.2.2,by
  refine Eq.trans (show wx.drew.heap[sb]? = wx.heap[sb]? from rfl) ?_
  rw [g8]
  simp only [List.setIfInBounds_toArray]
  rfl⟩
 have B4:=Lib.hid (below_grown B3.out gb LS3.out)
 clear g8 gg gb D3 B3
 generalize wx.drew = w4 at D4 B4 ⊢
 obtain ⟨q0,q1,q2,q3,q4,q5,q6,q7,q8,q9,q10,q11⟩:=OLD.out _ B4.out
 have z3:=frozen_whole D4.out.2
 have e22:=at_whole' (i:=22) D4.out.2 rfl
 have e23:=at_whole' (i:=23) D4.out.2 rfl
 have e24:=at_whole' (i:=24) D4.out.2 rfl
 have e25:=at_whole' (i:=25) D4.out.2 rfl
 have e26:=at_whole' (i:=26) D4.out.2 rfl
 have e27:=at_whole' (i:=27) D4.out.2 rfl
 have e28:=at_whole' (i:=28) D4.out.2 rfl
 have e29:=at_whole' (i:=29) D4.out.2 rfl
 go_wp2_with fail
 go_region
 generalize hwx : World.setCell _ _ _ = wy
 obtain ⟨g8,gg⟩:=set8 D4.out.2 hwx
 clear hwx e22 e23 e24 e25 e26 e27 e28 e29 z3 q0 q1 q2 q3 q4 q5 q6 q7 q8 q9 q10 q11
 have gb:=grown_drew gg
 have D5 : Hid (wy.drew.heap[M]? = some (.map #[] 0) ∧ wy.drew.heap[sb]? = some (.cells (#[.bool cl,.int .i64 ld,.int .i64 ls,.int .i64 lb,.int .i64 lu,.int .i64 la,.int .i64 li,.int .i64 pd,.int .i64 ps,.int .i64 pb,.int .i64 pu,.int .i64 pa,.int .i64 pi,.map (some M),.int .i64 0,.int .i64 0,.int .i64 pb,.int .i64 lb,.int .i64 0,.bool false,.bool false,.int .i64 (-1),.int .i64 0,.int .i64 0,.int .i64 pu,.int .i64 lu,.int .i64 0,.bool false,.bool false,.int .i64 (-1),.pointer none,.pointer none,.int .i64 0,.bool false,.int .i64 (-1)] : Array Value) 115 (0,0))):=Lib.hid ⟨heap_grown gb D4.out.1 LS.out.2.2,by
  refine Eq.trans (show wy.drew.heap[sb]? = wy.heap[sb]? from rfl) ?_
  rw [g8]
  simp only [List.setIfInBounds_toArray]
  rfl⟩
 have B5:=Lib.hid (below_grown B4.out gb LS3.out)
 clear g8 gg gb D4 B4
 generalize wy.drew = w5 at D5 B5 ⊢
 obtain ⟨q0,q1,q2,q3,q4,q5,q6,q7,q8,q9,q10,q11⟩:=OLD.out _ B5.out
 have NC:=Lib.hid (fun (wx : World)=>(newS_any pd bpd.1 (by omega) wx).mono (fun e w' hh=>(show ∃ bb,e = .returned (.tuple #[.pointer (some ⟨bb,0,none⟩),.int .i64 0]) ∧ Below wx.heap.size wx w' ∧ bb = wx.heap.size ∧ w'.heap[bb]? = some (.cells (Snd.cells ⟨pd,0,0⟩) 161 (0,0)) from ⟨_,hh.1,by rw [hh.2];exact bz0.alloc (Nat.le_refl _) _,rfl,by rw [hh.2];exact heap_alloc_new _ _⟩)))
 have NW:=Lib.hid (fun (wx : World)=>(newR_any ld bld.1 bld.2 wx).mono (fun e w' hh=>(show ∃ bb,e = .returned (.tuple #[.pointer (some ⟨bb,0,none⟩),.int .i64 0]) ∧ Below wx.heap.size wx w' ∧ bb = wx.heap.size ∧ w'.heap[bb]? = some (.cells (Rcr.cells ⟨ld,ld,0,0⟩) 200 (0,0)) from ⟨_,hh.1,by rw [hh.2];exact bz0.alloc (Nat.le_refl _) _,rfl,by rw [hh.2];exact heap_alloc_new _ _⟩)))
 have c30 : w5.cell? ⟨sb,30,none⟩ = some (.pointer none):=at_whole' D5.out.2 rfl
 have z30:=frozen_whole D5.out.2 30
 go_upto_region 7 with (go_at_call 29;refine (NC.out _).mono ?_;rintro e w6 ⟨cb,rfl,hb2,hbb,hB⟩;have N2:=Lib.hid (And.intro hb2 (And.intro hbb hB));clear hb2 hbb hB;have c30 : w6.cell? ⟨sb,30,none⟩ = some (.pointer none):=at_whole' (heap_below N2.out.1 D5.out.2) rfl;have z30:=frozen_whole (heap_below N2.out.1 D5.out.2) 30;clear q0 q1 q2 q3 q4 q5 q6 q7 q8 q9 q10 q11)
 obtain ⟨r1,r2,r3⟩:=call_set N2.out.1 D5.out.2 30 (.pointer (some ⟨cb,0,none⟩))
 have D7 : Hid ((w6.setCell ⟨sb,30,none⟩ (.pointer (some ⟨cb,0,none⟩))).heap[M]? = some (.map #[] 0) ∧ (w6.setCell ⟨sb,30,none⟩ (.pointer (some ⟨cb,0,none⟩))).heap[sb]? = some (.cells (#[.bool cl,.int .i64 ld,.int .i64 ls,.int .i64 lb,.int .i64 lu,.int .i64 la,.int .i64 li,.int .i64 pd,.int .i64 ps,.int .i64 pb,.int .i64 pu,.int .i64 pa,.int .i64 pi,.map (some M),.int .i64 0,.int .i64 0,.int .i64 pb,.int .i64 lb,.int .i64 0,.bool false,.bool false,.int .i64 (-1),.int .i64 0,.int .i64 0,.int .i64 pu,.int .i64 lu,.int .i64 0,.bool false,.bool false,.int .i64 (-1),.pointer (some ⟨cb,0,none⟩),.pointer none,.int .i64 0,.bool false,.int .i64 (-1)] : Array Value) 115 (0,0))):=Lib.hid ⟨heap_grown r2 D5.out.1 LS.out.2.2,by rw [r1];simp only [List.setIfInBounds_toArray];rfl⟩
 have C7:=Lib.hid (r3 cb _ (Nat.le_of_eq N2.out.2.1.symm) N2.out.2.2)
 have lcb : Hid (w.heap.size ≤ cb ∧ cb ≠ sb):=Lib.hid (by
  have e1 : cb = w5.heap.size:=N2.out.2.1
  have:=B5.out.size
  have:=XB.out.size
  have:=heap_lt D5.out.2
  omega)
 have B7:=Lib.hid (below_grown B5.out r2 LS3.out)
 clear r1 r2 r3 N2 c30 z30 D5 B5
 generalize World.setCell w6 _ _ = w7 at D7 C7 B7 ⊢
 obtain ⟨q0,q1,q2,q3,q4,q5,q6,q7,q8,q9,q10,q11⟩:=OLD.out _ B7.out
 have c31 : w7.cell? ⟨sb,31,none⟩ = some (.pointer none):=at_whole' D7.out.2 rfl
 have z31:=frozen_whole D7.out.2 31
 go_upto_region 8 with (go_at_call 56;refine (NW.out _).mono ?_;rintro e w8 ⟨wb,rfl,hb2,hbb,hB⟩;have N2:=Lib.hid (And.intro hb2 (And.intro hbb hB));clear hb2 hbb hB;have c31 : w8.cell? ⟨sb,31,none⟩ = some (.pointer none):=at_whole' (heap_below N2.out.1 D7.out.2) rfl;have z31:=frozen_whole (heap_below N2.out.1 D7.out.2) 31;clear q0 q1 q2 q3 q4 q5 q6 q7 q8 q9 q10 q11)
 obtain ⟨r1,r2,r3⟩:=call_set N2.out.1 D7.out.2 31 (.pointer (some ⟨wb,0,none⟩))
 have D9 : Hid ((w8.setCell ⟨sb,31,none⟩ (.pointer (some ⟨wb,0,none⟩))).heap[M]? = some (.map #[] 0) ∧ (w8.setCell ⟨sb,31,none⟩ (.pointer (some ⟨wb,0,none⟩))).heap[sb]? = some (.cells (#[.bool cl,.int .i64 ld,.int .i64 ls,.int .i64 lb,.int .i64 lu,.int .i64 la,.int .i64 li,.int .i64 pd,.int .i64 ps,.int .i64 pb,.int .i64 pu,.int .i64 pa,.int .i64 pi,.map (some M),.int .i64 0,.int .i64 0,.int .i64 pb,.int .i64 lb,.int .i64 0,.bool false,.bool false,.int .i64 (-1),.int .i64 0,.int .i64 0,.int .i64 pu,.int .i64 lu,.int .i64 0,.bool false,.bool false,.int .i64 (-1),.pointer (some ⟨cb,0,none⟩),.pointer (some ⟨wb,0,none⟩),.int .i64 0,.bool false,.int .i64 (-1)] : Array Value) 115 (0,0))):=Lib.hid ⟨heap_grown r2 D7.out.1 LS.out.2.2,by rw [r1];simp only [List.setIfInBounds_toArray];rfl⟩
 have C9:=Lib.hid (heap_grown r2 C7.out lcb.out.2)
 have E9:=Lib.hid (r3 wb _ (Nat.le_of_eq N2.out.2.1.symm) N2.out.2.2)
 have lwb : Hid (w.heap.size ≤ wb):=Lib.hid (by
  have e1 : wb = w7.heap.size:=N2.out.2.1
  have:=B7.out.size
  have:=XB.out.size
  omega)
 have B9:=Lib.hid (below_grown B7.out r2 LS3.out)
 clear r1 r2 r3 N2 c31 z31 D7 B7 C7
 generalize World.setCell w8 _ _ = w9 at D9 C9 E9 B9 ⊢
 have R9:=Lib.hid (FIN.out w9 ⟨sb,M,cb,wb⟩ (btr2 XB.out B9.out) LS.out.1 LS.out.2.1 lcb.out.1 lwb.out D9.out.2 D9.out.1 C9.out E9.out)
 go_wp2
 go_returns
 exact ⟨⟨sb,M,cb,wb⟩,rfl,R9.out⟩
end
section
open Go.RowKit Go.Maps
section
variable {W w w' : World} {H : Nat → Option Obj} {a : SetA} {s : SetS}
theorem kindN_lt (id : Nat) : kindN id = 0 ∨ kindN id = 1:=by unfold kindN;omega
def Grp.Ok (g : Grp) : Prop:=0 ≤ g.opn ∧ g.opn ≤ 1000000000 ∧ 0 ≤ g.acc ∧ g.acc ≤ 1000000000 ∧ 0 ≤ g.gr ∧ g.gr ≤ 1000000000 ∧ 0 ≤ g.fg ∧ g.fg ≤ 1000000000
def stlS (s : SetS) (l1 l2 : List (StA × Strm)) (xa : StA) (x : Strm) : SetS:=if x.done then goneS s x.id (l1 ++ l2) else { s with ss:=l1 ++ (xa,x) :: l2 }
end
end
section
open Go.RowKit
open frm (bare FrV kinds zap putP)
structure Bat where
 fs : List Fr
 lf : Int
def szF (f : Fr) : Int:=((frm.encS f).size : Int)
def Bat.fits (b : Bat) (f : Fr) : Bool:=decide (szF f ≤ b.lf)
def Bat.add (b : Bat) (f : Fr) : Bat:=if b.fits f then ⟨b.fs ++ [f],b.lf - szF f⟩ else b
def pendD (d : Bool) (b : Bat) (f : Fr) : Bool:=d && !b.fits f
def pendB (d : Bool) (b : Bat) (f : Fr) : Bat:=if d then b.add f else b
def fMaxData (m : Int) : Fr:={ bare 16 with max:=m }
def fMaxSD (id m : Int) : Fr:={ bare 17 with str:=id,max:=m }
def fMaxStr (u : Bool) (m : Int) : Fr:={ bare 18 with uni:=u,max:=m }
def fReset (id c m : Int) : Fr:={ bare 4 with str:=id,code:=c,max:=m }
def fStop (id c : Int) : Fr:={ bare 5 with str:=id,code:=c }
def fDBl (m : Int) : Fr:={ bare 20 with max:=m }
def fSDBl (id m : Int) : Fr:={ bare 21 with str:=id,max:=m }
def fSBl (u : Bool) (m : Int) : Fr:={ bare 22 with uni:=u,max:=m }
def fStr (id off : Int) (d : ByteArray) (fin : Bool) : Fr:={ bare 8 with str:=id,off:=off,s:=d,fin:=fin }
theorem v_maxData {m : Int} (h : 0 ≤ m ∧ m ≤ 4611686018427387903) : FrV (fMaxData m):=
 ⟨by simp [fMaxData,bare],(fun e=>by cases e),fun k hk=>by
  have : k = .int 2:=by simpa [kinds,fMaxData,bare] using hk
  subst this;exact h,rfl⟩
theorem v_maxSD {id m : Int} (h : 0 ≤ id ∧ id ≤ 4611686018427387903) (h2 : 0 ≤ m ∧ m ≤ 4611686018427387903) : FrV (fMaxSD id m):=
 ⟨by simp [fMaxSD,bare],(fun e=>by cases e),fun k hk=>by
  have : k = .int 1 ∨ k = .int 2:=by simpa [kinds,fMaxSD,bare] using hk
  rcases this with rfl | rfl;exact h;exact h2,rfl⟩
theorem v_maxStr {u : Bool} {m : Int} (h : 0 ≤ m ∧ m ≤ 4611686018427387903) : FrV (fMaxStr u m):=
 ⟨by simp [fMaxStr,bare],(fun e=>by cases e),fun k hk=>by
  have : k = .uni ∨ k = .int 2:=by simpa [kinds,fMaxStr,bare] using hk
  rcases this with rfl | rfl;exact trivial;exact h,rfl⟩
theorem v_reset {id c m : Int} (h : 0 ≤ id ∧ id ≤ 4611686018427387903) (h2 : 0 ≤ c ∧ c ≤ 1073741823) (h3 : 0 ≤ m ∧ m ≤ 1099511627776) : FrV (fReset id c m):=
 ⟨by simp [fReset,bare],(fun e=>by cases e),fun k hk=>by
  have : k = .int 1 ∨ k = .int 4 ∨ k = .int 3:=by simpa [kinds,fReset,bare] using hk
  rcases this with rfl | rfl | rfl;exact h;exact h2;exact h3,rfl⟩
theorem v_stop {id c : Int} (h : 0 ≤ id ∧ id ≤ 4611686018427387903) (h2 : 0 ≤ c ∧ c ≤ 1073741823) : FrV (fStop id c):=
 ⟨by simp [fStop,bare],(fun e=>by cases e),fun k hk=>by
  have : k = .int 1 ∨ k = .int 4:=by simpa [kinds,fStop,bare] using hk
  rcases this with rfl | rfl;exact h;exact h2,rfl⟩
theorem v_dBl {m : Int} (h : 0 ≤ m ∧ m ≤ 4611686018427387903) : FrV (fDBl m):=
 ⟨by simp [fDBl,bare],(fun e=>by cases e),fun k hk=>by
  have : k = .int 2:=by simpa [kinds,fDBl,bare] using hk
  subst this;exact h,rfl⟩
theorem v_sdBl {id m : Int} (h : 0 ≤ id ∧ id ≤ 4611686018427387903) (h2 : 0 ≤ m ∧ m ≤ 4611686018427387903) : FrV (fSDBl id m):=
 ⟨by simp [fSDBl,bare],(fun e=>by cases e),fun k hk=>by
  have : k = .int 1 ∨ k = .int 2:=by simpa [kinds,fSDBl,bare] using hk
  rcases this with rfl | rfl;exact h;exact h2,rfl⟩
theorem v_sBl {u : Bool} {m : Int} (h : 0 ≤ m ∧ m ≤ 4611686018427387903) : FrV (fSBl u m):=
 ⟨by simp [fSBl,bare],(fun e=>by cases e),fun k hk=>by
  have : k = .uni ∨ k = .int 2:=by simpa [kinds,fSBl,bare] using hk
  rcases this with rfl | rfl;exact trivial;exact h,rfl⟩
theorem v_str {id off : Int} {d : ByteArray} {fin : Bool} (h : 0 ≤ id ∧ id ≤ 4611686018427387903) (h2 : 0 ≤ off) (h3 : off + (d.size : Int) ≤ 1099511627776) (h4 : d.size ≤ 1024) : FrV (fStr id off d fin):=
 ⟨by simp [fStr,bare],fun _=>rfl,fun k hk=>by
  have : k = .int 1 ∨ k = .int 5 ∨ k = .txt:=by simpa [kinds,fStr,bare] using hk
  rcases this with rfl | rfl | rfl
  ·exact h
  ·exact ⟨h2,by show off ≤ 1099511627776;omega⟩
  ·exact ⟨h2,h3,h4⟩,rfl⟩
theorem szF_pos (f : Fr) : 1 ≤ szF f:=by
 unfold szF frm.encS
 have : ∀ (l : List frm.PK) (a : ByteArray),a.size ≤ (l.foldl (fun a k=>a ++ putP f k) a).size:=by
  intro l
  induction l with
  | nil=>intro a;exact Nat.le_refl _
  | cons k l ih=>intro a;exact Nat.le_trans (by rw [ByteArray.size_append];omega) (ih (a ++ putP f k))
 have h:=this (kinds f.ty) (strOfNums [frm.headB f])
 have h1 : (strOfNums [frm.headB f]).size = 1:=by rw [frm.strOf_size];rfl
 omega
theorem szF_le {f : Fr} (h : FrV f) : szF f ≤ 4000:=by
 unfold szF frm.encS
 have : ∀ (l : List frm.PK) (a : ByteArray),(∀ k ∈ l,frm.partOk f k) → (l.foldl (fun a k=>a ++ putP f k) a).size ≤ a.size + 1032 * l.length:=by
  intro l
  induction l with
  | nil=>intro a _;exact Nat.le_refl _
  | cons k l ih=>
   intro a hk
   have h1:=frm.putP_len f k (hk k (by simp))
   refine Nat.le_trans (ih (a ++ putP f k) (fun j hj=>hk j (by simp [hj]))) ?_
   rw [ByteArray.size_append,List.length_cons];omega
 have h2:=this (kinds f.ty) (strOfNums [frm.headB f]) h.ok
 have h1 : (strOfNums [frm.headB f]).size = 1:=by rw [frm.strOf_size];rfl
 have h3 : (kinds f.ty).length ≤ 3:=by unfold kinds;(repeat' split) <;> simp
 have h4:=Nat.mul_le_mul_left 1032 h3
 omega
def frs (l : List Fr) : List Value:=l.flatMap fun f=>f.cells.toList
theorem frs_add (l : List Fr) (f : Fr) : frs (l ++ [f]) = frs l ++ f.cells.toList:=by simp [frs]
structure BatIn (H : Nat → Option Obj) (bb : Nat) (v : Value) (b : Bat) : Prop where
 bb : H bb = some (.cells #[v,.int .i64 b.lf] 134 (0,0))
 row : RowH H 38 13 v b.fs.length (frs b.fs)
def batF (bb : Nat) (v : Value) (k : Nat) : Prop:=k = bb ∨ v.ownBlock = some k
section
variable {W w w' : World} {H H' : Nat → Option Obj} {bb : Nat} {v v' : Value} {b b' : Bat}
theorem BatIn.dom (h : BatIn H bb v b) {k : Nat} (hk : batF bb v k) : ∃ o,H k = some o:=by
 rcases hk with rfl | hk
 ·exact ⟨_,h.bb⟩
 ·obtain ⟨c,hc⟩:=h.row.block hk;exact ⟨_,hc⟩
theorem BatIn.keep (h : BatIn H bb v b) (hs : ∀ k o,batF bb v k → H k = some o → H' k = some o) : BatIn H' bb v b:=
 ⟨hs _ _ (.inl rfl) h.bb,h.row.keep (fun k o e=>hs k o (.inr e))⟩
theorem BatIn.ne (h : BatIn H bb v b) {k : Nat} (hk : v.ownBlock = some k) : k ≠ bb:=fun e=>by
 obtain ⟨c,hc⟩:=h.row.block hk
 rw [e,h.bb] at hc
 exact cne (by decide) (Option.some.inj hc)
end
structure SB (H : Nat → Option Obj) (a : SetA) (s : SetS) (bb : Nat) (v : Value) (b : Bat) : Prop where
 st : SetIn H a s
 bt : BatIn H bb v b
 dj : ∀ k,s.foot a k → ¬ batF bb v k
def sbF (s : SetS) (a : SetA) (bb : Nat) (v : Value) (k : Nat) : Prop:=s.foot a k ∨ batF bb v k
section
variable {W w w' : World} {H H' : Nat → Option Obj} {a : SetA} {s s' : SetS} {bb : Nat} {v v' : Value} {b b' : Bat} {f f' : Nat → Prop}
theorem SetIn.keep (h : SetIn H a s) (hs : ∀ k o,s.foot a k → H k = some o → H' k = some o) : SetIn H' a s:=by
 obtain ⟨mo,m1,m2,m3⟩:=h.mp
 exact ⟨hs _ _ (.inl (.inl rfl)) h.sb,⟨mo,hs _ _ (.inl (.inr (.inl rfl))) m1,m2,m3⟩,hs _ _ (.inl (.inr (.inr (.inl rfl)))) h.cb,hs _ _ (.inl (.inr (.inr (.inr rfl)))) h.wb,h.cr,h.wn,
  ⟨fun e he=>(h.li.all e he).keep (fun k o hk ho=>hs k o (.inr ⟨e,he,hk⟩) ho),h.li.dj,h.li.up,h.li.bd⟩,h.dj⟩
theorem SB.turnS (h : SB H a s bb v b) (T : To W w' H H' (s.foot a) (s'.foot a)) (hs : SetIn H' a s') : SB H' a s' bb v b ∧ To W w' H H' (sbF s a bb v) (sbF s' a bb v):=by
 refine ⟨⟨hs,h.bt.keep (fun k o hk ho=>T.kp k o ho (fun c=>h.dj k c hk)),fun k hk hb=>?_⟩,T.wide (fun k c=>.inl c) (fun k c=>?_)⟩
 ·rcases T.nw k hk with c | c
  ·exact h.dj k c hb
  ·obtain ⟨o,ho⟩:=h.bt.dom hb;rw [c] at ho;cases ho
 ·rcases c with c | c
  ·exact .inl c
  ·exact .inr (.inl (.inr c))
theorem SB.turnB (h : SB H a s bb v b) (T : To W w' H H' (batF bb v) (batF bb v')) (hb : BatIn H' bb v' b') : SB H' a s bb v' b' ∧ To W w' H H' (sbF s a bb v) (sbF s a bb v'):=by
 refine ⟨⟨h.st.keep (fun k o hk ho=>T.kp k o ho (fun c=>h.dj k hk c)),hb,fun k hk hb=>?_⟩,T.wide (fun k c=>.inr c) (fun k c=>?_)⟩
 ·rcases T.nw k hb with c | c
  ·exact h.dj k hk c
  ·obtain ⟨o,ho⟩:=h.st.dom hk;rw [c] at ho;cases ho
 ·rcases c with c | c
  ·exact .inr (.inl (.inl c))
  ·exact .inl c
end
end
section
open Go.RowKit
theorem same_any (f : Fr) (hr : f.ranges = .slice none 0 0) (w : World) : Calls Tryz.prog 117 #[f.val,f.val] w fun e w'=>e = .returned (.bool true) ∧ Below w.heap.size w w':=by
 obtain ⟨x0,x1,x2,x3⟩:=box2 w (.cells f.cells 38) (.cells f.cells 38)
 have B0:=Lib.hid x2
 obtain ⟨W0,hW0⟩ : ∃ y,(w.alloc (.cells f.cells 38)).alloc (.cells f.cells 38) = y:=⟨_,rfl⟩
 rw [hW0] at x0 x1 B0
 have p0 : W0.cell? ⟨w.heap.size,0,none⟩ = some (.int .i64 f.ty):=at_whole x0 0 rfl
 have q0 : W0.cell? ⟨w.heap.size + 1,0,none⟩ = some (.int .i64 f.ty):=at_whole x1 0 rfl
 have p1 : W0.cell? ⟨w.heap.size,1,none⟩ = some (.int .i64 f.str):=at_whole x0 1 rfl
 have q1 : W0.cell? ⟨w.heap.size + 1,1,none⟩ = some (.int .i64 f.str):=at_whole x1 1 rfl
 have p2 : W0.cell? ⟨w.heap.size,2,none⟩ = some (.int .i64 f.off):=at_whole x0 2 rfl
 have q2 : W0.cell? ⟨w.heap.size + 1,2,none⟩ = some (.int .i64 f.off):=at_whole x1 2 rfl
 have p3 : W0.cell? ⟨w.heap.size,3,none⟩ = some (.string f.s):=at_whole x0 3 rfl
 have q3 : W0.cell? ⟨w.heap.size + 1,3,none⟩ = some (.string f.s):=at_whole x1 3 rfl
 have p4 : W0.cell? ⟨w.heap.size,4,none⟩ = some (.bool f.fin):=at_whole x0 4 rfl
 have q4 : W0.cell? ⟨w.heap.size + 1,4,none⟩ = some (.bool f.fin):=at_whole x1 4 rfl
 have p5 : W0.cell? ⟨w.heap.size,5,none⟩ = some (.int .i64 f.max):=at_whole x0 5 rfl
 have q5 : W0.cell? ⟨w.heap.size + 1,5,none⟩ = some (.int .i64 f.max):=at_whole x1 5 rfl
 have p6 : W0.cell? ⟨w.heap.size,6,none⟩ = some (.int .i64 f.code):=at_whole x0 6 rfl
 have q6 : W0.cell? ⟨w.heap.size + 1,6,none⟩ = some (.int .i64 f.code):=at_whole x1 6 rfl
 have p7 : W0.cell? ⟨w.heap.size,7,none⟩ = some (.bool f.uni):=at_whole x0 7 rfl
 have q7 : W0.cell? ⟨w.heap.size + 1,7,none⟩ = some (.bool f.uni):=at_whole x1 7 rfl
 have p8 : W0.cell? ⟨w.heap.size,8,none⟩ = some (.int .i64 f.delay):=at_whole x0 8 rfl
 have q8 : W0.cell? ⟨w.heap.size + 1,8,none⟩ = some (.int .i64 f.delay):=at_whole x1 8 rfl
 have p9 : W0.cell? ⟨w.heap.size,9,none⟩ = some (f.ranges):=at_whole x0 9 rfl
 have q9 : W0.cell? ⟨w.heap.size + 1,9,none⟩ = some (f.ranges):=at_whole x1 9 rfl
 have p10 : W0.cell? ⟨w.heap.size,10,none⟩ = some (.int .i64 f.seq):=at_whole x0 10 rfl
 have q10 : W0.cell? ⟨w.heap.size + 1,10,none⟩ = some (.int .i64 f.seq):=at_whole x1 10 rfl
 have p11 : W0.cell? ⟨w.heap.size,11,none⟩ = some (.int .i64 f.retire):=at_whole x0 11 rfl
 have q11 : W0.cell? ⟨w.heap.size + 1,11,none⟩ = some (.int .i64 f.retire):=at_whole x1 11 rfl
 have p12 : W0.cell? ⟨w.heap.size,12,none⟩ = some (.string f.cid):=at_whole x0 12 rfl
 have q12 : W0.cell? ⟨w.heap.size + 1,12,none⟩ = some (.string f.cid):=at_whole x1 12 rfl
 rw [hr] at p9 q9
 clear x0 x1 x2 x3
 unfold Fr.val
 go_enter Tryz.func117,Tryz.ntmps117
 go_upto_region 1 with fail
 go_wp2_with fail
 refine wp_loop_rounds 1 ?_
 rw [rounds_succ]
 go_wp2
 go_ret
 exact ⟨rfl,B0.out⟩
end
section
open Go.RowKit
theorem frs_get : ∀ (fs : List Fr) (j : Nat) (hj : j < fs.length) (k : Nat),k < 13 → (frs fs)[13 * j + k]? = (fs[j]'hj).cells[k]?
 | [],j,hj,_,_=>by simp at hj
 | f :: t,0,_,k,hk=>by
  have h1 : f.cells.toList.length = 13:=rfl
  unfold frs
  rw [List.flatMap_cons,Nat.mul_zero,Nat.zero_add,List.getElem?_append_left (by rw [h1];exact hk)]
  simp
 | f :: t,j + 1,hj,k,hk=>by
  have h1 : f.cells.toList.length = 13:=rfl
  have ih:=frs_get t j (by simpa using hj) k hk
  unfold frs at ih ⊢
  rw [List.flatMap_cons,List.getElem?_append_right (by rw [h1];omega),h1,show 13 * (j + 1) + k - 13 = 13 * j + k by omega,ih]
  simp
theorem sameFrames_any (fs : List Fr) (hr : ∀ f ∈ fs,f.ranges = .slice none 0 0) (ga gb ca cb : Nat) (w : World) (hn : fs.length ≤ 100000) (h0 : 0 < fs.length) (hA : ∀ (k : Nat) u,(frs fs)[k]? = some u → w.cell? ⟨ga,k,none⟩ = some u) (hB : ∀ (k : Nat) u,(frs fs)[k]? = some u → w.cell? ⟨gb,k,none⟩ = some u) :
  Calls Tryz.prog 54 #[.slice (some ⟨ga,0,none⟩) fs.length ca,.slice (some ⟨gb,0,none⟩) fs.length cb] w fun e w'=>e = .returned (.bool true) ∧ Below w.heap.size w w':=by
 obtain ⟨N,hN⟩ : ∃ y,fs.length = y:=⟨_,rfl⟩
 have HAB:=Lib.hid (And.intro hA hB)
 have HR:=Lib.hid (And.intro hr hN)
 rw [hN] at hn h0 ⊢
 clear hA hB hr hN
 go_enter Tryz.func54,Tryz.ntmps54
 go_wp2_with fail
 go_loopw [5] (fun i wr=>∃ j : Nat,j ≤ N ∧ i = .int .i64 j ∧ Below w.heap.size w wr) (fun i _=>N - (intOf i).toNat)
 case atStart=>exact ⟨0,by omega,rfl,Below.refl _ _⟩
 case round=>
  obtain ⟨j,hj,rfl,hb⟩:=hrel
  have HB:=Lib.hid hb
  by_cases hlt : j < N
  ·have h1 : (j : Int) < (N : Int):=by omega
   have h2 : (0 : Int) ≤ (j : Int):=by omega
   have hw1 : IntKind.i64.wrap ((j : Int) + 1) = ((j + 1 : Nat) : Int):=by rw [IntWalk.i64_in _ (by omega)];simp
   have hjf : j < fs.length:=by rw [HR.out.2];exact hlt
   obtain ⟨f,hf⟩ : ∃ f,fs[j]'hjf = f:=⟨_,rfl⟩
   have hfr : f.ranges = .slice none 0 0:=HR.out.1 f (by rw [← hf];exact List.getElem_mem hjf)
   have CE : Hid (∀ k,k < 13 → ∀ u,f.cells[k]? = some u → wr.cell? ⟨ga,13 * j + k,none⟩ = some u ∧ wr.cell? ⟨gb,13 * j + k,none⟩ = some u):=Lib.hid (fun k hk u hu=>by
    have h:=frs_get fs j hjf k hk
    rw [hf,hu] at h
    have e1:=HAB.out.1 _ u h
    have e2:=HAB.out.2 _ u h
    exact ⟨(hb.cell (World.block_lt_of_cell? _ _ e1)).trans e1,(hb.cell (World.block_lt_of_cell? _ _ e2)).trans e2⟩)
   clear hb hf
   go_upto_region 6 with fail
   refine rea.grow_region 10 (rea.slotG 17 10 0) (fun jj=>(#[.slice (some ⟨ga,0,none⟩) N ca,.int .i64 j,.pointer (some ⟨ga,j * 13,none⟩),.agg f.cells,.slice (some ⟨gb,0,none⟩) N cb,.int .i64 j,.pointer (some ⟨gb,j * 13,none⟩),.agg f.cells,.bool true,.bool false] : Array Value)[jj]?.getD undef) rfl (by kernel_rfl) rfl (fun i d hi h=>by have:=rea.slotG_is h;simp;omega) (fun i i2 d hi hj h1 h2=>by have:=rea.slotG_is h1;have:=rea.slotG_is h2;omega) ?_ rfl ?_
   ·rintro jj o hjj ho aa w1 hb1 ⟨hold,hdep⟩
    have RA : w1.rangeAt ga (j * 13) f.cells.toList:=fun k u hu=>by
     have hk : k < 13:=by have:=(List.getElem?_eq_some_iff.1 hu).1;simpa [Fr.cells] using this
     have e:=(CE.out k hk u (by simpa using hu)).1
     rw [Nat.mul_comm] at e
     exact (hb1.cell (World.block_lt_of_cell? _ _ e)).trans e
    have RB : w1.rangeAt gb (j * 13) f.cells.toList:=fun k u hu=>by
     have hk : k < 13:=by have:=(List.getElem?_eq_some_iff.1 hu).1;simpa [Fr.cells] using this
     have e:=(CE.out k hk u (by simpa using hu)).2
     rw [Nat.mul_comm] at e
     exact (hb1.cell (World.block_lt_of_cell? _ _ e)).trans e
    have o0:=hold 0 (fun i hi h=>by have:=rea.slotG_is h;omega)
    have o1:=hold 1 (fun i hi h=>by have:=rea.slotG_is h;omega)
    have o5:=hold 5 (fun i hi h=>by have:=rea.slotG_is h;omega)
    simp at o0 o1 o5
    have hjj : jj = 0 ∨ jj = 1 ∨ jj = 2 ∨ jj = 3 ∨ jj = 4 ∨ jj = 5 ∨ jj = 6 ∨ jj = 7 ∨ jj = 8 ∨ jj = 9:=by omega
    rcases hjj with rfl | rfl | rfl | rfl | rfl | rfl | rfl | rfl | rfl | rfl
    all_goals (cases ho;simp [Region.binds,rea.slotG] at hdep;refine ⟨rfl,rfl,.inl ⟨rfl,fun K hK=>?_⟩⟩)
    iterate 3 (· unfold Oper.wp;first | (simp [execOp,Oper.upon,go_sem,Act.eval,hdep,o0,o1,o5,h1,h2,hlt];exact hK _ bz0) | (simp [execOp,Oper.upon,go_sem,Act.eval,o0,o1,o5,h1,h2,hlt];exact hK _ bz0))
    ·exact wp_load_mid 38 (.tmp 19) rfl ga (j * 13) (by simp [Act.eval,hdep]) f.cells.toList _ RA Tryz.underlying38 rfl (by kernel_rfl) (hK _ bz0)
    iterate 3 (· unfold Oper.wp;first | (simp [execOp,Oper.upon,go_sem,Act.eval,hdep,o0,o1,o5,h1,h2,hlt];exact hK _ bz0) | (simp [execOp,Oper.upon,go_sem,Act.eval,o0,o1,o5,h1,h2,hlt];exact hK _ bz0))
    ·exact wp_load_mid 38 (.tmp 23) rfl gb (j * 13) (by simp [Act.eval,hdep]) f.cells.toList _ RB Tryz.underlying38 rfl (by kernel_rfl) (hK _ bz0)
    ·unfold Oper.wp;simp [execOp,Oper.upon,resolve,invoke,go_sem,Act.eval,hdep];refine (same_any f hfr _).mono ?_;rintro e w2 ⟨rfl,hb2⟩;exact hK _ hb2
    ·unfold Oper.wp;first | (simp [execOp,Oper.upon,go_sem,Act.eval,hdep,o0,o1,o5,h1,h2,hlt];exact hK _ bz0) | (simp [execOp,Oper.upon,go_sem,Act.eval,o0,o1,o5,h1,h2,hlt];exact hK _ bz0)
   rintro w8 hb8
   have HB8:=Lib.hid hb8
   clear hb8
   simp only [rea.setAll,rea.slotG]
   rw [show List.range 10 = [0,1,2,3,4,5,6,7,8,9] from rfl]
   simp (decide:=true) only [List.foldl_cons,List.foldl_nil,if_true,Nat.reduceAdd]
   simp (decide:=true) only [List.setIfInBounds_toArray,List.set_cons_succ,List.set_cons_zero,List.getElem?_toArray,List.getElem?_cons_succ,List.getElem?_cons_zero,Option.getD_some]
   go_wp2
   go_roundw
   case rel=>exact ⟨j + 1,by omega,by first | rfl | (rw [← hw1]) | simp,HB.out.trans (HB8.out.mono HB.out.size)⟩
   case measure=>simp [intOf];omega
  ·have h1 : ¬ ((j : Int) < (N : Int)):=by omega
   clear hb
   go_wp2_with fail
   go_ret
   exact ⟨rfl,HB.out⟩
end
end Go.Proofs.YthckbmcmdcemkaaGreatDoor.stm
