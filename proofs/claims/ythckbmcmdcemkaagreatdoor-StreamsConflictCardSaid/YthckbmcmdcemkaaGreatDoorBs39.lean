/- Texts of this claim, one behind the other: Mx My Mz Sa Sc Sb Ra. -/
import Derived.Test.YthckbmcmdcemkaaGreatDoorBs38
import Derived.Test.YthckbmcmdcemkaaGreatDoorBs20
import Derived.Test.YthckbmcmdcemkaaGreatDoorBs28
import Derived.Deep.CutRange
import Derived.Deep.CutBlock
import Derived.Test.YthckbmcmdcemkaaGreatDoorBs2
import Derived.Test.YthckbmcmdcemkaaGreatDoorBs37
set_option maxRecDepth 100000
set_option maxHeartbeats 16000000
set_option linter.unusedSimpArgs false
set_option linter.unusedVariables false
namespace Go.Proofs.YthckbmcmdcemkaaGreatDoor.stm
section
open Go.RowKit
theorem Snd.Ok.raise {r : Snd} (h : r.Ok) (n : Int) : (r.raise n).Ok:=by
 obtain ⟨h1,h2,h3⟩:=h
 unfold maxOff at h3
 refine ⟨h1,?_,?_⟩ <;> (unfold Snd.raise maxOff;simp only;omega)
section
variable {W w w' : World} {H H' : Nat → Option Obj} {a : SetA} {s : SetS}
theorem SetIn.laid (hs : SetIn H a s) {g : Nat → Prop} (T : To W w' H H' (fun _=>False) g) : SetIn H' a s ∧ To W w' H H' (s.foot a) (s.foot a):=
 hs.own_turn (s':=s) (T.wide (g:=(· = a.sb)) (g':=(· = a.sb)) (fun _ e=>e.elim) (fun k c=>.inr (.inl c))) (fun k c=>.inl c) rfl (T.kp _ _ hs.sb (fun c=>c)) (T.kp _ _ hs.cb (fun c=>c)) (T.kp _ _ hs.wb (fun c=>c)) hs.cr hs.wn
def stpO (o : OutP) (c : Int) : OutP:=if o.sc = -1 then (if o.act then ({ o with sc:=c } : OutP).aband c else { o with sc:=c }) else o
theorem onStop_any (hs : SetIn H a s) (hm : Mem W w H) {l1 l2 : List (StA × Strm)} {xa : StA} {x : Strm} {o : OutP} (hl : s.ss = l1 ++ (xa,x) :: l2) (ho : x.out = some o) (f : Fr) :
  Calls Tryz.prog 140 #[ptr a.sb,ptr xa.xb,f.val] w fun e w'=>e = .returned (.int .i64 0) ∧ ∃ H' xa',xa'.xb = xa.xb ∧ To W w' H H' (s.foot a) (SetS.foot { s with ss:=l1 ++ (xa',{ x with out:=some (stpO o f.code) }) :: l2 } a) ∧ SetIn H' a { s with ss:=l1 ++ (xa',{ x with out:=some (stpO o f.code) }) :: l2 }:=by
 obtain ⟨H1,T1,n1⟩:=To.alloc hm (.cells f.cells 38)
 obtain ⟨S1,TS1⟩:=hs.laid T1
 have hx:=S1.li.all (xa,x) (by rw [hl];simp)
 have h0:=hx.o
 simp only [ho] at h0
 obtain ⟨oa,h1,h2⟩:=h0.some_of
 have c1:=hx.c1 TS1.mem
 rw [h1] at c1
 simp only [Option.map_some,optP,ptr] at c1
 have d7 : (w.alloc (.cells f.cells 38)).cell? ⟨oa.ob,7,none⟩ = some (.int .i64 o.sc):=h2.facts TS1.mem 7 rfl
 have d6 : (w.alloc (.cells f.cells 38)).cell? ⟨w.heap.size,6,none⟩ = some (.int .i64 f.code):=at_whole (heap_alloc_new w _) 6 rfl
 have z7:=frozen_whole (TS1.mem.at h2.ob) 7
 have HH:=Lib.hid (And.intro S1 (And.intro TS1 (And.intro hl (And.intro hx h2))))
 have SM:=Lib.hid (SetIn.same S1 TS1.mem hl)
 have n6 : (w.alloc (.cells f.cells 38)).heap[w.heap.size]? = some (.cells f.cells 38 (0,0)):=heap_alloc_new w _
 have ne:=Lib.hid (show H1 w.heap.size = some (.cells f.cells 38 (0,0)) from n1)
 clear hs hm T1 n1 S1 TS1 hl hx h0 h2 n6
 obtain ⟨mx,hmx⟩ : ∃ q,f.code = q:=⟨_,rfl⟩
 rw [hmx] at d6 ⊢
 unfold Fr.val
 unfold ptr at *
 by_cases hd : o.sc = -1
 ·have dd : decide (o.sc = -1) = true:=decide_eq_true hd
  have e1:=Lib.hid (show stpO o mx = if o.act then ({ o with sc:=mx } : OutP).aband mx else { o with sc:=mx } from by unfold stpO;rw [if_pos hd])
  have eb : (o.sc == -1) = true:=beq_iff_eq.2 hd
  clear SM
  go_enter Tryz.func140,Tryz.ntmps140
  go_upto_region 2 with fail
  generalize w.alloc (.cells f.cells 38) = wv at *
  generalize w.heap.size = n at *
  go_region
  obtain ⟨H2,I2,T2⟩:=HH.out.2.2.2.2.set HH.out.2.1.mem (o':={ o with sc:=mx }) 7 (.int .i64 mx) rfl rfl rfl rfl
  obtain ⟨H2',T2',_⟩:=To.set HH.out.2.1.mem HH.out.2.2.2.2.ob 7 (.int .i64 mx)
  have q6 : ((wv.setCell ⟨oa.ob,7,none⟩ (.int .i64 mx)).drew).cell? ⟨n,6,none⟩ = some (.int .i64 mx):=at_whole' (T2'.mem.drew.at (T2'.kp n _ ne.out (tne ne.out HH.out.2.2.2.2.ob (by decide)))) (by rw [← hmx];rfl)
  have T2:=T2.same bz0.drew
  clear T2'
  obtain ⟨X2,TX2⟩:=HH.out.2.2.2.1.turnO h1 ho T2 I2 rfl
  obtain ⟨SS2,TS2⟩:=HH.out.1.turnS (l1:=l1) (l2:=l2) HH.out.2.1.mem HH.out.2.2.1 TX2 X2 rfl rfl
  generalize (wv.setCell ⟨oa.ob,7,none⟩ (.int .i64 mx)).drew = w2 at *
  have AC:=Lib.hid (active_any (a:=some oa) (o:=some { o with sc:=mx }) I2 TS2.mem)
  have AB:=Lib.hid (aband_any I2 TS2.mem.drew mx)
  have q1:=X2.c1 TS2.mem
  simp only [Option.map_some,optP,ptr] at q1
  have P2:=Lib.hid (And.intro SS2 (And.intro (HH.out.2.1.trans TS2) (And.intro X2 I2)))
  simp only [Option.map_some,optP,ptr,outAct,show OutP.act { o with sc:=mx } = o.act from rfl] at AC
  unfold ptr at AB
  clear c1 d7 d6 z7 SS2 TS2 X2 TX2 I2 T2
  cases hac : o.act with
  | false=>
   have RR:=Lib.hid (show ∃ H' xa',xa'.xb = xa.xb ∧ To W w2 H H' (s.foot a) (SetS.foot { s with ss:=l1 ++ (xa',{ x with out:=some (stpO o mx) }) :: l2 } a) ∧ SetIn H' a { s with ss:=l1 ++ (xa',{ x with out:=some (stpO o mx) }) :: l2 } from by
    rw [e1.out,hac]
    exact ⟨H2,{ xa with o:=some oa },rfl,P2.out.2.1,P2.out.1⟩)
   rw [hac] at AC
   clear hac
   go_wp2_with (go_at_call 59;refine AC.out.mono ?_;rintro e wx ⟨rfl,rfl⟩)
   go_ret
   exact ⟨rfl,RR.out⟩
  | true=>
   have eT : stpO o mx = ({ o with sc:=mx } : OutP).aband mx:=by rw [e1.out,hac];rfl
   have ET:=Lib.hid eT
   rw [hac] at AC
   clear hac eT
   go_upto_region 4 with (go_at_call 59;refine AC.out.mono ?_;rintro e wx ⟨rfl,rfl⟩)
   go_still_tail 6,(by kernel_rfl)
   repeat still_step
   go_upto_region 5 with (go_at_call 84;refine AB.out.mono ?_;rintro e5 w5 ⟨rfl,H5,hO,hT⟩;have G5:=Lib.hid (And.intro hO hT);clear hO hT)
   obtain ⟨X5,TX5⟩:=P2.out.2.2.1.turnO rfl rfl G5.out.2 G5.out.1 rfl
   obtain ⟨SS5,TS5⟩:=P2.out.1.turnS (l1:=l1) (l2:=l2) P2.out.2.1.mem rfl TX5 X5 rfl rfl
   have RR:=Lib.hid (show ∃ H' xa',xa'.xb = xa.xb ∧ To W w5 H H' (s.foot a) (SetS.foot { s with ss:=l1 ++ (xa',{ x with out:=some (stpO o mx) }) :: l2 } a) ∧ SetIn H' a { s with ss:=l1 ++ (xa',{ x with out:=some (stpO o mx) }) :: l2 } from by
    rw [ET.out]
    exact ⟨H5,{ xa with o:=some oa },rfl,P2.out.2.1.trans TS5,SS5⟩)
   clear SS5 TS5 X5 TX5
   go_wp2
   go_ret
   exact ⟨rfl,RR.out⟩
 ·have dd : decide (o.sc = -1) = false:=decide_eq_false hd
  have e1:=Lib.hid (show stpO o mx = o from by unfold stpO;rw [if_neg hd])
  have ea : ({ xa with o:=some oa } : StA) = xa:=by rw [← h1]
  have RR:=Lib.hid (show ∃ H' xa',xa'.xb = xa.xb ∧ To W (w.alloc (.cells f.cells 38)) H H' (s.foot a) (SetS.foot { s with ss:=l1 ++ (xa',{ x with out:=some (stpO o mx) }) :: l2 } a) ∧ SetIn H' a { s with ss:=l1 ++ (xa',{ x with out:=some (stpO o mx) }) :: l2 } from by
   rw [e1.out]
   have ex : ({ x with out:=some o } : Strm) = x:=by rw [← ho]
   rw [ex]
   exact ⟨H1,xa,rfl,HH.out.2.1.trans SM.out.2,SM.out.1⟩)
  have eb : (o.sc == -1) = false:=beq_eq_false_iff_ne.2 hd
  clear hd ea
  go_enter Tryz.func140,Tryz.ntmps140
  go_wp2
  go_ret
  exact ⟨rfl,RR.out⟩
end
end
section
open Go.RowKit
theorem final_any {w : World} {b g1 g2 : Nat} {R : rea.Rb} (h : rea.RbAt w b g1 g2 R) : Calls Tryz.prog 214 #[ptr b] w fun e w'=>e = .returned (.tuple #[.int .i64 R.fin,.bool R.kn]) ∧ ∃ n,w' = w.drewN n:=by
 have c4 : w.cell? ⟨b,4,none⟩ = some (.int .i64 R.fin):=at_whole h.ob 4 rfl
 have c5 : w.cell? ⟨b,5,none⟩ = some (.bool R.kn):=at_whole h.ob 5 rfl
 clear h
 unfold ptr
 go_enter Tryz.func214,Tryz.ntmps214
 go_wp2_with fail
 go_quiet (fail)
 go_wp2
 go_returns
 exact ⟨rfl,_,rfl⟩
theorem offset_any {w : World} {b g1 g2 : Nat} {R : rea.Rb} (h : rea.RbAt w b g1 g2 R) : Calls Tryz.prog 81 #[ptr b] w fun e w'=>e = .returned (.int .i64 R.at_) ∧ w = w':=by
 have c0 : w.cell? ⟨b,0,none⟩ = some (.int .i64 R.at_):=at_whole h.ob 0 rfl
 clear h
 unfold ptr
 go_enter Tryz.func81,Tryz.ntmps81
 go_wp2
 go_returns
 exact ⟨rfl,rfl⟩
section
variable {W w w' : World} {H H' : Nat → Option Obj} {a : SetA} {s : SetS}
end
end
section
open Go.RowKit
section
variable {W w w' : World} {H H' : Nat → Option Obj} {a : SetA} {s : SetS}
end
end
section
open Go.RowKit
theorem readyB_any {w : World} {b g1 g2 : Nat} {R : rea.Rb} (h : rea.RbAt w b g1 g2 R) : Calls Tryz.prog 82 #[ptr b] w fun e w'=>e = .returned (.int .i64 (rea.readyF R.hs)) ∧ w = w':=by
 have RD:=Lib.hid (rea.ready_any b g1 g2 R w h)
 clear h
 unfold ptr at *
 go_enter Tryz.func82,Tryz.ntmps82
 go_wp2_with (go_at_call 147;refine RD.out.mono ?_;rintro e wv ⟨rfl,rfl⟩)
 go_ret
 exact ⟨rfl,rfl⟩
def datEnd (f : Fr) : Int:=f.off + f.s.size
def datE (s : SetS) (i : InP) (f : Fr) : Int:=
 if i.wasR then (if decide (i.fl < datEnd f) || (f.fin && !decide (datEnd f = i.fl)) then 161 else 0)
 else if excB s i (datEnd f) then 150 else rea.putE i.R f.off.toNat f.s f.fin
def datP (i : InP) (f : Fr) : InP:=cntI { i with R:=i.R.put f.off.toNat f.s f.fin } (datEnd f)
def datF (i : InP) (f : Fr) : InP:=if f.fin then (datP i f).on 6 else datP i f
def allB (i : InP) : Bool:=i.R.kn && (decide (i.recv = 1) && decide ((i.R.at_ : Int) + rea.readyF i.R.hs = i.R.fin))
def datI (i : InP) (f : Fr) : InP:=if allB (datF i f) then (datF i f).on 7 else datF i f
def datI2 (i : InP) (f : Fr) : InP:=if i.stp then takeI (datI i f) 8192 else datI i f
def datS (s : SetS) (i : InP) (f : Fr) (L : List (StA × Strm)) : SetS:=if i.stp then { cntS s i (datEnd f) L with wn:=(cntS s i (datEnd f) L).wn.read (rdN (datI i f).R 8192) } else cntS s i (datEnd f) L
end
section
open Go.RowKit
section
variable {W w w' : World} {H H' : Nat → Option Obj} {a : SetA} {s : SetS}
theorem putE_zero {R : rea.Rb} {off : Nat} {d : ByteArray} {fin : Bool} (h : rea.putE R off d fin = 0) : rea.agF R.at_ R.bs R.hs off (rea.bytesOf d) = true ∧ rea.finB R ((off : Int) + d.size) fin = true:=by
 unfold rea.putE at h
 cases h1 : rea.agF R.at_ R.bs R.hs off (rea.bytesOf d) with
 | false=>rw [h1] at h;simp at h
 | true=>
  cases h2 : rea.finB R ((off : Int) + d.size) fin with
  | false=>rw [h1,h2] at h;simp at h
  | true=>exact ⟨rfl,rfl⟩
theorem foot_put {l1 l2 : List (StA × Strm)} {xa : StA} {x x' : Strm} (hl : s.ss = l1 ++ (xa,x) :: l2) : SetS.foot { s with ss:=l1 ++ (xa,x') :: l2 } a = s.foot a:=by
 have key : ∀ (L : List (StA × Strm)) k,footL L k ↔ ∃ b ∈ L.map (·.1),b.foot k:=fun L k=>by
  unfold footL
  simp
 funext k
 unfold SetS.foot
 rw [hl]
 exact propext (or_congr Iff.rfl (by rw [key,key];simp only [List.map_append,List.map_cons]))
theorem datI_keep (i : InP) (f : Fr) : (datI i f).stp = i.stp ∧ (datI i f).R.at_ = i.R.at_:=by
 unfold datI datF datP
 split <;> split <;> exact ⟨rfl,rfl⟩
theorem onData_yes (hs : SetIn H a s) (hm : Mem W w H) {l1 l2 : List (StA × Strm)} {xa : StA} {x : Strm} {i : InP} (hl : s.ss = l1 ++ (xa,x) :: l2) (hi : x.inp = some i) (f : Fr) (hf0 : 0 ≤ f.off) (hf1 : f.off + f.s.size ≤ 1099511627776) (hf2 : f.s.size ≤ 8192) (hc : 0 ≤ i.cn ∧ i.cn ≤ maxOff) (ht : 0 ≤ s.tot ∧ s.tot ≤ maxOff) (hat : i.R.at_ ≤ 1125899906842624)
  (hcw : i.cn ≤ i.wn.most) (htw : s.tot ≤ s.wn.most) (hroom : i.wn.most ≤ i.R.at_ + i.R.bs.length) {a0 a1 a2 a3 : Addr} (hE : rea.Errs w a0 a1 a2 a3) (hA : rea.Apt w a0 a1) (hwr : i.wasR = false) (hd : datE s i f = 0) :
  Calls Tryz.prog 138 #[ptr a.sb,ptr xa.xb,f.val] w fun e w'=>e = .returned (.int .i64 0) ∧ ∃ H' xa',xa'.xb = xa.xb ∧ To W w' H H' (s.foot a) (SetS.foot (datS s i f (l1 ++ (xa',{ x with inp:=some (datI2 i f) }) :: l2)) a) ∧ SetIn H' a (datS s i f (l1 ++ (xa',{ x with inp:=some (datI2 i f) }) :: l2)):=by
 unfold datE at hd
 rw [hwr] at hd
 simp only [Bool.false_eq_true,if_false] at hd
 have hex : excB s i (datEnd f) = false:=by
  cases h : excB s i (datEnd f) with
  | false=>rfl
  | true=>rw [h] at hd;simp at hd
 rw [hex] at hd
 simp only [Bool.false_eq_true,if_false] at hd
 have hex2:=hex
 unfold excB at hex2
 simp only [Bool.or_eq_false_iff,decide_eq_false_iff_not] at hex2
 have hend : datEnd f = f.off + f.s.size:=rfl
 have hN : cntN i (datEnd f) ≤ i.wn.most:=by unfold cntN;split <;> omega
 have hT : cntT s i (datEnd f) ≤ s.wn.most:=by unfold cntT cntN;split <;> omega
 obtain ⟨H1,T1,n1⟩:=To.alloc hm (.cells f.cells 38)
 obtain ⟨S1,TS1⟩:=hs.laid T1
 have hx:=S1.li.all (xa,x) (by rw [hl];simp)
 have h0:=hx.i
 simp only [hi] at h0
 obtain ⟨ia,h1,h2⟩:=h0.some_of
 have c2:=hx.c2 TS1.mem
 rw [h1] at c2
 simp only [Option.map_some,optP,ptr] at c2
 have hb0:=(Below.refl w.heap.size w).alloc (Nat.le_refl _) (.cells f.cells 38)
 have d0 : (w.alloc (.cells f.cells 38)).cell? ⟨ia.ib,0,none⟩ = some (.pointer (some ⟨ia.rb,0,none⟩)):=h2.facts TS1.mem 0 rfl
 have f2 : (w.alloc (.cells f.cells 38)).cell? ⟨w.heap.size,2,none⟩ = some (.int .i64 f.off):=at_whole (heap_alloc_new w _) 2 rfl
 have f3 : (w.alloc (.cells f.cells 38)).cell? ⟨w.heap.size,3,none⟩ = some (.string f.s):=at_whole (heap_alloc_new w _) 3 rfl
 have f4 : (w.alloc (.cells f.cells 38)).cell? ⟨w.heap.size,4,none⟩ = some (.bool f.fin):=at_whole (heap_alloc_new w _) 4 rfl
 have WR:=Lib.hid (fun wx (hb : Below (w.alloc (.cells f.cells 38)).heap.size (w.alloc (.cells f.cells 38)) wx)=>wasReset_any h2 (TS1.mem.same hb))
 have EX:=Lib.hid (fun wx (hb : Below (w.alloc (.cells f.cells 38)).heap.size (w.alloc (.cells f.cells 38)) wx)=>exceeds_any S1 (TS1.mem.same hb) h2 (datEnd f) (by omega) hc ht)
 rw [hwr] at WR
 rw [hex] at EX
 obtain ⟨hag,hfb⟩:=putE_zero hd
 have PT : Hid (∀ wx (hb : Below (w.alloc (.cells f.cells 38)).heap.size (w.alloc (.cells f.cells 38)) wx),Calls Tryz.prog 212 #[.pointer (some ⟨ia.rb,0,none⟩),.int .i64 f.off,.string f.s,.bool f.fin] wx fun e w'=>e = .returned (.int .i64 0) ∧ ∃ H4,To W w' H H4 (s.foot a) (SetS.foot { s with ss:=l1 ++ (xa,{ x with inp:=some { i with R:=i.R.put f.off.toNat f.s f.fin } }) :: l2 } a) ∧ SetIn H4 a { s with ss:=l1 ++ (xa,{ x with inp:=some { i with R:=i.R.put f.off.toNat f.s f.fin } }) :: l2 } ∧ H4 w.heap.size = some (.cells f.cells 38 (0,0))):=Lib.hid (fun wx hb=>by
  have hRb:=h2.rbAt (TS1.mem.same hb)
  have hP:=rea.Put_any ia.rb ia.g1 ia.g2 i.R f.off.toNat f.s f.fin a0 a1 a2 a3 wx hRb ((hE.below hb0).below hb) ((hA.below hb0).below hb) hf2 (by omega) hat (by omega)
  rw [hd,show ((f.off.toNat : Nat) : Int) = f.off by omega] at hP
  refine hP.mono ?_
  rintro e w' ⟨rfl,hTr,hR⟩
  obtain ⟨H4,I4,T4⟩:=h2.setR (TS1.mem.same hb) hTr hR
  obtain ⟨X4,TX4⟩:=hx.turnI h1 hi T4 I4 rfl
  rw [StA.eqI h1] at X4 TX4
  obtain ⟨SS4,TS4⟩:=S1.turnS (TS1.mem.same hb) hl TX4 X4 rfl rfl
  refine ⟨rfl,H4,(TS1.same hb).trans TS4,SS4,T4.kp _ _ n1 (fun c=>?_)⟩
  obtain ⟨o,ho⟩:=hs.dom (k:=w.heap.size) (.inr ⟨(xa,x),by rw [hl];simp,.inr (.inr (by rw [h1];exact c))⟩)
  have:=heap_lt (hm.at ho)
  omega)
 have FT:=Lib.hid (show ∀ k,s.foot a k → k ≠ w.heap.size from fun k hk e=>by
  obtain ⟨o,ho⟩:=hs.dom hk
  have:=heap_lt (hm.at ho)
  omega)
 have FT2:=Lib.hid (show ∀ k,SetS.foot { s with ss:=l1 ++ (xa,{ x with inp:=some { i with R:=i.R.put f.off.toNat f.s f.fin } }) :: l2 } a k → k ≠ w.heap.size from fun k hk=>FT.out k (by rw [foot_put hl] at hk;exact hk))
 have HC:=Lib.hid (And.intro hc (And.intro ht (And.intro hN (And.intro hT (And.intro h1 hat)))))
 have hw : IntKind.i64.wrap (f.off + (f.s.size : Int)) = datEnd f:=IntWalk.i64_in _ (by omega)
 clear hs hm T1 n1 S1 TS1 hl hx h0 h2 h1 hf0 hf1 hf2 hc ht hi hE hA hat hb0 hd hag hfb hex hex2 hend hN hT hcw htw hroom hwr
 unfold Fr.val
 unfold ptr at *
 go_enter Tryz.func138,Tryz.ntmps138
 go_upto_region 1 with fail
 generalize hwv : w.alloc (.cells f.cells 38) = wv at *
 generalize hn : w.heap.size = n at *
 go_quiet (fail)
 go_upto_region 8 with (first | (go_at_call 210;refine (WR.out _ (by first | exact bz0 | exact bz0.drew | exact bz1 | exact bz1.drew | exact bz2 | exact bz2.drew)).mono ?_;rintro e w1 ⟨rfl,rfl⟩) | (go_at_call 211;refine (EX.out _ (by first | exact bz0 | exact bz0.drew | exact bz1 | exact bz1.drew | exact bz2 | exact bz2.drew)).mono ?_;rintro e w1 ⟨rfl,q2,rfl⟩))
 have d0 : (wv.drewN (nq + q2)).cell? ⟨ia.ib,0,none⟩ = some (.pointer (some ⟨ia.rb,0,none⟩)):=d0
 have f2 : (wv.drewN (nq + q2)).cell? ⟨n,2,none⟩ = some (.int .i64 f.off):=f2
 have f3 : (wv.drewN (nq + q2)).cell? ⟨n,3,none⟩ = some (.string f.s):=f3
 have f4 : (wv.drewN (nq + q2)).cell? ⟨n,4,none⟩ = some (.bool f.fin):=f4
 have BZ:=Lib.hid (belowN (Below.refl wv.heap.size wv) (nq + q2))
 generalize wv.drewN (nq + q2) = wz at *
 refine wp_region_still_tail 10 (by kernel_rfl) (by kernel_rfl) ?_
 simp only [List.take_succ_cons,List.take_zero,List.drop_succ_cons,List.drop_zero]
 repeat ((with_reducible refine wpStill_step (fun K hK=>?_));go_simp;(with_reducible refine hK _ ?_);clear hK K)
 with_reducible refine wpStill_nil ?_
 go_upto_region 11 with (go_at_call 212;refine (PT.out _ BZ.out.drew).mono ?_;rintro e w4 ⟨rfl,H4,hT4,hS4,hn4⟩;have G4:=Lib.hid (And.intro hT4 (And.intro hS4 hn4));clear hT4 hS4 hn4)
 have CN:=Lib.hid (count_any (i:={ i with R:=i.R.put f.off.toNat f.s f.fin }) (x:={ x with inp:=some { i with R:=i.R.put f.off.toNat f.s f.fin } }) G4.out.2.1 G4.out.1.mem rfl rfl HC.out.2.2.2.2.1 (datEnd f) HC.out.1.1 HC.out.2.1.1 HC.out.2.2.1 HC.out.2.2.2.1)
 unfold ptr at CN
 clear d0 f2 f3 f4 c2 WR EX PT
 go_upto_region 12 with (go_at_call 213;refine CN.out.mono ?_;rintro e w5 ⟨rfl,H5,xa5,e5,i5,T5,S5⟩;have G5:=Lib.hid (And.intro e5 (And.intro i5 (And.intro T5 (show SetIn H5 a (cntS s i (datEnd f) (l1 ++ (xa5,{ x with inp:=some (datP i f) }) :: l2)) from S5))));clear e5 i5 T5 S5)
 have hx5:=G5.out.2.2.2.li.all (xa5,{ x with inp:=some (datP i f) }) (by show _ ∈ (cntS s i _ _).ss;simp [cntS])
 have h5:=hx5.i
 simp only [G5.out.2.1,HC.out.2.2.2.2.1] at h5
 have h5 : InIn H5 ia (datP i f):=h5
 have n5 : H5 n = some (.cells f.cells 38 (0,0)):=G5.out.2.2.1.kp n _ G4.out.2.2 (fun c=>FT2.out n c rfl)
 have p4 : w5.cell? ⟨n,4,none⟩ = some (.bool f.fin):=at_whole (G5.out.2.2.1.mem.at n5) 4 rfl
 have P5:=Lib.hid (And.intro hx5 h5)
 clear hx5 h5 n5 CN
 obtain ⟨i6,hi6⟩ : ∃ y,datF i f = y:=⟨_,rfl⟩
 have ON:=Lib.hid (onI_any P5.out.2 G5.out.2.2.1.mem 6)
 have HF6:=Lib.hid hi6
 clear hi6
 unfold ptr at ON
 obtain ⟨fin,hfin⟩ : ∃ q,f.fin = q:=⟨_,rfl⟩
 rw [hfin] at p4
 have HFIN:=Lib.hid hfin
 clear hfin
 go_upto_if 65 with fail
 go_cut [] from 66 to 68 (fun wx=>∃ Hx,Hid (InIn Hx ia i6 ∧ To W wx H5 Hx ia.foot ia.foot))
 case first=>
  have hdf : i6 = if fin then (datP i f).on 6 else datP i f:=by rw [← HF6.out,← HFIN.out];rfl
  cases fin with
  | false=>
   have T0:=Lib.hid (show InIn H5 ia i6 ∧ To W w5 H5 H5 ia.foot ia.foot from by rw [hdf];exact ⟨P5.out.2,To.refl G5.out.2.2.1.mem _⟩)
   clear hdf
   go_wp2_with fail
   go_meet
   exact ⟨H5,T0⟩
  | true=>
   clear p4
   go_wp2_with (go_at_call 75;refine ON.out.mono ?_;rintro e w6 ⟨rfl,H6,hO,hT⟩;have T6:=Lib.hid (show InIn H6 ia i6 ∧ To W w6 H5 H6 ia.foot ia.foot from by rw [hdf];exact ⟨hO,hT⟩);clear hO hT)
   go_meet
   exact ⟨H6,T6⟩
 case rest=>
 obtain ⟨H6,G6⟩:=hcut
 generalize wc = w6 at *
 clear ON p4
 have FI:=Lib.hid (final_any (G6.out.1.rbAt G6.out.2.mem))
 have FI:=Lib.hid (final_any (G6.out.1.rbAt G6.out.2.mem))
 have RB6:=G6.out.1.rbAt G6.out.2.mem
 have q0 : w6.cell? ⟨ia.ib,0,none⟩ = some (.pointer (some ⟨ia.rb,0,none⟩)):=G6.out.1.facts G6.out.2.mem 0 rfl
 have q2 : w6.cell? ⟨ia.ib,2,none⟩ = some (.int .i64 i6.recv):=G6.out.1.facts G6.out.2.mem 2 rfl
 have hat6 : i6.R.at_ = i.R.at_:=by rw [← HF6.out];unfold datF datP;split <;> rfl
 have hsm6:=RB6.sm
 have hhl6:=RB6.hl
 have hrl6:=rea.readyF_le i6.R.hs
 have hal6:=HC.out.2.2.2.2.2
 obtain ⟨qa,hqa⟩ : ∃ q,allB i6 = q:=⟨_,rfl⟩
 have HQA:=Lib.hid hqa
 have OF6:=Lib.hid (fun wx (hb : Below w6.heap.size w6 wx)=>(offset_any (RB6.below hb)).mono (fun e w' h=>(⟨h.1,by rw [← h.2];exact Below.refl _ _⟩ : e = _ ∧ Below wx.heap.size wx w')))
 have RD6:=Lib.hid (fun wx (hb : Below w6.heap.size w6 wx)=>(readyB_any (RB6.below hb)).mono (fun e w' h=>(⟨h.1,by rw [← h.2];exact Below.refl _ _⟩ : e = _ ∧ Below wx.heap.size wx w')))
 unfold allB at hqa
 obtain ⟨kn,hkn⟩ : ∃ q,i6.R.kn = q:=⟨_,rfl⟩
 obtain ⟨fn6,hfn6⟩ : ∃ q,i6.R.fin = q:=⟨_,rfl⟩
 obtain ⟨rv,hrv⟩ : ∃ q,i6.recv = q:=⟨_,rfl⟩
 obtain ⟨at6,hat7⟩ : ∃ q : Int,(i6.R.at_ : Int) = q:=⟨_,rfl⟩
 obtain ⟨rd6,hrd6⟩ : ∃ q : Int,(rea.readyF i6.R.hs : Int) = q:=⟨_,rfl⟩
 have hws : IntKind.i64.wrap (at6 + rd6) = at6 + rd6:=IntWalk.i64_in _ (by omega)
 rw [hkn,hfn6] at FI
 rw [hkn,hfn6,hrv,hat7,hrd6] at hqa
 rw [hrv] at q2
 rw [hat7] at OF6
 rw [hrd6] at RD6
 clear hkn hfn6 hrv hat7 hrd6 hat6 hsm6 hhl6 hrl6 hal6 RB6
 unfold ptr at FI OF6 RD6
 go_upto_region 15 with (go_at_call 214;refine FI.out.mono ?_;rintro e w7 ⟨rfl,q3,rfl⟩)
 clear FI
 have BD:=Lib.hid (belowN (Below.refl w6.heap.size w6) q3)
 have Q0:=Lib.hid (show (w6.drewN q3).cell? ⟨ia.ib,0,none⟩ = some (.pointer (some ⟨ia.rb,0,none⟩)) ∧ (w6.drewN q3).cell? ⟨ia.ib,2,none⟩ = some (.int .i64 rv) from ⟨q0,q2⟩)
 clear q0 q2
 generalize w6.drewN q3 = w7 at *
 have OLD : Hid (∀ w',Below w7.heap.size w7 w' → ∀ p v,w7.cell? p = some v → w'.cell? p = some v):=Lib.hid (fun w' hb p v hv=>(hb.cell (World.block_lt_of_cell? _ _ hv)).trans hv)
 have OFB:=Lib.hid (fun wx (hb : Below w7.heap.size w7 wx)=>OF6.out wx (BD.out.trans (hb.mono BD.out.size)))
 have RDB:=Lib.hid (fun wx (hb : Below w7.heap.size w7 wx)=>RD6.out wx (BD.out.trans (hb.mono BD.out.size)))
 clear OF6 RD6
 go_cut [98] from 76 to 98 (fun s98 wx=>s98 = .bool qa ∧ Hid (Below w7.heap.size w7 wx))
 case first=>
  cases kn with
  | false=>
   simp only [Bool.false_and] at hqa
   subst hqa
   refine rea.grow_region 23 (rea.slotG 76 23 0) (fun jj=>(#[.bool false,.bool false,undef,undef,undef,undef,undef,.bool false,.bool false,undef,undef,undef,undef,undef,undef,undef,undef,undef,undef,undef,undef,undef,.bool false] : Array Value)[jj]?.getD undef) rfl (by kernel_rfl) rfl (fun i d hi h=>by have:=rea.slotG_is h;simp;omega) (fun i j d hi hj h1 h2=>by have:=rea.slotG_is h1;have:=rea.slotG_is h2;omega) ?_ rfl ?_
   ·rintro j o hj ho aa w1 hb ⟨hold,hdep⟩
    have r0:=OLD.out _ hb _ _ Q0.out.1
    have r2:=OLD.out _ hb _ _ Q0.out.2
    have o7:=hold 7 (fun i hi h=>by have:=rea.slotG_is h;omega)
    have o10:=hold 10 (fun i hi h=>by have:=rea.slotG_is h;omega)
    have o11:=hold 11 (fun i hi h=>by have:=rea.slotG_is h;omega)
    simp at o7 o10 o11
    have hjj : j = 0 ∨ j = 1 ∨ j = 2 ∨ j = 3 ∨ j = 4 ∨ j = 5 ∨ j = 6 ∨ j = 7 ∨ j = 8 ∨ j = 9 ∨ j = 10 ∨ j = 11 ∨ j = 12 ∨ j = 13 ∨ j = 14 ∨ j = 15 ∨ j = 16 ∨ j = 17 ∨ j = 18 ∨ j = 19 ∨ j = 20 ∨ j = 21 ∨ j = 22:=by omega
    rcases hjj with rfl | rfl | rfl | rfl | rfl | rfl | rfl | rfl | rfl | rfl | rfl | rfl | rfl | rfl | rfl | rfl | rfl | rfl | rfl | rfl | rfl | rfl | rfl
    all_goals (cases ho;simp [Region.binds,rea.slotG] at hdep;refine ⟨rfl,rfl,?_⟩)
    iterate 2 (· first | (refine .inl ⟨(by first | rfl | (simp [Region.wanted,yielded,hdep];done)),fun K hK=>?_⟩;unfold Oper.wp;simp [execOp,Oper.upon,go_sem,Act.eval,hdep,o7,o10,o11,r0,r2];exact hK _ bz0) | (refine .inl ⟨rfl,fun K hK=>?_⟩;unfold Oper.wp;simp [execOp,Oper.upon,go_sem,Act.eval,o7,o10,o11,r0,r2];exact hK _ bz0))
    iterate 5 (· exact .inr ⟨(by simp [Region.wanted,yielded,hdep,undef];done),rfl⟩)
    iterate 2 (· first | (refine .inl ⟨(by first | rfl | (simp [Region.wanted,yielded,hdep];done)),fun K hK=>?_⟩;unfold Oper.wp;simp [execOp,Oper.upon,go_sem,Act.eval,hdep,o7,o10,o11,r0,r2];exact hK _ bz0) | (refine .inl ⟨rfl,fun K hK=>?_⟩;unfold Oper.wp;simp [execOp,Oper.upon,go_sem,Act.eval,o7,o10,o11,r0,r2];exact hK _ bz0))
    iterate 13 (· exact .inr ⟨(by simp [Region.wanted,yielded,hdep,undef];done),rfl⟩)
    ·first | (refine .inl ⟨(by first | rfl | (simp [Region.wanted,yielded,hdep];done)),fun K hK=>?_⟩;unfold Oper.wp;simp [execOp,Oper.upon,go_sem,Act.eval,hdep,o7,o10,o11,r0,r2];exact hK _ bz0) | (refine .inl ⟨rfl,fun K hK=>?_⟩;unfold Oper.wp;simp [execOp,Oper.upon,go_sem,Act.eval,o7,o10,o11,r0,r2];exact hK _ bz0)
   rintro w8 hb8
   have HB8:=Lib.hid hb8
   clear hb8
   simp only [rea.setAll,rea.slotG]
   rw [show List.range 23 = [0,1,2,3,4,5,6,7,8,9,10,11,12,13,14,15,16,17,18,19,20,21,22] from rfl]
   simp (decide:=true) only [List.foldl_cons,List.foldl_nil,if_true,Nat.reduceAdd]
   simp (decide:=true) only [List.setIfInBounds_toArray,List.set_cons_succ,List.set_cons_zero,List.getElem?_toArray,List.getElem?_cons_succ,List.getElem?_cons_zero,Option.getD_some]
   go_wp2
   go_meet
   exact ⟨rfl,HB8⟩
  | true=>
   by_cases hr : rv = 1
   ·subst hr
    by_cases hq : at6 + rd6 = fn6
    ·subst hq
     have hd1 : decide (at6 + rd6 = at6 + rd6) = true:=decide_eq_true rfl
     have hb1 : (at6 + rd6 == at6 + rd6) = true:=beq_iff_eq.2 rfl
     simp only [hd1,Bool.true_and,decide_true] at hqa
     subst hqa
     refine rea.grow_region 23 (rea.slotG 76 23 0) (fun jj=>(#[.bool true,.bool true,.pointer (some ⟨ia.ib,0,none⟩),.pointer (some ⟨ia.ib,0,none⟩),.pointer (some ⟨ia.ib,2,none⟩),.int .i64 1,.bool true,.bool true,.bool true,.pointer (some ⟨ia.ib,0,none⟩),.pointer (some ⟨ia.ib,0,none⟩),.pointer (some ⟨ia.ib,0,none⟩),.pointer (some ⟨ia.rb,0,none⟩),.int .i64 at6,.pointer (some ⟨ia.ib,0,none⟩),.pointer (some ⟨ia.ib,0,none⟩),.pointer (some ⟨ia.ib,0,none⟩),.pointer (some ⟨ia.rb,0,none⟩),.int .i64 rd6,.int .i64 (at6 + rd6),.int .i64 (at6 + rd6),.bool true,.bool true] : Array Value)[jj]?.getD undef) rfl (by kernel_rfl) rfl (fun i d hi h=>by have:=rea.slotG_is h;simp;omega) (fun i j d hi hj h1 h2=>by have:=rea.slotG_is h1;have:=rea.slotG_is h2;omega) ?_ rfl ?_
     ·rintro j o hj ho aa w1 hb ⟨hold,hdep⟩
      have r0:=OLD.out _ hb _ _ Q0.out.1
      have r2:=OLD.out _ hb _ _ Q0.out.2
      have o7:=hold 7 (fun i hi h=>by have:=rea.slotG_is h;omega)
      have o10:=hold 10 (fun i hi h=>by have:=rea.slotG_is h;omega)
      have o11:=hold 11 (fun i hi h=>by have:=rea.slotG_is h;omega)
      simp at o7 o10 o11
      have hjj : j = 0 ∨ j = 1 ∨ j = 2 ∨ j = 3 ∨ j = 4 ∨ j = 5 ∨ j = 6 ∨ j = 7 ∨ j = 8 ∨ j = 9 ∨ j = 10 ∨ j = 11 ∨ j = 12 ∨ j = 13 ∨ j = 14 ∨ j = 15 ∨ j = 16 ∨ j = 17 ∨ j = 18 ∨ j = 19 ∨ j = 20 ∨ j = 21 ∨ j = 22:=by omega
      rcases hjj with rfl | rfl | rfl | rfl | rfl | rfl | rfl | rfl | rfl | rfl | rfl | rfl | rfl | rfl | rfl | rfl | rfl | rfl | rfl | rfl | rfl | rfl | rfl
      all_goals (cases ho;simp [Region.binds,rea.slotG] at hdep;refine ⟨rfl,rfl,?_⟩)
      iterate 13 (· first | (refine .inl ⟨(by first | rfl | (simp [Region.wanted,yielded,hdep];done)),fun K hK=>?_⟩;unfold Oper.wp;simp [execOp,Oper.upon,go_sem,Act.eval,hdep,o7,o10,o11,r0,r2,hws,hb1];exact hK _ bz0) | (refine .inl ⟨rfl,fun K hK=>?_⟩;unfold Oper.wp;simp [execOp,Oper.upon,go_sem,Act.eval,o7,o10,o11,r0,r2,hws,hb1];exact hK _ bz0))
      ·(refine .inl ⟨(by first | rfl | (simp [Region.wanted,yielded,hdep];done)),fun K hK=>?_⟩;unfold Oper.wp;simp [execOp,Oper.upon,resolve,invoke,go_sem,Act.eval,hdep,o7,o10,o11,r0,r2,hws,hb1];(refine (OFB.out _ hb).mono ?_;rintro e' w' ⟨rfl,hb'⟩;exact hK _ hb'))
      iterate 4 (· first | (refine .inl ⟨(by first | rfl | (simp [Region.wanted,yielded,hdep];done)),fun K hK=>?_⟩;unfold Oper.wp;simp [execOp,Oper.upon,go_sem,Act.eval,hdep,o7,o10,o11,r0,r2,hws,hb1];exact hK _ bz0) | (refine .inl ⟨rfl,fun K hK=>?_⟩;unfold Oper.wp;simp [execOp,Oper.upon,go_sem,Act.eval,o7,o10,o11,r0,r2,hws,hb1];exact hK _ bz0))
      ·(refine .inl ⟨(by first | rfl | (simp [Region.wanted,yielded,hdep];done)),fun K hK=>?_⟩;unfold Oper.wp;simp [execOp,Oper.upon,resolve,invoke,go_sem,Act.eval,hdep,o7,o10,o11,r0,r2,hws,hb1];(refine (RDB.out _ hb).mono ?_;rintro e' w' ⟨rfl,hb'⟩;exact hK _ hb'))
      iterate 4 (· first | (refine .inl ⟨(by first | rfl | (simp [Region.wanted,yielded,hdep];done)),fun K hK=>?_⟩;unfold Oper.wp;simp [execOp,Oper.upon,go_sem,Act.eval,hdep,o7,o10,o11,r0,r2,hws,hb1];exact hK _ bz0) | (refine .inl ⟨rfl,fun K hK=>?_⟩;unfold Oper.wp;simp [execOp,Oper.upon,go_sem,Act.eval,o7,o10,o11,r0,r2,hws,hb1];exact hK _ bz0))
     rintro w8 hb8
     have HB8:=Lib.hid hb8
     clear hb8
     simp only [rea.setAll,rea.slotG]
     rw [show List.range 23 = [0,1,2,3,4,5,6,7,8,9,10,11,12,13,14,15,16,17,18,19,20,21,22] from rfl]
     simp (decide:=true) only [List.foldl_cons,List.foldl_nil,if_true,Nat.reduceAdd]
     simp (decide:=true) only [List.setIfInBounds_toArray,List.set_cons_succ,List.set_cons_zero,List.getElem?_toArray,List.getElem?_cons_succ,List.getElem?_cons_zero,Option.getD_some]
     go_wp2
     go_meet
     exact ⟨rfl,HB8⟩
    ·have hd1 : decide (at6 + rd6 = fn6) = false:=decide_eq_false hq
     have hb1 : (at6 + rd6 == fn6) = false:=beq_eq_false_iff_ne.2 hq
     simp only [hd1,Bool.true_and,decide_true] at hqa
     subst hqa
     refine rea.grow_region 23 (rea.slotG 76 23 0) (fun jj=>(#[.bool true,.bool true,.pointer (some ⟨ia.ib,0,none⟩),.pointer (some ⟨ia.ib,0,none⟩),.pointer (some ⟨ia.ib,2,none⟩),.int .i64 1,.bool true,.bool true,.bool true,.pointer (some ⟨ia.ib,0,none⟩),.pointer (some ⟨ia.ib,0,none⟩),.pointer (some ⟨ia.ib,0,none⟩),.pointer (some ⟨ia.rb,0,none⟩),.int .i64 at6,.pointer (some ⟨ia.ib,0,none⟩),.pointer (some ⟨ia.ib,0,none⟩),.pointer (some ⟨ia.ib,0,none⟩),.pointer (some ⟨ia.rb,0,none⟩),.int .i64 rd6,.int .i64 (at6 + rd6),.int .i64 fn6,.bool false,.bool false] : Array Value)[jj]?.getD undef) rfl (by kernel_rfl) rfl (fun i d hi h=>by have:=rea.slotG_is h;simp;omega) (fun i j d hi hj h1 h2=>by have:=rea.slotG_is h1;have:=rea.slotG_is h2;omega) ?_ rfl ?_
     ·rintro j o hj ho aa w1 hb ⟨hold,hdep⟩
      have r0:=OLD.out _ hb _ _ Q0.out.1
      have r2:=OLD.out _ hb _ _ Q0.out.2
      have o7:=hold 7 (fun i hi h=>by have:=rea.slotG_is h;omega)
      have o10:=hold 10 (fun i hi h=>by have:=rea.slotG_is h;omega)
      have o11:=hold 11 (fun i hi h=>by have:=rea.slotG_is h;omega)
      simp at o7 o10 o11
      have hjj : j = 0 ∨ j = 1 ∨ j = 2 ∨ j = 3 ∨ j = 4 ∨ j = 5 ∨ j = 6 ∨ j = 7 ∨ j = 8 ∨ j = 9 ∨ j = 10 ∨ j = 11 ∨ j = 12 ∨ j = 13 ∨ j = 14 ∨ j = 15 ∨ j = 16 ∨ j = 17 ∨ j = 18 ∨ j = 19 ∨ j = 20 ∨ j = 21 ∨ j = 22:=by omega
      rcases hjj with rfl | rfl | rfl | rfl | rfl | rfl | rfl | rfl | rfl | rfl | rfl | rfl | rfl | rfl | rfl | rfl | rfl | rfl | rfl | rfl | rfl | rfl | rfl
      all_goals (cases ho;simp [Region.binds,rea.slotG] at hdep;refine ⟨rfl,rfl,?_⟩)
      iterate 13 (· first | (refine .inl ⟨(by first | rfl | (simp [Region.wanted,yielded,hdep];done)),fun K hK=>?_⟩;unfold Oper.wp;simp [execOp,Oper.upon,go_sem,Act.eval,hdep,o7,o10,o11,r0,r2,hws,hb1,hq];exact hK _ bz0) | (refine .inl ⟨rfl,fun K hK=>?_⟩;unfold Oper.wp;simp [execOp,Oper.upon,go_sem,Act.eval,o7,o10,o11,r0,r2,hws,hb1,hq];exact hK _ bz0))
      ·(refine .inl ⟨(by first | rfl | (simp [Region.wanted,yielded,hdep];done)),fun K hK=>?_⟩;unfold Oper.wp;simp [execOp,Oper.upon,resolve,invoke,go_sem,Act.eval,hdep,o7,o10,o11,r0,r2,hws,hb1,hq];(refine (OFB.out _ hb).mono ?_;rintro e' w' ⟨rfl,hb'⟩;exact hK _ hb'))
      iterate 4 (· first | (refine .inl ⟨(by first | rfl | (simp [Region.wanted,yielded,hdep];done)),fun K hK=>?_⟩;unfold Oper.wp;simp [execOp,Oper.upon,go_sem,Act.eval,hdep,o7,o10,o11,r0,r2,hws,hb1,hq];exact hK _ bz0) | (refine .inl ⟨rfl,fun K hK=>?_⟩;unfold Oper.wp;simp [execOp,Oper.upon,go_sem,Act.eval,o7,o10,o11,r0,r2,hws,hb1,hq];exact hK _ bz0))
      ·(refine .inl ⟨(by first | rfl | (simp [Region.wanted,yielded,hdep];done)),fun K hK=>?_⟩;unfold Oper.wp;simp [execOp,Oper.upon,resolve,invoke,go_sem,Act.eval,hdep,o7,o10,o11,r0,r2,hws,hb1,hq];(refine (RDB.out _ hb).mono ?_;rintro e' w' ⟨rfl,hb'⟩;exact hK _ hb'))
      iterate 4 (· first | (refine .inl ⟨(by first | rfl | (simp [Region.wanted,yielded,hdep];done)),fun K hK=>?_⟩;unfold Oper.wp;simp [execOp,Oper.upon,go_sem,Act.eval,hdep,o7,o10,o11,r0,r2,hws,hb1,hq];exact hK _ bz0) | (refine .inl ⟨rfl,fun K hK=>?_⟩;unfold Oper.wp;simp [execOp,Oper.upon,go_sem,Act.eval,o7,o10,o11,r0,r2,hws,hb1,hq];exact hK _ bz0))
     rintro w8 hb8
     have HB8:=Lib.hid hb8
     clear hb8
     simp only [rea.setAll,rea.slotG]
     rw [show List.range 23 = [0,1,2,3,4,5,6,7,8,9,10,11,12,13,14,15,16,17,18,19,20,21,22] from rfl]
     simp (decide:=true) only [List.foldl_cons,List.foldl_nil,if_true,Nat.reduceAdd]
     simp (decide:=true) only [List.setIfInBounds_toArray,List.set_cons_succ,List.set_cons_zero,List.getElem?_toArray,List.getElem?_cons_succ,List.getElem?_cons_zero,Option.getD_some]
     go_wp2
     go_meet
     exact ⟨rfl,HB8⟩
   ·have hd1 : decide (rv = 1) = false:=decide_eq_false hr
    have hb1 : (rv == 1) = false:=beq_eq_false_iff_ne.2 hr
    simp only [hd1,Bool.true_and,Bool.false_and] at hqa
    subst hqa
    refine rea.grow_region 23 (rea.slotG 76 23 0) (fun jj=>(#[.bool true,.bool true,.pointer (some ⟨ia.ib,0,none⟩),.pointer (some ⟨ia.ib,0,none⟩),.pointer (some ⟨ia.ib,2,none⟩),.int .i64 rv,.bool false,.bool false,.bool false,undef,undef,undef,undef,undef,undef,undef,undef,undef,undef,undef,undef,undef,.bool false] : Array Value)[jj]?.getD undef) rfl (by kernel_rfl) rfl (fun i d hi h=>by have:=rea.slotG_is h;simp;omega) (fun i j d hi hj h1 h2=>by have:=rea.slotG_is h1;have:=rea.slotG_is h2;omega) ?_ rfl ?_
    ·rintro j o hj ho aa w1 hb ⟨hold,hdep⟩
     have r0:=OLD.out _ hb _ _ Q0.out.1
     have r2:=OLD.out _ hb _ _ Q0.out.2
     have o7:=hold 7 (fun i hi h=>by have:=rea.slotG_is h;omega)
     have o10:=hold 10 (fun i hi h=>by have:=rea.slotG_is h;omega)
     have o11:=hold 11 (fun i hi h=>by have:=rea.slotG_is h;omega)
     simp at o7 o10 o11
     have hjj : j = 0 ∨ j = 1 ∨ j = 2 ∨ j = 3 ∨ j = 4 ∨ j = 5 ∨ j = 6 ∨ j = 7 ∨ j = 8 ∨ j = 9 ∨ j = 10 ∨ j = 11 ∨ j = 12 ∨ j = 13 ∨ j = 14 ∨ j = 15 ∨ j = 16 ∨ j = 17 ∨ j = 18 ∨ j = 19 ∨ j = 20 ∨ j = 21 ∨ j = 22:=by omega
     rcases hjj with rfl | rfl | rfl | rfl | rfl | rfl | rfl | rfl | rfl | rfl | rfl | rfl | rfl | rfl | rfl | rfl | rfl | rfl | rfl | rfl | rfl | rfl | rfl
     all_goals (cases ho;simp [Region.binds,rea.slotG] at hdep;refine ⟨rfl,rfl,?_⟩)
     iterate 9 (· first | (refine .inl ⟨(by first | rfl | (simp [Region.wanted,yielded,hdep];done)),fun K hK=>?_⟩;unfold Oper.wp;simp [execOp,Oper.upon,go_sem,Act.eval,hdep,o7,o10,o11,r0,r2,hb1,hr];exact hK _ bz0) | (refine .inl ⟨rfl,fun K hK=>?_⟩;unfold Oper.wp;simp [execOp,Oper.upon,go_sem,Act.eval,o7,o10,o11,r0,r2,hb1,hr];exact hK _ bz0))
     iterate 13 (· exact .inr ⟨(by simp [Region.wanted,yielded,hdep,undef];done),rfl⟩)
     ·first | (refine .inl ⟨(by first | rfl | (simp [Region.wanted,yielded,hdep];done)),fun K hK=>?_⟩;unfold Oper.wp;simp [execOp,Oper.upon,go_sem,Act.eval,hdep,o7,o10,o11,r0,r2,hb1,hr];exact hK _ bz0) | (refine .inl ⟨rfl,fun K hK=>?_⟩;unfold Oper.wp;simp [execOp,Oper.upon,go_sem,Act.eval,o7,o10,o11,r0,r2,hb1,hr];exact hK _ bz0)
    rintro w8 hb8
    have HB8:=Lib.hid hb8
    clear hb8
    simp only [rea.setAll,rea.slotG]
    rw [show List.range 23 = [0,1,2,3,4,5,6,7,8,9,10,11,12,13,14,15,16,17,18,19,20,21,22] from rfl]
    simp (decide:=true) only [List.foldl_cons,List.foldl_nil,if_true,Nat.reduceAdd]
    simp (decide:=true) only [List.setIfInBounds_toArray,List.set_cons_succ,List.set_cons_zero,List.getElem?_toArray,List.getElem?_cons_succ,List.getElem?_cons_zero,Option.getD_some]
    go_wp2
    go_meet
    exact ⟨rfl,HB8⟩
 case rest=>
 obtain ⟨rfl,G8⟩:=hcut
 generalize wc = w8 at *
 have M8:=Lib.hid ((G6.out.2.same BD.out).same G8.out)
 have ON7:=Lib.hid (onI_any G6.out.1 M8.out.mem 7)
 obtain ⟨i9,hi9⟩ : ∃ y,datI i f = y:=⟨_,rfl⟩
 have HI9:=Lib.hid hi9
 clear hi9 hqa hws OFB RDB OLD Q0
 unfold ptr at ON7
 go_upto_if 98 with fail
 go_cut [] from 99 to 101 (fun wx=>∃ Hx,Hid (InIn Hx ia i9 ∧ To W wx H5 Hx ia.foot ia.foot))
 case first=>
  have hdf : i9 = if qa then i6.on 7 else i6:=by rw [← HI9.out,← HQA.out,← HF6.out];rfl
  cases qa with
  | false=>
   have T0:=Lib.hid (show InIn H6 ia i9 ∧ To W w8 H5 H6 ia.foot ia.foot from by rw [hdf];exact ⟨G6.out.1,M8.out⟩)
   clear hdf
   go_wp2_with fail
   go_meet
   exact ⟨H6,T0⟩
  | true=>
   go_wp2_with (go_at_call 75;refine ON7.out.mono ?_;rintro e w9 ⟨rfl,H9,hO,hT⟩;have T9:=Lib.hid (show InIn H9 ia i9 ∧ To W w9 H5 H9 ia.foot ia.foot from by rw [hdf];exact ⟨hO,M8.out.trans hT⟩);clear hO hT)
   go_meet
   exact ⟨H9,T9⟩
 case rest=>
 obtain ⟨H9,G9⟩:=hcut
 generalize wc = w9 at *
 clear ON7
 have hk:=datI_keep i f
 rw [HI9.out] at hk
 have t3 : w9.cell? ⟨ia.ib,3,none⟩ = some (.bool i9.stp):=G9.out.1.facts G9.out.2.mem 3 rfl
 rw [hk.1] at t3
 obtain ⟨X9,TX9⟩:=P5.out.1.turnI (G5.out.2.1.trans HC.out.2.2.2.2.1) rfl G9.out.2 G9.out.1 rfl
 obtain ⟨SSX,TSX⟩:=G5.out.2.2.2.turnS (l1:=l1) (l2:=l2) G5.out.2.2.1.mem rfl TX9 X9 rfl rfl
 have TT:=(G4.out.1.trans G5.out.2.2.1).trans TSX
 have TK:=take_any SSX TSX.mem (l1:=l1) (l2:=l2) rfl rfl 8192 (by decide) (by rw [hk.2];exact HC.out.2.2.2.2.2)
 have R9:=Lib.hid (And.intro SSX TT)
 have e9 : xa5.xb = xa.xb:=G5.out.1
 have TK:=Lib.hid TK
 clear X9 TX9 SSX TSX TT hk
 cases hst : i.stp with
 | false=>
  rw [hst] at t3
  have hds : ∀ L,datS s i f L = cntS s i (datEnd f) L:=fun L=>by unfold datS;rw [hst];rfl
  have hdi : datI2 i f = i9:=by unfold datI2;rw [hst,← HI9.out];rfl
  have FIN:=Lib.hid (show ∃ H' xa',xa'.xb = xa.xb ∧ To W w9 H H' (s.foot a) (SetS.foot (datS s i f (l1 ++ (xa',{ x with inp:=some (datI2 i f) }) :: l2)) a) ∧ SetIn H' a (datS s i f (l1 ++ (xa',{ x with inp:=some (datI2 i f) }) :: l2)) from by
   rw [hdi]
   refine ⟨H9,{ xa5 with i:=some ia },e9,?_,?_⟩
   ·rw [hds];exact R9.out.2
   ·rw [hds];exact R9.out.1)
  clear hst hds hdi
  go_wp2_with fail
  go_ret
  exact ⟨rfl,FIN.out⟩
 | true=>
  rw [hst] at t3
  have hdi : datI2 i f = takeI i9 8192:=by unfold datI2;rw [hst,← HI9.out];rfl
  have hds : ∀ L,datS s i f L = { cntS s i (datEnd f) L with wn:=(cntS s i (datEnd f) L).wn.read (rdN i9.R 8192) }:=fun L=>by unfold datS;rw [hst,← HI9.out];rfl
  have HD:=Lib.hid (And.intro hdi hds)
  have TK2 : Hid (Calls Tryz.prog 76 #[ptr a.sb,ptr xa.xb,.int .i64 8192] w9 fun e w'=>∃ t en,e = .returned (.tuple #[.string t,.bool en]) ∧ ∃ H' xa',xa'.xb = xa.xb ∧ To W w' H H' (s.foot a) (SetS.foot (datS s i f (l1 ++ (xa',{ x with inp:=some (datI2 i f) }) :: l2)) a) ∧ SetIn H' a (datS s i f (l1 ++ (xa',{ x with inp:=some (datI2 i f) }) :: l2))):=Lib.hid (by
   rw [← e9]
   refine TK.out.mono ?_
   rintro e w' ⟨rfl,H',xa',q1,q2,q3,q4⟩
   refine ⟨_,_,rfl,H',xa',q1,?_,?_⟩
   ·rw [HD.out.1,HD.out.2];exact R9.out.2.trans q3
   ·rw [HD.out.1,HD.out.2];exact q4)
  clear hst hdi hds TK
  unfold ptr at TK2
  go_wp2_with (go_at_call 76;refine TK2.out.mono ?_;rintro e wx ⟨tt,en,rfl,hh⟩;have FX:=Lib.hid hh;clear hh)
  go_ret
  exact ⟨rfl,FX.out⟩
end
end
section
open Go.RowKit
section
variable {W w w' : World} {H H' : Nat → Option Obj} {a : SetA} {s : SetS}
end
end
section
open Go.RowKit Go.Maps
def hnV (snd : Bool) (f : Nat) : Value:=.agg #[.bool snd,.func (.func f) #[] #[]]
def hnD0 : DataW Value:=.map []
def hnD1 : DataW Value:=hnD0.put (.int .i64 8) (.held (hnV false 138))
def hnD2 : DataW Value:=hnD1.put (.int .i64 4) (.held (hnV false 139))
def hnD3 : DataW Value:=hnD2.put (.int .i64 5) (.held (hnV true 140))
def hnD4 : DataW Value:=hnD3.put (.int .i64 17) (.held (hnV true 141))
def hnD5 : DataW Value:=hnD4.put (.int .i64 21) (.held (hnV false 142))
theorem handlers_any (w : World) : Calls Tryz.prog 70 #[] w fun e w'=>∃ M,e = .returned (.map (some M)) ∧ frm.MapAt w' 3 M 5 hnD5 ∧ Below w.heap.size w w' ∧ w.heap.size ≤ M:=by
 have hm0 : frm.MapAt (w.alloc (.map #[] 0)) 3 w.heap.size 0 hnD0:=frm.MapAt.made w 3
 have hb0:=(Below.refl _ w).alloc (Nat.le_refl _) (.map #[] 0)
 obtain ⟨w1,hr1,hm1,hg1⟩:=hm0.put (t:=148) (e:=146) (Maps.int_keyed Tryz.underlying3) Tryz.underlying148 (by decide) (hnV false 138) (kl:=.int .i64 8) (Maps.keyOf_int_mk Tryz.underlying3 (show (Lit.int .i64 8).wf = true by decide))
 have hb1:=hb0.grown hg1 hb0.size (fun k e=>by cases e;exact Nat.le_refl _)
 obtain ⟨w2,hr2,hm2,hg2⟩:=hm1.put (t:=148) (e:=146) (Maps.int_keyed Tryz.underlying3) Tryz.underlying148 (by decide) (hnV false 139) (kl:=.int .i64 4) (Maps.keyOf_int_mk Tryz.underlying3 (show (Lit.int .i64 4).wf = true by decide))
 have hb2:=hb1.grown hg2 hb1.size (fun k e=>by cases e;exact Nat.le_refl _)
 obtain ⟨w3,hr3,hm3,hg3⟩:=hm2.put (t:=148) (e:=146) (Maps.int_keyed Tryz.underlying3) Tryz.underlying148 (by decide) (hnV true 140) (kl:=.int .i64 5) (Maps.keyOf_int_mk Tryz.underlying3 (show (Lit.int .i64 5).wf = true by decide))
 have hb3:=hb2.grown hg3 hb2.size (fun k e=>by cases e;exact Nat.le_refl _)
 obtain ⟨w4,hr4,hm4,hg4⟩:=hm3.put (t:=148) (e:=146) (Maps.int_keyed Tryz.underlying3) Tryz.underlying148 (by decide) (hnV true 141) (kl:=.int .i64 17) (Maps.keyOf_int_mk Tryz.underlying3 (show (Lit.int .i64 17).wf = true by decide))
 have hb4:=hb3.grown hg4 hb3.size (fun k e=>by cases e;exact Nat.le_refl _)
 obtain ⟨w5,hr5,hm5,hg5⟩:=hm4.put (t:=148) (e:=146) (Maps.int_keyed Tryz.underlying3) Tryz.underlying148 (by decide) (hnV false 142) (kl:=.int .i64 21) (Maps.keyOf_int_mk Tryz.underlying3 (show (Lit.int .i64 21).wf = true by decide))
 have hb5:=hb4.grown hg5 hb4.size (fun k e=>by cases e;exact Nat.le_refl _)
 have HM:=Lib.hid (And.intro hm5 hb5)
 have hmm:=@run_makeMap Tryz.prog
 clear hm0 hm1 hm2 hm3 hm4 hm5 hg1 hg2 hg3 hg4 hg5 hb0 hb1 hb2 hb3 hb4 hb5
 unfold hnV at *
 go_enter Tryz.func70,Tryz.ntmps70
 go_wp2_with fail
 go_ret
 exact ⟨_,rfl,HM.out.1,HM.out.2,Nat.le_refl _⟩
end
end Go.Proofs.YthckbmcmdcemkaaGreatDoor.stm
