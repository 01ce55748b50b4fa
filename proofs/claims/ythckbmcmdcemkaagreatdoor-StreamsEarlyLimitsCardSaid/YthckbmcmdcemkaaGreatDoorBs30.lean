/- Texts of this claim, one behind the other: Nq. -/
import Derived.Test.YthckbmcmdcemkaaGreatDoorBs29
import Derived.Test.YthckbmcmdcemkaaGreatDoorBs28
import Derived.Test.YthckbmcmdcemkaaGreatDoorBs25
import Derived.Deep.CutRange
set_option maxRecDepth 100000
set_option maxHeartbeats 16000000
set_option linter.unusedSimpArgs false
set_option linter.unusedVariables false
namespace Go.Proofs.YthckbmcmdcemkaaGreatDoor.stm
section
open Go.RowKit
open frm (FrV)
section
variable {W w w' : World} {H : Nat → Option Obj} {a : SetA} {s s' : SetS} {bb : Nat} {v : Value} {b : Bat}
theorem serve_no1 (hm : Mem W w H) (h : SB H a s bb v b) {l1 l2 : List (StA × Strm)} {xa : StA} {x : Strm} (hl : s.ss = l1 ++ (xa,x) :: l2) (hno : (outAct x.out && decide (32 ≤ b.lf)) = false) :
  Calls Tryz.prog 66 #[ptr a.sb,ptr xa.xb,ptr bb] w fun e w'=>e = .returned (.bool false) ∧ w = w':=by
 have he : (xa,x) ∈ s.ss:=by rw [hl];simp
 have hst : StIn H xa x:=h.st.li.all _ he
 obtain ⟨po,hpo⟩ : ∃ po,optP (xa.o.map (·.ob)) = po:=⟨_,rfl⟩
 have cx1 : w.cell? ⟨xa.xb,1,none⟩ = some po:=by rw [← hpo];exact hst.c1 hm
 have AC:=Lib.hid (active_any hst.o hm)
 have cl : w.cell? ⟨bb,1,none⟩ = some (.int .i64 b.lf):=at_whole (hm.at h.bt.bb) 1 rfl
 rw [hpo] at AC
 obtain ⟨ac,hac⟩ : ∃ ac,outAct x.out = ac:=⟨_,rfl⟩
 rw [hac] at AC hno
 clear hm h hl he hst hpo hac
 unfold ptr
 cases ac with
 | false=>
  clear hno
  go_enter Tryz.func66,Tryz.ntmps66
  go_wp2_with (go_at_call 59;refine AC.out.mono ?_;rintro e wv ⟨rfl,rfl⟩)
  go_returns
  exact ⟨rfl,rfl⟩
 | true=>
  have hlt : b.lf < 32:=by simp at hno;omega
  clear hno
  go_enter Tryz.func66,Tryz.ntmps66
  go_wp2_with (go_at_call 59;refine AC.out.mono ?_;rintro e wv ⟨rfl,rfl⟩)
  go_returns
  exact ⟨rfl,rfl⟩
theorem OutIn.snd {oa : OutA} {o : OutP} (h : OutIn H oa o) (hm : Mem W w H) : SndAt w oa.cb o.cr:=hm.at h.cb
theorem SetIn.snd (h : SetIn H a s) (hm : Mem W w H) : SndAt w a.cb s.cr:=hm.at h.cb
def srvR (s : SetS) (x : Strm) (o : OutP) (b : Bat) : Option (Nat × Nat) → Bool × Strm × Snd × Int × Bat
 | none=>(false,x,s.cr,s.srv,b)
 | some p=>(b.fits (srvF x.id o p),{ x with out:=some (srvO o p) },{ s.cr with used:=s.cr.used + srvN o p },x.id,b.add (srvF x.id o p))
theorem To.side {w1 w2 : World} {H1 H2 : Nat → Option Obj} {f f' g g' : Nat → Prop} (T : To W w1 H H1 f f') (T2 : To W w2 H1 H2 g g') (hg : ∀ k,g k → H k = none) : To W w2 H H2 f f':=
 ⟨T2.mem,fun k o e hn=>T2.kp k o (T.kp k o e hn) (fun c=>by rw [hg k c] at e;cases e),T.nw⟩
structure Sv (W w' : World) (H H' : Nat → Option Obj) (a : SetA) (s s' : SetS) (bb : Nat) (v : Value) (b : Bat) (fb : Nat) (F : Fr) : Prop where
 tt : To W w' H H' (sbF s a bb v) (sbF s' a bb v)
 sb : SB H' a s' bb v b
 fh : H' fb = some (.cells F.cells 38 (0,0))
 nf : ¬ sbF s' a bb v fb
 nh : H fb = none
section
variable {w1 w2 : World} {H1 H2 : Nat → Option Obj} {s1 s2 : SetS} {fb : Nat} {F F' : Fr}
theorem Sv.start (hm : Mem W w H) (h : SB H a s bb v b) (hB : SB H1 a s1 bb v b) (T : To W w1 H H1 (sbF s a bb v) (sbF s1 a bb v)) (hfb : w1.heap[fb]? = some (.cells F.cells 38 (0,0))) (hk : w.heap.size ≤ fb) : Sv W w1 H (full W w1) a s s1 bb v b fb F:=by
 have hW : W.heap.size ≤ fb:=Nat.le_trans hm.below.size hk
 have hf:=full_is (W:=W) hfb hW
 refine ⟨T.full,hB.full T.mem,hf,fun c=>?_,hm.fresh hk⟩
 rcases c with c | c
 ·exact (hB.full T.mem).st.no38 hf c
 ·obtain ⟨o,ho⟩:=h.bt.dom c
  have:=hm.lt ho
  omega
theorem Sv.next (h : Sv W w1 H H1 a s s1 bb v b fb F) (T : To W w2 H1 H2 (s1.foot a) (s2.foot a)) (hs : SetIn H2 a s2) : Sv W w2 H H2 a s s2 bb v b fb F:=by
 obtain ⟨q1,q2⟩:=h.sb.turnS T hs
 refine ⟨h.tt.trans q2,q1,T.kp _ _ h.fh (fun c=>h.nf (.inl c)),fun c=>?_,h.nh⟩
 rcases q2.nw _ c with c | c
 ·exact h.nf c
 ·rw [h.fh] at c;cases c
theorem Sv.same (h : Sv W w1 H H1 a s s1 bb v b fb F) (hb : Below w1.heap.size w1 w2) : Sv W w2 H H1 a s s1 bb v b fb F:=⟨h.tt.same hb,h.sb,h.fh,h.nf,h.nh⟩
theorem Sv.drew (h : Sv W w1 H H1 a s s1 bb v b fb F) : Sv W w1.drew H H1 a s s1 bb v b fb F:=h.same (Below.refl _ w1).drew
theorem Sv.mem (h : Sv W w1 H H1 a s s1 bb v b fb F) : Mem W w1 H1:=h.tt.mem
theorem Sv.fld (h : Sv W w1 H H1 a s s1 bb v b fb F) (i : Nat) (y : Value) (hc : F.cells.setIfInBounds i y = F'.cells) : ∃ H2,Sv W (w1.setCell ⟨fb,i,none⟩ y) H H2 a s s1 bb v b fb F':=by
 obtain ⟨H2,T,e⟩:=To.set h.mem h.fh i y
 rw [hc] at e
 exact ⟨H2,h.tt.side T (fun k hk=>by rw [hk];exact h.nh),h.sb.keep (fun k o hk e=>T.kp k o e (fun c=>h.nf (c ▸ hk))),e,h.nf,h.nh⟩
theorem Sv.out (h : Sv W w1 H H1 a s s1 bb v b fb F) {l1 l2 : List (StA × Strm)} {xa : StA} {x : Strm} {oa : OutA} {o o' : OutP} (hl : s1.ss = l1 ++ (xa,x) :: l2) (ho : xa.o = some oa) (hxo : x.out = some o) (T : To W w2 H1 H2 oa.foot oa.foot) (hO : OutIn H2 oa o') :
  Sv W w2 H H2 a s { s1 with ss:=l1 ++ (xa,{ x with out:=some o' }) :: l2 } bb v b fb F:=by
 have he : (xa,x) ∈ s1.ss:=by rw [hl];simp
 obtain ⟨X,T2⟩:=(h.sb.st.li.all _ he).turnO ho hxo T hO rfl
 rw [StA.eqO ho] at X T2
 obtain ⟨S,T3⟩:=h.sb.st.turnS h.mem hl T2 X rfl rfl
 exact h.next T3 S
theorem Sv.outC (h : Sv W w1 H H1 a s s1 bb v b fb F) {l1 l2 : List (StA × Strm)} {xa : StA} {x : Strm} {oa : OutA} {o : OutP} (hl : s1.ss = l1 ++ (xa,x) :: l2) (ho : xa.o = some oa) (hxo : x.out = some o) {c : Snd} (hB : Blk oa.cb c.cells 161 w1 w2) (hc : c.Ok) :
  ∃ H2,Sv W w2 H H2 a s { s1 with ss:=l1 ++ (xa,{ x with out:=some { o with cr:=c } }) :: l2 } bb v b fb F:=by
 obtain ⟨_,oa',e1,hO⟩:=h.sb.outAt hl hxo
 rw [ho] at e1;cases e1
 obtain ⟨H2,O,T⟩:=hO.setC h.mem hB hc
 exact ⟨H2,h.out hl ho hxo T O⟩
theorem Sv.setC (h : Sv W w1 H H1 a s s1 bb v b fb F) {c : Snd} (hB : Blk a.cb c.cells 161 w1 w2) (hc : c.Ok) : ∃ H2,Sv W w2 H H2 a s { s1 with cr:=c } bb v b fb F:=by
 obtain ⟨H2,S,T⟩:=h.sb.st.setC h.mem hB hc
 exact ⟨H2,h.next T S⟩
theorem Sv.setSrv (h : Sv W w1 H H1 a s s1 bb v b fb F) (y : Int) : ∃ H2,Sv W (w1.setCell ⟨a.sb,34,none⟩ (.int .i64 y)) H H2 a s { s1 with srv:=y } bb v b fb F:=by
 obtain ⟨H2,S,T⟩:=h.sb.st.set h.mem (s':={ s1 with srv:=y }) 34 (.int .i64 y) rfl rfl rfl rfl
 exact ⟨H2,h.next T S⟩
theorem Sv.fin (h : Sv W w1 H H1 a s s1 bb v b fb F) {v' : Value} {b' : Bat} (t : BatTo W w1 w2 H1 H2 bb v v' b') : To W w2 H H2 (sbF s a bb v) (sbF s1 a bb v') ∧ SB H2 a s1 bb v' b':=by
 obtain ⟨q1,q2⟩:=h.sb.turnB t.tt t.bt
 exact ⟨h.tt.trans q2,q1⟩
theorem Snd.Ok.use {c : Snd} (h : c.Ok) {n : Int} (h0 : 0 ≤ n) (h1 : n ≤ c.av) : ({ c with used:=c.used + n } : Snd).Ok:=by
 unfold Snd.av at h1
 exact ⟨by have:=h.u0;simp only;omega,by simp only;omega,h.mm⟩
theorem Sv.useO (h : Sv W w1 H H1 a s s1 bb v b fb F) {l1 l2 : List (StA × Strm)} {xa : StA} {x : Strm} {oa : OutA} {o : OutP} (hl : s1.ss = l1 ++ (xa,x) :: l2) (ho : xa.o = some oa) (hxo : x.out = some o) {n : Int} (h0 : 0 ≤ n) (h1 : n ≤ o.cr.av) :
  Calls Tryz.prog 136 #[ptr oa.cb,.int .i64 n] w1 fun e w2=>e = .returned (.int .i64 0) ∧ ∃ H2,Sv W w2 H H2 a s { s1 with ss:=l1 ++ (xa,{ x with out:=some { o with cr:={ o.cr with used:=o.cr.used + n } } }) :: l2 } bb v b fb F:=by
 obtain ⟨_,oa',e1,hO⟩:=h.sb.outAt hl hxo
 rw [ho] at e1;cases e1
 refine (use_ok oa.cb o.cr n w1 (hO.snd h.mem) hO.cr h0 h1).mono ?_
 rintro e w2 ⟨rfl,hB⟩
 exact ⟨rfl,h.outC hl ho hxo hB (hO.cr.use h0 h1)⟩
theorem Sv.useS (h : Sv W w1 H H1 a s s1 bb v b fb F) {n : Int} (h0 : 0 ≤ n) (h1 : n ≤ s1.cr.av) :
  Calls Tryz.prog 136 #[ptr a.cb,.int .i64 n] w1 fun e w2=>e = .returned (.int .i64 0) ∧ ∃ H2,Sv W w2 H H2 a s { s1 with cr:={ s1.cr with used:=s1.cr.used + n } } bb v b fb F:=by
 refine (use_ok a.cb s1.cr n w1 (h.sb.st.snd h.mem) h.sb.st.cr h0 h1).mono ?_
 rintro e w2 ⟨rfl,hB⟩
 exact ⟨rfl,h.setC hB (h.sb.st.cr.use h0 h1)⟩
theorem Sv.onO (h : Sv W w1 H H1 a s s1 bb v b fb F) {l1 l2 : List (StA × Strm)} {xa : StA} {x : Strm} {oa : OutA} {o : OutP} (hl : s1.ss = l1 ++ (xa,x) :: l2) (ho : xa.o = some oa) (hxo : x.out = some o) (n : Int) :
  Calls Tryz.prog 86 #[ptr oa.ob,.int .i64 n] w1 fun e w2=>e = .returned (.tuple #[]) ∧ ∃ H2,Sv W w2 H H2 a s { s1 with ss:=l1 ++ (xa,{ x with out:=some (o.on n) }) :: l2 } bb v b fb F:=by
 obtain ⟨_,oa',e1,hO⟩:=h.sb.outAt hl hxo
 rw [ho] at e1;cases e1
 refine (onO_any hO h.mem n).mono ?_
 rintro e w2 ⟨rfl,H2,O,T⟩
 exact ⟨rfl,H2,h.out hl ho hxo T O⟩
theorem Sv.sentO (h : Sv W w1 H H1 a s s1 bb v b fb F) {l1 l2 : List (StA × Strm)} {xa : StA} {x : Strm} {oa : OutA} {o : OutP} (hl : s1.ss = l1 ++ (xa,x) :: l2) (ho : xa.o = some oa) (hxo : x.out = some o) :
  Calls Tryz.prog 129 #[ptr oa.bb] w1 fun e w2=>e = .returned (.int .i64 o.X.sent) ∧ w2 = w1:=by
 obtain ⟨_,oa',e1,hO⟩:=h.sb.outAt hl hxo
 rw [ho] at e1;cases e1
 exact (sentO_any hO h.mem).mono fun _ _ h=>⟨h.1,h.2.symm⟩
theorem Sv.add (h : Sv W w1 H H1 a s s1 bb v b fb F) (hv : FrV F) (hk : b.Ok) :
  Calls Tryz.prog 130 #[ptr bb,F.val] w1 fun e w2=>e = .returned (.bool (b.fits F)) ∧ ∃ H2 v',To W w2 H H2 (sbF s a bb v) (sbF s1 a bb v') ∧ SB H2 a s1 bb v' (b.add F):=by
 refine (add_any h.mem h.sb.bt F hv ⟨hk.l0,hk.l1⟩ (by have:=hk.n;omega)).mono ?_
 rintro e w2 ⟨rfl,H2,v',t⟩
 exact ⟨rfl,H2,v',h.fin t⟩
theorem Sv.cells (h : Sv W w1 H H1 a s s1 bb v b fb F) {l1 l2 : List (StA × Strm)} {xa : StA} {x : Strm} {oa : OutA} {o : OutP} (hl : s1.ss = l1 ++ (xa,x) :: l2) (ho : xa.o = some oa) (hxo : x.out = some o) :
  w1.cell? ⟨oa.ob,0,none⟩ = some (.pointer (some ⟨oa.bb,0,none⟩)) ∧ w1.cell? ⟨oa.ob,1,none⟩ = some (.pointer (some ⟨oa.cb,0,none⟩)) ∧ w1.cell? ⟨a.sb,30,none⟩ = some (.pointer (some ⟨a.cb,0,none⟩)) ∧ w1.cell? ⟨xa.xb,0,none⟩ = some (.int .i64 x.id) ∧
   w1.cell? ⟨a.sb,34,none⟩ = some (.int .i64 s1.srv) ∧ w1.frozen? ⟨a.sb,34,none⟩ = false ∧ w1.heap[fb]? = some (.cells F.cells 38 (0,0)) ∧ w1.cell? ⟨fb,4,none⟩ = some (.bool F.fin):=by
 obtain ⟨hst,oa',e1,hO⟩:=h.sb.outAt hl hxo
 rw [ho] at e1;cases e1
 have hs:=h.mem.at h.sb.st.sb
 exact ⟨hO.facts h.mem 0 rfl,hO.facts h.mem 1 rfl,at_whole hs 30 rfl,hst.c0 h.mem,at_whole hs 34 rfl,frozen_whole hs 34,h.mem.at h.fh,at_whole (h.mem.at h.fh) 4 rfl⟩
end
structure WE (w : World) (bf : Nat → Prop) (bb : Nat) (B' : Bf) (Fc : Array Value) (fb : Nat) (w1 : World) : Prop where
 chg : Chg bf w w1
 inv : Inv w1 bb (Ext bf w w1) B'
 f0 : w.heap.size ≤ fb
 fh : w1.heap[fb]? = some (.cells Fc 38 (0,0))
theorem WS.done {w w1 : World} {bf : Nat → Prop} {bb : Nat} {B' : Bf} {Fc : Array Value} {fb : Nat} {L : Nat → Bool} (h : WS w bf bb B' Fc fb L w1) (h1 : L 21 = true) (h2 : L 25 = true) (h3 : L 26 = true) : WE w bf bb B' Fc fb w1:=by
 obtain ⟨q1,q2⟩:=h.post h1
 obtain ⟨q3,q4⟩:=h.al h2
 rw [h3] at q4
 exact ⟨q1,q2,q3,q4⟩
end
end
end Go.Proofs.YthckbmcmdcemkaaGreatDoor.stm
