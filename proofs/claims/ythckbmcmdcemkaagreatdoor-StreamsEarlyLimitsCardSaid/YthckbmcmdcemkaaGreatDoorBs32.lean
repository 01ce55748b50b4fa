/- Texts of this claim, one behind the other: Nqa Nqb Oh. -/
import Derived.Test.YthckbmcmdcemkaaGreatDoorBs30
import Derived.Test.YthckbmcmdcemkaaGreatDoorBs29
import Derived.Test.YthckbmcmdcemkaaGreatDoorBs31
import Derived.Test.YthckbmcmdcemkaaGreatDoorBs14
import Derived.OwnWalkIn
set_option maxRecDepth 100000
set_option maxHeartbeats 16000000
set_option linter.unusedSimpArgs false
set_option linter.unusedVariables false
namespace Go.Proofs.YthckbmcmdcemkaaGreatDoor.stm
section
open Go.RowKit
section
variable {W w w' : World} {H : Nat → Option Obj} {a : SetA} {s s' : SetS} {bb : Nat} {v : Value} {b : Bat}
theorem serve_next (hm : Mem W w H) (h : SB H a s bb v b) (hk : b.Ok) (hn : b.fs.length + 1 ≤ 90000) {l1 l2 : List (StA × Strm)} {xa : StA} {x : Strm} {o : OutP} (hl : s.ss = l1 ++ (xa,x) :: l2) (hxo : x.out = some o) (hac : o.act = true) (hlf : 32 ≤ b.lf) (hsu : (o.X.sent : Int) ≤ o.cr.used) :
  Calls Tryz.prog 66 #[ptr a.sb,ptr xa.xb,ptr bb] w fun e w'=>e = .returned (.bool (srvR s x o b (srvP s.cr o b)).1) ∧ ∃ H' xa' v',xa'.xb = xa.xb ∧
   To W w' H H' (sbF s a bb v) (sbF { s with ss:=l1 ++ (xa',(srvR s x o b (srvP s.cr o b)).2.1) :: l2,cr:=(srvR s x o b (srvP s.cr o b)).2.2.1,srv:=(srvR s x o b (srvP s.cr o b)).2.2.2.1 } a bb v') ∧
   SB H' a { s with ss:=l1 ++ (xa',(srvR s x o b (srvP s.cr o b)).2.1) :: l2,cr:=(srvR s x o b (srvP s.cr o b)).2.2.1,srv:=(srvR s x o b (srvP s.cr o b)).2.2.2.1 } bb v' (srvR s x o b (srvP s.cr o b)).2.2.2.2:=by
 obtain ⟨hst,oa,hoa,hO⟩:=h.outAt hl hxo
 have hid : x.id < 1152921504606846976:=h.st.li.bd (xa,x) (by rw [hl];simp)
 have cx1 : w.cell? ⟨xa.xb,1,none⟩ = some (.pointer (some ⟨oa.ob,0,none⟩)):=by rw [hst.c1 hm,hoa];rfl
 have AC:=Lib.hid (active_any hst.o hm)
 have cl : w.cell? ⟨bb,1,none⟩ = some (.int .i64 b.lf):=at_whole (hm.at h.bt.bb) 1 rfl
 have c0 : w.cell? ⟨oa.ob,0,none⟩ = some (.pointer (some ⟨oa.bb,0,none⟩)):=hO.facts hm 0 rfl
 have SE:=Lib.hid (sentO_any hO hm)
 rw [hoa,hxo] at AC
 rw [show outAct (some o) = o.act from rfl,hac] at AC
 have hX:=hO.bf.1
 have AV1:=Lib.hid (fun (wx : World) (hb : wx.heap[a.cb]? = some (.cells s.cr.cells 161 (0,0)))=>avail_any a.cb s.cr wx hb h.st.cr)
 have AV2:=Lib.hid (fun (wx : World) (hb : wx.heap[oa.cb]? = some (.cells o.cr.cells 161 (0,0)))=>avail_any oa.cb o.cr wx hb hO.cr)
 obtain ⟨P,hP⟩ : ∃ P,srvP s.cr o b = P:=⟨_,rfl⟩
 rw [hP]
 have SK : Hid (∀ p,P = some p → SrvOk s.cr o b p):=Lib.hid (fun p hp=>srv_ok hX h.st.cr hO.cr hlf (hP.trans hp))
 have hXn : (o.X.nextX P).Ok:=by rw [← hP];exact Wh.Ok.next hX _ _
 have HXN:=Lib.hid (And.intro hXn hsu)
 clear hXn hsu
 obtain ⟨ok,hok⟩ : ∃ ok,P.isSome = ok:=⟨_,rfl⟩
 obtain ⟨RR,hRR⟩ : ∃ RR,srvR s x o b P = RR:=⟨_,rfl⟩
 rw [hRR]
 have HRR:=Lib.hid hRR
 clear hRR
 obtain ⟨Fc,hFc⟩ : ∃ Fc,(o.X.nextR P).cells = Fc:=⟨_,rfl⟩
 obtain ⟨qm,hqm⟩ : ∃ q,srvMost b = q:=⟨_,rfl⟩
 obtain ⟨qc,hqc⟩ : ∃ q,srvCred s.cr o = q:=⟨_,rfl⟩
 have NX:=Lib.hid (fun wx (hb : Below w.heap.size w wx)=>(next_any oa.bb oa.bf o.X.buf qm qc wx (hO.bf.inv (hm.same hb)) hX.good).mono (fun e w' hh=>(show e = .returned (.tuple #[.agg Fc,.bool ok]) ∧ Chg oa.bf wx w' ∧ Inv w' oa.bb (Ext oa.bf wx w') (o.X.nextX P).buf from by
  obtain ⟨q1,q2,q3⟩:=hh
  have hp2 : o.X.nextP qm qc = P:=by rw [← hqm,← hqc];exact hP
  rw [Wh.nextX_buf hX,hp2] at q3
  unfold nextE at q1
  rw [Wh.nextR_buf hX,Wh.isSome_buf hX,hp2,hok] at q1
  rw [← hFc]
  exact ⟨q1,q2,q3⟩)))
 have KB : Hid (w.heap[oa.ob]? = some (.cells (o.cells oa) 126 (0,0)) ∧ ¬ oa.bf oa.ob ∧ w.heap[bb]? = some (.cells #[v,.int .i64 b.lf] 134 (0,0)) ∧ ¬ oa.bf bb ∧ w.heap[a.sb]? = some (.cells (s.cells a) 115 (0,0)) ∧ ¬ oa.bf a.sb ∧ w.heap[a.cb]? = some (.cells s.cr.cells 161 (0,0)) ∧ ¬ oa.bf a.cb ∧ w.heap[oa.cb]? = some (.cells o.cr.cells 161 (0,0)) ∧ ¬ oa.bf oa.cb ∧ ∀ k,oa.bf k → k < w.heap.size):=Lib.hid (by
  have he : (xa,x) ∈ s.ss:=by rw [hl];simp
  have hf : ∀ k,oa.bf k → xa.foot k:=fun k hk=>.inr (.inl (by rw [hoa];exact .inr (.inl hk)))
  refine ⟨hm.at hO.ob,fun c=>hO.ob_ne _ (.inl c) rfl,hm.at h.bt.bb,fun c=>h.dj _ (.inr ⟨_,he,hf _ c⟩) (.inl rfl),hm.at h.st.sb,fun c=>(h.st.far he (hf _ c)).1 rfl,hm.at h.st.cb,fun c=>(h.st.far he (hf _ c)).2.2.1 rfl,hm.at hO.cb,fun c=>hO.cb_ne _ (.inr (.inl c)) rfl,fun k hk=>?_⟩
  obtain ⟨q,hq⟩:=hO.bf.dom hk
  exact hm.lt hq)
 have F1 : Hid (Fc.all (·.oneCell') = true ∧ Fc.size = 13):=Lib.hid (by
  rw [← hFc]
  refine ⟨?_,rfl⟩
  cases P <;> simp [Wh.nextR,Wh.frameR,mkFr,fr0,Fr.cells,Value.oneCell'])
 have HH:=Lib.hid (And.intro hm (And.intro h (And.intro hl (And.intro hst (And.intro hO (And.intro hoa (And.intro hid hxo)))))))
 have HK:=Lib.hid (And.intro hk (And.intro hn (And.intro hP (And.intro hok hFc))))
 have hbl : -1152921504606846976 ≤ b.lf ∧ b.lf ≤ 1152921504606846976:=⟨hk.l0,hk.l1⟩
 have g32 : (b.lf < 32) = False:=eq_false (by omega)
 have w20 : IntKind.i64.wrap (b.lf - 20) = b.lf - 20:=IntWalk.i64_in _ (by omega)
 have m1 : (if 1024 < b.lf - 20 then (1024 : Int) else b.lf - 20) = qm:=by rw [← hqm];unfold srvMost;split <;> omega
 have m1' : (if b.lf - 20 < 1024 then b.lf - 20 else (1024 : Int)) = qm:=by rw [← hqm];unfold srvMost;split <;> omega
 have m2 : (if o.cr.av < s.cr.av then o.cr.av else s.cr.av) = qc:=by rw [← hqc];unfold srvCred;split <;> omega
 have m2' : (if s.cr.av < o.cr.av then s.cr.av else o.cr.av) = qc:=by rw [← hqc];unfold srvCred;split <;> omega
 have m3 : min (b.lf - 20) 1024 = qm:=hqm
 have m4 : min s.cr.av o.cr.av = qc:=hqc
 clear hm h hk hn hl hxo hac hst hoa hO hX hid hP hok hFc hqm hqc hbl
 unfold ptr at *
 simp only [Option.map_some,optP] at AC
 unfold ptr at AC
 go_enter Tryz.func66,Tryz.ntmps66
 go_upto_region 5 with (first | (go_at_call 59;refine AC.out.mono ?_;rintro e wv ⟨rfl,rfl⟩) | (go_at_call 129;refine SE.out.mono ?_;rintro e wv ⟨rfl,rfl⟩))
 go_cut [9,10] from 31 to 55 (fun s9 s10 w1=>∃ fb,s9 = .pointer (some ⟨fb,0,none⟩) ∧ s10 = .bool ok ∧ Hid (WE w oa.bf oa.bb (o.X.nextX P).buf Fc fb w1))
 case first=>
  clear AC SE cx1 cl c0 HH HK SK HXN HRR
  refine rea.any_regionT (τ:=Nat) 0 28 sl28 (valS a s oa o bb b Fc ok qm qc) (fun x L w'=>WS w oa.bf oa.bb (o.X.nextX P).buf Fc x L w') (tm:=fun x=>#[.pointer (some ⟨a.sb,0,none⟩),.pointer (some ⟨xa.xb,0,none⟩),.pointer (some ⟨bb,0,none⟩),undef,undef,undef,.bool false,.pointer (some ⟨oa.ob,0,none⟩),.int .i64 o.X.sent,.pointer (some ⟨x,0,none⟩),.bool ok,undef,.pointer (some ⟨xa.xb,0,none⟩),.pointer (some ⟨xa.xb,0,none⟩),.pointer (some ⟨xa.xb,1,none⟩),.pointer (some ⟨oa.ob,0,none⟩),.pointer (some ⟨oa.ob,0,none⟩),.bool true,.bool false,.bool false,.pointer (some ⟨bb,0,none⟩),.pointer (some ⟨bb,0,none⟩),.pointer (some ⟨bb,1,none⟩),.int .i64 b.lf,.bool false,.bool false,.pointer (some ⟨oa.ob,0,none⟩),.pointer (some ⟨oa.ob,0,none⟩),.pointer (some ⟨oa.ob,0,none⟩),.pointer (some ⟨oa.bb,0,none⟩),.int .i64 o.X.sent,.tuple #[.agg Fc,.bool ok],.pointer (some ⟨oa.ob,0,none⟩),.pointer (some ⟨oa.ob,0,none⟩),.pointer (some ⟨oa.ob,0,none⟩),.pointer (some ⟨oa.bb,0,none⟩),.pointer (some ⟨bb,0,none⟩),.pointer (some ⟨bb,0,none⟩),.pointer (some ⟨bb,1,none⟩),.int .i64 b.lf,.int .i64 (b.lf - 20),.int .i64 qm,.pointer (some ⟨a.sb,0,none⟩),.pointer (some ⟨a.sb,0,none⟩),.pointer (some ⟨a.sb,30,none⟩),.pointer (some ⟨a.cb,0,none⟩),.int .i64 s.cr.av,.pointer (some ⟨oa.ob,0,none⟩),.pointer (some ⟨oa.ob,0,none⟩),.pointer (some ⟨oa.ob,1,none⟩),.pointer (some ⟨oa.cb,0,none⟩),.int .i64 o.cr.av,.int .i64 qc,.tuple #[.agg Fc,.bool ok],.agg Fc,.bool ok,undef,undef,undef,undef,undef,undef,undef,undef,undef,undef,undef,undef,undef,undef,undef,undef,undef,undef,undef,undef,undef,undef,undef,undef,undef,undef,undef,undef,undef,undef,undef,undef,undef,undef,undef,undef,undef,undef,undef,undef,undef,undef,undef,undef,undef,undef]) rfl (by kernel_rfl) rfl (fun i d hi h=>by have:=sl28_is h;simp;omega) (fun i j d hi hj h1 h2=>by have:=sl28_is h1;have:=sl28_is h2;omega) ⟨fun k o hk _=>hk,Nat.le_refl _,fun _=>(Below.refl _ w).drew,(fun h=>nomatch h),(fun h=>nomatch h),(fun h=>nomatch h),(fun h=>nomatch h),(fun h=>nomatch h),(fun h=>nomatch h)⟩ ?_ (fun x=>by kernel_rfl) ?_
  ·rintro fb j oo hj ho L aa w1 hLj hdl hW ⟨hold,hdep⟩
   have o0:=hold 0 (fun i hi h=>by have:=sl28_is h;omega)
   have o2:=hold 2 (fun i hi h=>by have:=sl28_is h;omega)
   have o7:=hold 7 (fun i hi h=>by have:=sl28_is h;omega)
   simp at o0 o2 o7
   obtain ⟨kb1,kb2,kb3,kb4,kb5,kb6,kb7,kb8,kb9,kb10,kb11⟩:=KB.out
   have r0 : w1.cell? ⟨oa.ob,0,none⟩ = some (.pointer (some ⟨oa.bb,0,none⟩)):=at_whole (hW.kp _ _ kb1 kb2) 0 rfl
   have r1 : w1.cell? ⟨oa.ob,1,none⟩ = some (.pointer (some ⟨oa.cb,0,none⟩)):=at_whole (hW.kp _ _ kb1 kb2) 1 rfl
   have rl : w1.cell? ⟨bb,1,none⟩ = some (.int .i64 b.lf):=at_whole (hW.kp _ _ kb3 kb4) 1 rfl
   have rs : w1.cell? ⟨a.sb,30,none⟩ = some (.pointer (some ⟨a.cb,0,none⟩)):=at_whole (hW.kp _ _ kb5 kb6) 30 rfl
   have hjj : j = 14 ∨ j = 19 ∨ j = 21 ∨ j = 25 ∨ j = 26 ∨ j = 0 ∨ j = 1 ∨ j = 2 ∨ j = 3 ∨ j = 4 ∨ j = 5 ∨ j = 6 ∨ j = 7 ∨ j = 8 ∨ j = 9 ∨ j = 10 ∨ j = 11 ∨ j = 12 ∨ j = 13 ∨ j = 15 ∨ j = 16 ∨ j = 17 ∨ j = 18 ∨ j = 20 ∨ j = 22 ∨ j = 23 ∨ j = 24 ∨ j = 27:=by omega
   rcases hjj with rfl | rfl | rfl | rfl | rfl | rfl | rfl | rfl | rfl | rfl | rfl | rfl | rfl | rfl | rfl | rfl | rfl | rfl | rfl | rfl | rfl | rfl | rfl | rfl | rfl | rfl | rfl | rfl
   ·cases ho
    simp [Region.binds,sl28] at hdep
    refine ⟨rfl,rfl,fun K hK=>?_⟩
    unfold Oper.wp
    simp [execOp,Oper.upon,resolve,invoke,go_sem,Act.eval,hdep,valS]
    refine (AV1.out w1 (hW.kp _ _ kb7 kb8)).mono ?_
    rintro e w2 ⟨rfl,n,rfl⟩
    exact hK fb _ (fun _ _=>rfl) ((hW.same (belowN (Below.refl _ w1) n)).mono 14 (by decide) (by decide) (by decide) (fun h=>absurd h (by decide)) (fun h=>absurd h (by decide)))
   ·cases ho
    simp [Region.binds,sl28] at hdep
    refine ⟨rfl,rfl,fun K hK=>?_⟩
    unfold Oper.wp
    simp [execOp,Oper.upon,resolve,invoke,go_sem,Act.eval,hdep,valS]
    refine (AV2.out w1 (hW.kp _ _ kb9 kb10)).mono ?_
    rintro e w2 ⟨rfl,n,rfl⟩
    exact hK fb _ (fun _ _=>rfl) ((hW.same (belowN (Below.refl _ w1) n)).mono 19 (by decide) (by decide) (by decide) (fun h=>absurd h (by decide)) (fun h=>absurd h (by decide)))
   ·cases ho
    simp [Region.binds,sl28] at hdep
    refine ⟨rfl,rfl,fun K hK=>?_⟩
    unfold Oper.wp
    simp [execOp,Oper.upon,resolve,invoke,go_sem,Act.eval,hdep,valS]
    refine (NX.out w1 (hW.pre hLj)).mono ?_
    rintro e w2 ⟨rfl,hc,hi⟩
    exact hK fb _ (fun _ _=>rfl) (hW.call hLj kb11 hc hi)
   ·cases ho
    refine ⟨rfl,rfl,fun K hK=>?_⟩
    unfold Oper.wp
    simp [execOp,Oper.upon,go_sem]
    exact hK w1.heap.size (w1.alloc (.cells fr0.cells 38)) (fun k hk=>valS_eq (fun e=>by subst e;rw [hLj] at hk;cases hk)) (hW.made hLj)
   ·cases ho
    simp [Region.binds,sl28] at hdep hdl
    refine ⟨rfl,rfl,fun K hK=>?_⟩
    have l25 : L 25 = true:=by simp [hdl]
    have l23 : L 23 = true:=by simp [hdl]
    have l21:=hW.c22 (hW.c23 l23)
    obtain ⟨m1,m2⟩:=hW.al l25
    rw [hLj] at m2
    exact wp_store_row 38 (.tmp 9) (.tmp 54) rfl fb Fc (by simp [Act.eval,hdep,valS]) (by simp [Act.eval,hdep,valS]) 38 _ m2 (by rw [F1.out.2];exact frm.size38e) (by rw [F1.out.2];rfl) F1.out.1 (hK fb _ (fun _ _=>rfl) (hW.stored l25 l21 kb11))
   all_goals (cases ho;simp [Region.binds,sl28] at hdep hdl;refine ⟨rfl,rfl,fun K hK=>?_⟩;unfold Oper.wp;first | (simp [execOp,Oper.upon,resolve,invoke,builtin,go_sem,Act.eval,hdep,o0,o2,o7,r0,r1,rl,rs,w20,m1,m2,m1',m2',m3,m4,valS];exact hK _ _ (fun _ _=>rfl) (hW.mono _ (by decide) (by decide) (by decide) (by first | exact fun h=>absurd h (by decide) | exact fun _=>hdl) (by first | exact fun h=>absurd h (by decide) | exact fun _=>hdl))) | (simp [execOp,Oper.upon,go_sem,Act.eval,o0,o2,o7,r0,r1,rl,rs,w20,valS];exact hK _ _ (fun _ _=>rfl) (hW.mono _ (by decide) (by decide) (by decide) (by first | exact fun h=>absurd h (by decide) | exact fun _=>hdl) (by first | exact fun h=>absurd h (by decide) | exact fun _=>hdl))))
  ·rintro fb L w1 hall hW
   have WD:=Lib.hid (hW.done (hall 21 (by decide)) (hall 25 (by decide)) (hall 26 (by decide)))
   clear hW hall KB NX AV1 AV2
   dsimp only
   go_wp2_with fail
   go_meet
   exact ⟨fb,rfl,rfl,WD⟩
 case rest=>
 obtain ⟨fb,rfl,rfl,WD⟩:=hcut
 obtain ⟨hm,h,hl,hst,hO,hoa,hid,hxo⟩:=HH.out
 obtain ⟨H1,f1,O1,T1⟩:=hO.setB hm WD.out.chg WD.out.inv HXN.out.1
 obtain ⟨X1,TX1⟩:=hst.turnO hoa hxo T1 O1 rfl
 obtain ⟨S1,TS1⟩:=h.st.turnS hm hl TX1 X1 rfl rfl
 obtain ⟨B1,TB1⟩:=h.turnS TS1 S1
 have HB:=Lib.hid (And.intro B1 TB1)
 clear KB NX AV1 AV2 AC SE cx1 cl c0 m1 m1' m2 m2' m3 m4 w20 g32 O1 T1 X1 TX1 S1 TS1 B1 TB1 hm h hl hst hO hoa
 cases P with
 | none=>
  obtain ⟨hk,hn,hP,hok,hFc⟩:=HK.out
  obtain rfl : ok = false:=hok.symm
  have hr : Hid (RR = (false,x,s.cr,s.srv,b)):=Lib.hid HRR.out.symm
  have hx : Hid (({ x with out:=some { o with X:=o.X.nextX none } } : Strm) = x):=Lib.hid (by cases x;simp at hxo;subst hxo;rfl)
  clear hk hn hP hok hFc hid hxo
  go_wp2
  go_returns
  refine ⟨by rw [hr.out];rfl,H1,{ xa with o:=some { oa with bf:=f1 } },v,rfl,?_,?_⟩
  ·rw [hr.out];have:=HB.out.2;rw [hx.out] at this;exact this
  ·rw [hr.out];have:=HB.out.1;rw [hx.out] at this;exact this
 | some p=>
  have sk:=SK.out p rfl
  obtain ⟨hm,h,hl,hst,hO,hoa,hid,hxo⟩:=HH.out
  obtain ⟨hF1,hFV⟩:=srvF_ok hid sk hO.cr HXN.out.2
  obtain rfl : ok = true:=HK.out.2.2.2.1.symm
  obtain ⟨xa1,hxa1⟩ : ∃ y : StA,({ xa with o:=some { oa with bf:=f1 } } : StA) = y:=⟨_,rfl⟩
  obtain ⟨oa1,hoa1⟩ : ∃ y : OutA,({ oa with bf:=f1 } : OutA) = y:=⟨_,rfl⟩
  obtain ⟨o1,ho1⟩ : ∃ y : OutP,({ o with X:=o.X.nextX (some p) } : OutP) = y:=⟨_,rfl⟩
  have G : Hid (xa1.xb = xa.xb ∧ xa1.o = some oa1 ∧ oa1.ob = oa.ob ∧ oa1.bb = oa.bb ∧ oa1.cb = oa.cb ∧ o1.cr = o.cr ∧ o1.X = o.X.frame p.1 p.2 ∧ o1 = { o with X:=o.X.frame p.1 p.2 }):=Lib.hid (by rw [← hxa1,← hoa1,← ho1];exact ⟨rfl,rfl,rfl,rfl,rfl,rfl,rfl,rfl⟩)
  obtain ⟨B1,TB1⟩:=HB.out
  rw [hoa1] at hxa1
  rw [hoa1,hxa1,ho1] at B1 TB1
  have S0:=Sv.start (F:=o.X.frameR p.1 p.2) hm h B1 TB1 (by rw [WD.out.fh,← HK.out.2.2.2.2];rfl) WD.out.f0
  have x0 : wc.cell? ⟨xa.xb,0,none⟩ = some (.int .i64 x.id):=by
   have he : (xa1,({ x with out:=some o1 } : Strm)) ∈ l1 ++ (xa1,{ x with out:=some o1 }) :: l2:=by simp
   have:=(S0.sb.st.li.all _ he).c0 S0.mem
   rw [G.out.1] at this
   exact this
  have zf:=frozen_whole (S0.mem.at S0.fh) 1
  obtain ⟨H2,S1⟩:=S0.fld (F':=srvF x.id o p) 1 (.int .i64 x.id) rfl
  have V1:=Lib.hid S1
  have HF:=Lib.hid (And.intro sk (And.intro hF1 hFV))
  have HC:=Lib.hid (And.intro h.st.cr hO.cr)
  have k1 : wc.cell? ⟨fb,1,none⟩ = some (.int .i64 0):=at_whole (S0.mem.at S0.fh) 1 rfl
  clear hm h hl hst hO hoa hid hxo hF1 hFV sk B1 TB1 S0 S1 hxa1 hoa1 ho1 HB SK
  go_upto_region 9 with fail
  obtain ⟨w1,hw1⟩ : ∃ y,wc.setCell ⟨fb,1,none⟩ (.int .i64 x.id) = y:=⟨_,rfl⟩
  rw [hw1] at V1 ⊢
  clear hw1 k1 zf x0 WD
  obtain ⟨F,hF⟩ : ∃ y,srvF x.id o p = y:=⟨_,rfl⟩
  rw [hF] at V1
  obtain ⟨n,hn⟩ : ∃ y,srvN o p = y:=⟨_,rfl⟩
  obtain ⟨fi,hfi⟩ : ∃ y,F.fin = y:=⟨_,rfl⟩
  obtain ⟨se,hse⟩ : ∃ y : Int,(o1.X.sent : Int) = y:=⟨_,rfl⟩
  have hN : Hid (0 ≤ n ∧ n ≤ s.cr.av ∧ n ≤ o1.cr.av):=Lib.hid (by rw [← hn,G.out.2.2.2.2.2.1];exact ⟨HF.out.1.n0,HF.out.1.nc,HF.out.1.no⟩)
  have wn : IntKind.i64.wrap (se - (o.X.sent : Int)) = n:=by
   have e1 : se - (o.X.sent : Int) = n:=by rw [← hse,← hn,G.out.2.2.2.2.2.2.1];rfl
   have h1:=hN.out
   have h2:=HC.out.1
   have:=h2.um;have:=h2.mm;have:=h2.u0
   unfold Snd.av maxOff at *
   rw [e1]
   exact IntWalk.i64_in _ (by omega)
  have HE:=Lib.hid (And.intro hF (And.intro hn (And.intro hfi hse)))
  have QS:=Lib.hid (V1.out.drew.sentO (l1:=l1) (l2:=l2) rfl G.out.2.1 rfl)
  have QU:=Lib.hid (V1.out.drew.useO (l1:=l1) (l2:=l2) rfl G.out.2.1 rfl hN.out.1 hN.out.2.2)
  obtain ⟨c0,c1,c3,_,_,_,_,_⟩:=V1.out.cells (l1:=l1) (l2:=l2) rfl G.out.2.1 rfl
  rw [hse] at QS
  rw [G.out.2.2.1] at c0 c1
  rw [G.out.2.2.2.1] at c0 QS
  rw [G.out.2.2.2.2.1] at c1 QU
  unfold ptr at QS QU
  clear hF hn hfi hse c3
  refine wp_region_still_tail 11 (by kernel_rfl) (by kernel_rfl) ?_
  simp only [List.take_succ_cons,List.take_zero,List.drop_succ_cons,List.drop_zero]
  repeat (first | ((with_reducible refine wpStill_step (fun K hK=>?_));go_simp;(with_reducible refine hK _ ?_);clear hK K) | ((with_reducible refine wpStill_step (fun K hK=>?_));go_simp;(refine ⟨_,QS.out,hK _ ?_⟩);clear hK K))
  with_reducible refine wpStill_nil ?_
  go_upto_region 10 with (go_at_call 136;refine QU.out.mono ?_;rintro e w2 ⟨rfl,H3,hV⟩;have V2:=Lib.hid hV;clear hV)
  obtain ⟨o2,ho2⟩ : ∃ y : OutP,({ o1 with cr:={ o1.cr with used:=o1.cr.used + n } } : OutP) = y:=⟨_,rfl⟩
  have G2 : Hid (o2.X = o1.X ∧ o2 = { o with X:=o.X.frame p.1 p.2,cr:={ o.cr with used:=o.cr.used + n } }):=Lib.hid (by rw [← ho2,G.out.2.2.2.2.2.2.2];exact ⟨rfl,rfl⟩)
  rw [ho2] at V2
  clear QS QU c0 c1 V1 ho2
  have QS:=Lib.hid (V2.out.drew.sentO (l1:=l1) (l2:=l2) rfl G.out.2.1 rfl)
  have QU:=Lib.hid (V2.out.drew.useS hN.out.1 hN.out.2.1)
  obtain ⟨c0,c1,c3,_,_,_,_,_⟩:=V2.out.cells (l1:=l1) (l2:=l2) rfl G.out.2.1 rfl
  rw [G2.out.1,HE.out.2.2.2] at QS
  rw [G.out.2.2.1] at c0
  rw [G.out.2.2.2.1] at c0 QS
  unfold ptr at QS QU
  clear c1
  refine wp_region_still_tail 11 (by kernel_rfl) (by kernel_rfl) ?_
  simp only [List.take_succ_cons,List.take_zero,List.drop_succ_cons,List.drop_zero]
  repeat (first | ((with_reducible refine wpStill_step (fun K hK=>?_));go_simp;(with_reducible refine hK _ ?_);clear hK K) | ((with_reducible refine wpStill_step (fun K hK=>?_));go_simp;(refine ⟨_,QS.out,hK _ ?_⟩);clear hK K))
  with_reducible refine wpStill_nil ?_
  go_upto_region 11 with (go_at_call 136;refine QU.out.mono ?_;rintro e w3 ⟨rfl,H4,hV⟩;have V3:=Lib.hid hV;clear hV)
  clear QS QU c0 c3 V2
  obtain ⟨_,_,_,_,_,_,c5,c6⟩:=V3.out.cells (l1:=l1) (l2:=l2) rfl G.out.2.1 rfl
  rw [HE.out.2.2.1] at c6
  clear c5
  obtain ⟨ev,hev⟩ : ∃ y : Int,(if fi then 2 else 1) = y:=⟨_,rfl⟩
  have QO:=Lib.hid (V3.out.onO (l1:=l1) (l2:=l2) rfl G.out.2.1 rfl ev)
  rw [G.out.2.2.1] at QO
  go_upto_if 88 with fail
  go_cut [11] from 11 to 11 (fun s11 wx=>s11 = .int .i64 ev ∧ wx = w3)
  case first=>
   cases fi with
   | true=>
    obtain rfl : (2 : Int) = ev:=hev
    go_wp2_with fail
    go_meet
    exact ⟨rfl,rfl⟩
   | false=>
    obtain rfl : (1 : Int) = ev:=hev
    go_wp2_with fail
    go_meet
    exact ⟨rfl,rfl⟩
  case rest=>
  obtain ⟨rfl,rfl⟩:=hcut
  clear c6
  unfold ptr at QO
  go_upto_region 15 with (go_at_call 86;refine QO.out.mono ?_;rintro e w4 ⟨rfl,H5,hV⟩;dsimp only at hV;have V4:=Lib.hid hV;clear hV)
  clear QO V3
  obtain ⟨o4,ho4⟩ : ∃ y : OutP,o2.on ev = y:=⟨_,rfl⟩
  rw [ho4] at V4
  obtain ⟨_,_,_,c0,c34,z34,_,_⟩:=V4.out.cells (l1:=l1) (l2:=l2) rfl G.out.2.1 rfl
  rw [G.out.1] at c0
  dsimp only at c0 c34
  obtain ⟨H6,hV⟩:=V4.out.setSrv x.id
  have V5:=Lib.hid hV
  clear hV V4
  go_upto_region 16 with fail
  obtain ⟨w5,hw5⟩ : ∃ y,w4.setCell ⟨a.sb,34,none⟩ (.int .i64 x.id) = y:=⟨_,rfl⟩
  rw [hw5] at V5 ⊢
  clear hw5 c0 c34 z34
  obtain ⟨_,_,_,_,_,_,c5,_⟩:=V5.out.cells (l1:=l1) (l2:=l2) rfl G.out.2.1 rfl
  have QA:=Lib.hid (V5.out.add (by rw [← HE.out.1];exact HF.out.2.2) HK.out.1)
  have HR : Hid (RR = (b.fits F,{ x with out:=some o4 },{ s.cr with used:=s.cr.used + n },(x.id : Int),b.add F)):=Lib.hid (by
   rw [← HRR.out]
   unfold srvR
   simp only
   rw [HE.out.1,HE.out.2.1,← ho4,G2.out.2]
   unfold srvO
   have e1 : (o.X.frameR p.1 p.2).fin = fi:=by rw [← HE.out.2.2.1,← HE.out.1];rfl
   rw [HE.out.2.1,e1,hev])
  clear ho4 G2 V5 HE HRR hN wn HXN HH HK HF HC
  unfold ptr at QA
  have HC5:=Lib.hid c5
  clear c5
  go_wp2_with (first | (refine wpList_load_row rfl 38 _ rfl fb rfl 38 _ (0,0) _ HC5.out Tryz.underlying38 rfl (size38 F) ?_) | (go_at_call 130;refine QA.out.mono ?_;rintro e w6 ⟨rfl,H7,v',hT,hS⟩;have R:=Lib.hid (And.intro hT hS);clear hT hS))
  go_returns
  refine ⟨by rw [HR.out];rfl,H7,xa1,v',G.out.1,?_,?_⟩
  ·rw [HR.out];exact R.out.1
  ·rw [HR.out];exact R.out.2
end
end
section
open Go.RowKit
section
variable {W w w' : World} {H : Nat → Option Obj} {a : SetA} {s s' : SetS} {bb : Nat} {v : Value} {b : Bat}
theorem updS_at {l1 l2 : List (StA × Strm)} {e : StA × Strm} {y : Strm} (h : Inc (l1 ++ e :: l2)) : updS ((l1 ++ e :: l2).map (·.2)) e.2.id y = l1.map (·.2) ++ y :: l2.map (·.2):=by
 obtain ⟨h1,h2⟩:=h.apart
 have z : ∀ l : List (StA × Strm),(∀ f ∈ l,f.2.id ≠ e.2.id) → updS (l.map (·.2)) e.2.id y = l.map (·.2):=fun l hl=>by
  unfold updS
  rw [List.map_map]
  exact List.map_congr_left (fun f hf=>by simp [hl f hf])
 have h3 : updS ((l1 ++ e :: l2).map (·.2)) e.2.id y = updS (l1.map (·.2)) e.2.id y ++ (if e.2.id = e.2.id then y else e.2) :: updS (l2.map (·.2)) e.2.id y:=by unfold updS;simp
 rw [h3,z _ h1,z _ h2,if_pos rfl]
theorem srvX_no {p : SetP} {x : Strm} (h : (outAct x.out && decide (32 ≤ b.lf)) = false) : srvX p x b = (p,b,false):=by
 unfold srvX
 cases hx : x.out with
 | none=>rfl
 | some o=>
  rw [hx] at h
  have h : (o.act && decide (32 ≤ b.lf)) = false:=h
  simp only [h]
  rfl
theorem serve_any (hm : Mem W w H) (h : SB H a s bb v b) (hk : b.Ok) (hn : b.fs.length + 1 ≤ 90000) {l1 l2 : List (StA × Strm)} {xa : StA} {x : Strm} (hl : s.ss = l1 ++ (xa,x) :: l2) (hsu : ∀ o,x.out = some o → (o.X.sent : Int) ≤ o.cr.used) :
  Calls Tryz.prog 66 #[ptr a.sb,ptr xa.xb,ptr bb] w fun e w'=>e = .returned (.bool (srvX s.pl x b).2.2) ∧ ∃ H' s' v',s'.pl = (srvX s.pl x b).1 ∧ ents s'.ss = ents s.ss ∧ To W w' H H' (sbF s a bb v) (sbF s' a bb v') ∧ SB H' a s' bb v' (srvX s.pl x b).2.1:=by
 cases ha : (outAct x.out && decide (32 ≤ b.lf)) with
 | false=>
  rw [srvX_no ha]
  refine (serve_no1 hm h hl ha).mono ?_
  rintro e w' ⟨rfl,rfl⟩
  exact ⟨rfl,H,s,v,rfl,rfl,To.refl hm _,h⟩
 | true=>
  cases hxo : x.out with
  | none=>rw [hxo] at ha;cases ha
  | some o=>
   rw [hxo] at ha
   have ha : (o.act && decide (32 ≤ b.lf)) = true:=ha
   have hact : o.act = true:=by rw [Bool.and_eq_true] at ha;exact ha.1
   have hlf : 32 ≤ b.lf:=by rw [Bool.and_eq_true] at ha;exact of_decide_eq_true ha.2
   have hinc : Inc (l1 ++ (xa,x) :: l2):=hl ▸ h.st.li.up
   refine (serve_next hm h hk hn hl hxo hact hlf (hsu o hxo)).mono ?_
   rintro e w' ⟨rfl,H',xa',v',hxb,hT,hS⟩
   cases hp : srvP s.cr o b with
   | none=>
    have e1 : srvX s.pl x b = (s.pl,b,false):=by
     unfold srvX
     rw [hxo]
     simp only [ha,if_true]
     rw [show srvP s.pl.cr o b = none from hp]
    rw [hp] at hT hS
    rw [e1]
    refine ⟨rfl,H',_,v',?_,?_,hT,hS⟩
    ·simp [SetS.pl,srvR,hl]
    ·simp [srvR,hl,ents,hxb]
   | some p=>
    have e1 : srvX s.pl x b = ({ s.pl with ss:=updS s.pl.ss x.id { x with out:=some (srvO o p) },cr:={ s.cr with used:=s.cr.used + srvN o p },srv:=x.id },b.add (srvF x.id o p),b.fits (srvF x.id o p)):=by
     unfold srvX
     rw [hxo]
     simp only [ha,if_true]
     rw [show srvP s.pl.cr o b = some p from hp]
     rfl
    rw [hp] at hT hS
    rw [e1]
    refine ⟨rfl,H',_,v',?_,?_,hT,hS⟩
    ·have h1:=updS_at (y:={ x with out:=some (srvO o p) }) hinc
     have h2 : updS s.pl.ss x.id { x with out:=some (srvO o p) } = l1.map (·.2) ++ { x with out:=some (srvO o p) } :: l2.map (·.2):=by rw [← h1,← hl];rfl
     rw [h2]
     simp [SetS.pl,srvR]
    ·simp [srvR,hl,ents,hxb]
end
end
section
open Go.RowKit Go.Shelf
attribute [local go_sem] Oper.semAt_some
section
variable {w : World}
theorem info121 : (Tryz.prog.info? 121).map (fun i=>(i.zero,i.size,i.bytes)) = some (some (.pointer none),1,8):=by kernel_rfl
theorem ownsRow_ownFrom {β : Type} {B base : Nat} {e : TypeId} (n : β → Nat) (xs : β → List Value) (b : Nat) (T : TypeId) : OwnFrom B (fun (p : β) X=>∃ v,X.heap[b]? = some (.cells #[v] T (0,0)) ∧ X.ownsRow base e 1 v (n p) (xs p)):=fun s X Y row hs hg hr=>by
 obtain ⟨v,h1,h2⟩:=hs
 have z : ∀ {k : Nat} {cs : Array Value} {S : TypeId},X.heap[k]? = some (.cells cs S (0,0)) → row ≠ some k:=fun {k cs S} e c=>by obtain ⟨_,o,ho,hc⟩:=hr k c;rw [e] at ho;cases ho;cases hc
 refine ⟨v,(hg.block b (heap_lt h1) (fun c=>z h1 c.symm)).trans h1,own_same h2 (fun k hk=>?_)⟩
 rcases h2.2 with ⟨rfl,_⟩ | ⟨g,cap,cur,rfl,_,hgb,_⟩
 ·cases hk
 ·cases hk
  exact hg.block _ (heap_lt hgb) (fun c=>z hgb c.symm)
theorem appendSeq_any (B sb M nn : Nat) (l : List Ent) (nx : Nat) (hu : UpE nx l) (hnx : nx ≤ 4611686018427387904) (hll : l.length ≤ 1000000) (hBl : B < w.heap.size) (hsl : sb < w.heap.size) (hMl : M < w.heap.size)
  (hB : w.cell? ⟨B,0,none⟩ = some (.pointer (some ⟨sb,0,none⟩))) (hb : w.cell? ⟨sb,13,none⟩ = some (.map (some M))) (hM : MapE w M nn l) :
  Calls Tryz.prog 205 #[.slice none 0 0,.func (.func 126) #[] #[.pointer (some ⟨B,0,none⟩)]] w fun e w'=>∃ v,e = .returned v ∧ Below w.heap.size w w' ∧ w'.ownsRow w.heap.size 121 1 v l.length (l.map eP):=by
 have hb0:=(Below.refl _ w).alloc (Nat.le_refl _) (.cells #[.slice none 0 0] 140)
 have x0:=heap_alloc_new w (.cells #[.slice none 0 0] 140)
 have hz0 : (w.alloc (.cells #[.slice none 0 0] 140)).heap.size = w.heap.size + 1:=World.size_alloc ..
 have cB:=(hb0.cell (p:=⟨B,0,none⟩) hBl).trans hB
 have cb:=(hb0.cell (p:=⟨sb,13,none⟩) hsl).trans hb
 have hM0:=hM.of_block (hb0.block M hMl)
 clear hB hb hM
 refine (callsIn_wide (n:=20)).1 ?_
 refine callsIn_of_wp_marks Tryz.func205 rfl trivial ?_ rfl
 simp only [Tryz.ntmps205,List.size_toArray,List.length_cons,List.length_nil,Nat.reduceAdd,Nat.reduceSub,Array.replicate_succ,Array.replicate_zero,List.push_toArray,List.append_toArray,List.nil_append,List.cons_append]
 gi_wp2
 generalize hW0 : w.alloc (.cells #[.slice none 0 0] 140) = W0 at *
 refine wpIn_rangeFunc_ownH rfl (by decide) (gf:=126) (lb:=#[.pointer (some ⟨B,0,none⟩)]) rfl trivial (enters_of Tryz.func126 (by kernel_rfl) rfl)
  (all_stops 19 (by decide) B sb M nn W0.heap.size l nx hu hnx hll W0 (Nat.le_refl _) (by omega) (by omega) (by omega) cB cb hM0)
  (fun h k=>h.trans k) (fun X l o o' hl hX hc hw=>KpS.put hX hc (by omega) (by omega) (by omega)) bz0 (fun _=>rfl)
  (fun pre X=>(∃ v,X.heap[w.heap.size]? = some (.cells #[v] 140 (0,0)) ∧ X.ownsRow w.heap.size 121 1 v pre.length (pre.map fun y : InE l=>eP y.1)) ∧ Below w.heap.size w X)
  (fun _ _ _=>False)
  (OwnFrom.and (ownsRow_ownFrom _ _ _ _) (ownFrom_below (Nat.le_refl _) (by omega)))
  (fun c s X Y row h _ _=>h)
  ⟨⟨_,x0,⟨by simp,.inl ⟨rfl,rfl⟩⟩⟩,hb0⟩
  (fun x a' Zq=>a' = { tmps:=#[.slice none 0 0,.func (.func 126) #[] #[.pointer (some ⟨B,0,none⟩)],.pointer (some ⟨w.heap.size,0,none⟩),undef,.slice none 0 0,eP x.1,.func (.func 126) #[] #[.pointer (some ⟨B,0,none⟩)],eP x.1,undef,undef,undef,undef,undef],defers:=[] })
  (fun x a' s A C row hs hg hr=>hs)
  ?assign ?body ?done ?stop
 case stop=>rintro D c pre X _ _ hF _;exact hF.elim
 case assign=>
  rintro ly pre ⟨⟨id,xb⟩,hx⟩ X K hi hK
  simp only [encE,eP] at hK ⊢
  have H1:=Lib.hid (And.intro hi hK)
  clear hi hK
  gi_wp2
  exact H1.out.2 _ _ ((KeepsOthers.refl _).from _) (KpS.refl _ _ _ _ _) H1.out.1 rfl
 case body=>
  rintro ly pre ⟨⟨id,xb⟩,hx⟩ a' X hl ⟨r,hr⟩ ⟨⟨v,hv,hrow⟩,hbX⟩ rfl hlen
  obtain ⟨i0,hi,hzz,hz1,hz2⟩:=info_parts info121
  have hc2:=at_whole hv 0 rfl
  have hf2:=frozen_whole hv 0
  simp only [List.getElem_toArray,List.getElem_cons_zero] at hc2
  have hplen : pre.length ≤ 1000000:=by omega
  have ob : ∀ k,v.ownBlock = some k → w.heap.size ≤ k ∧ ∃ cs,X.heap[k]? = some (.cells cs 121 (0,0)):=fun k hk=>by
   rcases hrow.2 with ⟨rfl,_⟩ | ⟨g,cap,cur,rfl,h1,hgb,_⟩
   ·cases hk
   ·cases hk;exact ⟨h1,_,hgb⟩
  have hwX:=hbX.size
  have HX:=Lib.hid (And.intro hv (And.intro hrow (And.intro hbX ob)))
  have nb : some w.heap.size ≠ v.ownBlock:=fun e=>by obtain ⟨_,cs,hc⟩:=ob _ e.symm;rw [hv] at hc;cases hc
  simp only [eP]
  gi_wp2_with (gi_at_builtin;refine wpListIn_append_own _ rfl _ _ 140 rfl w.heap.size 121 i0 (.pointer none) 1 8 Tryz.underlying140 hi hzz hz1 hz2 rfl (by decide) _ _ _ rfl (HX.out.2.1.alloc _) ⟨X.heap.size,0,none⟩ 1 1 [.pointer (some ⟨xb,0,none⟩)] rfl rfl (cell_one_new _ _ _) (by simp [Value.oneCell']) (by unfold maxLen;omega) (by omega) (by have:=hwX;simp;omega) ?_;intro v' w3 hown' hg3 hnil3;obtain ⟨g',cap',rfl⟩ : ∃ g' cap',v' = .slice (some ⟨g',0,none⟩) (pre.length + 1) cap':=(by rcases hown'.2 with ⟨_,h0⟩ | ⟨g',cap',cur',h',_⟩;exact absurd h0 (by omega);exact ⟨g',cap',h'⟩);have hv3 : w3.heap[w.heap.size]? = some (.cells #[v] 140 (0,0)):=(hg3.block _ (by have:=heap_lt HX.out.1;simp;omega) nb).trans (heap_below ((Below.refl _ X).alloc (Nat.le_refl _) _) HX.out.1);have hc3:=at_whole hv3 0 rfl;have hf3:=frozen_whole hv3 0;simp only [List.getElem_toArray,List.getElem_cons_zero] at hc3;have R3:=Lib.hid (And.intro hown' (And.intro hg3 hv3));clear hown' hg3 hv3 hnil3)
  obtain ⟨hv,hrow,hbX,ob⟩:=HX.out
  obtain ⟨hown3,hg3,hv3⟩:=R3.out
  have hg3 : (X.alloc (.cells #[.pointer (some ⟨xb,0,none⟩)] 121)).grownBy w3 v.ownBlock:=hg3
  obtain ⟨w4,hw4⟩ : ∃ y,w3.setCell ⟨w.heap.size,0,none⟩ (.slice (some ⟨g',0,none⟩) (pre.length + 1) cap') = y:=⟨_,rfl⟩
  have hc : Chg (fun k=>v.ownBlock = some k ∨ k = w.heap.size) X w4:=by
   rw [← hw4]
   exact ((Chg.below ((Below.refl _ X).alloc (Nat.le_refl _) _)).trans1 (Chg.grownO hg3 (fun k e=>.inl e))).trans1 (Chg.setW' w3 _ _ _ (.inr rfl))
  have hv4 : w4.heap[w.heap.size]? = some (.cells #[.slice (some ⟨g',0,none⟩) (pre.length + 1) cap'] 140 (0,0)):=by rw [← hw4];exact heap_setCell_same w3 w.heap.size 0 _ 140 _ hv3
  have hrow4 : w4.ownsRow w.heap.size 121 1 (.slice (some ⟨g',0,none⟩) (pre.length + 1) cap') (pre.length + 1) ((pre.map fun y : InE l=>eP y.1) ++ [.pointer (some ⟨xb,0,none⟩)]):=by
   refine own_same hown3 (fun k hk=>?_)
   rw [← hw4]
   refine heap_setCell_other w3 _ _ _ (fun e=>?_)
   rcases hown3.2 with ⟨h0,_⟩ | ⟨g2,cap2,cur2,h0,_,hgb2,_⟩
   ·cases h0
   ·cases h0;cases hk
    have e : g' = w.heap.size:=e
    rw [e,hv3] at hgb2;cases hgb2
  have nf : ∀ k cs T fz,X.heap[k]? = some (Obj.cells cs T fz) → T ≠ 121 → T ≠ 140 → w4.heap[k]? = X.heap[k]?:=fun k cs T fz hk h1 h2=>hc.block k (heap_lt hk) (fun c=>by
   rcases c with c | rfl
   ·obtain ⟨_,ds,hd⟩:=ob k c;rw [hk] at hd;simp at hd;exact h1 hd.2.1
   ·rw [hv] at hk;simp at hk;exact h2 hk.2.1.symm)
  rw [hw4]
  refine ⟨⟨hc.size,fun k o _ hk ho=>(hc.block k (heap_lt hk) (fun c=>?_)).trans hk⟩,⟨hc.size,hc.block B (by omega) (fun c=>?_),World.cell?_of_block (a:=⟨sb,13,none⟩) (hc.block sb (by omega) (fun c=>?_)),hc.block M (by omega) (fun c=>?_),fun k cs fz _ hh=>(nf k cs 3 fz hh (by decide) (by decide)).trans hh⟩,⟨_,hv4,?_⟩,?_⟩
  ·rcases c with c | rfl
   ·obtain ⟨_,ds,hd⟩:=ob k c;rw [hk] at hd;cases hd;cases ho
   ·rw [hv] at hk;cases hk;cases ho
  ·rcases c with c | c
   ·have:=(ob _ c).1;omega
   ·omega
  ·rcases c with c | c
   ·have:=(ob _ c).1;omega
   ·omega
  ·rcases c with c | c
   ·have:=(ob _ c).1;omega
   ·omega
  ·rw [List.length_append,List.map_append];exact hrow4
  ·exact Chg.toBelow hbX hc (fun k e=>by
    rcases e with e | rfl
    ·exact (ob _ e).1
    ·exact Nat.le_refl _)
 case done=>
  rintro D xs X hD hxs ⟨⟨v,hv,hrow⟩,hbX⟩ hKD
  have c0:=at_whole hv 0 rfl
  simp only [List.getElem_toArray,List.getElem_cons_zero] at c0
  gi_wp2
  have hmap : xs.map (fun y : InE l=>eP y.1) = l.map eP:=by
   have h1:=congrArg (fun q=>q.map eP) hxs
   simp only [List.map_map] at h1
   exact h1
  have hlen : xs.length = l.length:=by rw [← congrArg List.length hxs,List.length_map]
  rw [hmap,hlen] at hrow
  refine ⟨by simp,.inl ⟨_,_,rfl,run_takeDeferred hKD,?_⟩⟩
  refine ⟨v,by simp [results,Tryz.f205,go_sem],v,rfl,hbX.grown (grownBy_putObj' X D _) hbX.size (fun k e=>by cases e;omega),own_same hrow (fun k hk=>?_)⟩
  refine World.putObj_heap_other (fun e=>?_)
  subst e
  rcases hrow.2 with ⟨rfl,_⟩ | ⟨g,cap,cur,rfl,_,hgb,_⟩
  ·cases hk
  ·cases hk
   rw [hKD] at hgb;cases hgb
theorem collect_any (B sb M nn : Nat) (l : List Ent) (nx : Nat) (hu : UpE nx l) (hnx : nx ≤ 4611686018427387904) (hll : l.length ≤ 1000000) (hBl : B < w.heap.size) (hsl : sb < w.heap.size) (hMl : M < w.heap.size)
  (hB : w.cell? ⟨B,0,none⟩ = some (.pointer (some ⟨sb,0,none⟩))) (hb : w.cell? ⟨sb,13,none⟩ = some (.map (some M))) (hM : MapE w M nn l) :
  Calls Tryz.prog 133 #[.func (.func 126) #[] #[.pointer (some ⟨B,0,none⟩)]] w fun e w'=>∃ v,e = .returned v ∧ Below w.heap.size w w' ∧ w'.ownsRow w.heap.size 121 1 v l.length (l.map eP):=by
 have A:=Lib.hid (appendSeq_any B sb M nn l nx hu hnx hll hBl hsl hMl hB hb hM)
 clear hB hb hM
 go_enter Tryz.func133,Tryz.ntmps133
 go_wp2_with (go_at_call 205;refine A.out.mono ?_;rintro e w' ⟨v,rfl,hbw,hr⟩;have R:=Lib.hid (And.intro hbw hr);clear hbw hr)
 go_ret
 exact ⟨v,rfl,R.out.1,R.out.2⟩
end
end
end Go.Proofs.YthckbmcmdcemkaaGreatDoor.stm
