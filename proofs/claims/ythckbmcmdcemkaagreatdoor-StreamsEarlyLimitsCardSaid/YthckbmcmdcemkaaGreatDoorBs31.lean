/- Texts of this claim, one behind the other: Og. -/
import Derived.Test.YthckbmcmdcemkaaGreatDoorBs29
import Derived.Test.YthckbmcmdcemkaaGreatDoorBs20
import Derived.Test.YthckbmcmdcemkaaGreatDoorBs30
import Derived.Test.YthckbmcmdcemkaaGreatDoorBs28
import Derived.Deep.CutRange
import Derived.Deep.CutBlock
set_option maxRecDepth 100000
set_option maxHeartbeats 16000000
set_option linter.unusedSimpArgs false
set_option linter.unusedVariables false
namespace Go.Proofs.YthckbmcmdcemkaaGreatDoor.stm
section
open Go.RowKit
open frm (FrV)
attribute [local go_sem] Oper.semAt_some
section
variable {W w w' w0 w1 w2 : World} {H H' : Nat → Option Obj} {a : SetA} {s s' : SetS} {bb : Nat} {v v' : Value} {b b' : Bat}
theorem all_any (sb : Nat) (w : World) : Calls Tryz.prog 62 #[ptr sb] w fun e w'=>e = .returned (.func (.func 126) #[] #[.pointer (some ⟨w.heap.size,0,none⟩)]) ∧ w' = w.alloc (.cells #[.pointer (some ⟨sb,0,none⟩)] 25):=by
 unfold ptr
 go_enter Tryz.func62,Tryz.ntmps62
 go_wp2
 go_ret
 exact ⟨rfl,rfl⟩
theorem Bat.Ok.addIf (hk : b.Ok) (q : Bool) {f : Fr} (hv : FrV f) (hn : b.fs.length + 1 ≤ 90000) : (if q then b.add f else b).Ok ∧ (if q then b.add f else b).fs.length ≤ b.fs.length + 1:=by
 cases q with
 | false=>exact ⟨hk,by simp⟩
 | true=>
  refine ⟨hk.add hv hn,?_⟩
  have:=pendB_len true b f
  exact this
theorem blockedAll_any (hm : Mem W w H) (h : SB H a s bb v b) (hk : b.Ok) (hn : b.fs.length + 3 + s.ss.length ≤ 90000) (h0 : 0 ≤ s.g0.olim ∧ s.g0.olim ≤ 4611686018427387903) (h1 : 0 ≤ s.g1.olim ∧ s.g1.olim ≤ 4611686018427387903) (hr : RepOk s.cr) (hrs : ∀ e ∈ s.ss,∀ o,e.2.out = some o → RepOk o.cr) :
  Calls Tryz.prog 64 #[ptr a.sb,ptr bb] w fun e w'=>e = .returned (.tuple #[]) ∧ ∃ H' s' v',s'.pl = (blP s.pl b).1 ∧ To W w' H H' (sbF s a bb v) (sbF s' a bb v') ∧ SB H' a s' bb v' (blP s.pl b).2:=by
 have hb2:=box2 w (.cells #[.pointer (some ⟨a.sb,0,none⟩)] 25) (.cells #[.pointer (some ⟨bb,0,none⟩)] 132)
 obtain ⟨x0,x1,x2,x3⟩:=hb2
 have hm0:=hm.same x2
 have S0:=Lib.hid (Stp.refl h hm0)
 have NB:=Lib.hid (show ¬ sbF s a bb v w.heap.size ∧ ¬ sbF s a bb v (w.heap.size + 1) from ⟨h.fresh hm (Nat.le_refl _),h.fresh hm (by omega)⟩)
 have BX:=Lib.hid (And.intro x0 (And.intro x1 x3))
 have HH:=Lib.hid (And.intro hm (And.intro h (And.intro hm0 x2)))
 have HK:=Lib.hid (And.intro hk (And.intro hn (And.intro h0 (And.intro h1 hr))))
 have HRS:=Lib.hid hrs
 have c0:=at_whole x0 0 rfl
 have c1:=at_whole x1 0 rfl
 simp only [List.getElem_toArray,List.getElem_cons_zero] at c0 c1
 clear x0 x1 x2 x3 hm0 hm h hk hn h0 h1 hr hrs
 unfold ptr at *
 refine (callsIn_wide (n:=20)).1 ?_
 refine callsIn_of_wp_marks Tryz.func64 rfl trivial ?_ rfl
 simp only [Tryz.ntmps64,List.size_toArray,List.length_cons,List.length_nil,Nat.reduceAdd,Nat.reduceSub,Array.replicate_succ,Array.replicate_zero,List.push_toArray,List.append_toArray,List.nil_append,List.cons_append]
 refine wpIn_wide.2 ?_
 go_wp2_with fail
 generalize hW0 : (w.alloc _).alloc _ = W0 at *
 refine wp_loop_rounds 3 ?_
 rw [rounds_succ]
 have c20 : W0.cell? ⟨a.sb,20,none⟩ = some (.bool s.g0.bl):=at_whole' (S0.out.mem.at S0.out.sb.st.sb) rfl
 have c16 : W0.cell? ⟨a.sb,16,none⟩ = some (.int .i64 s.g0.olim):=at_whole' (S0.out.mem.at S0.out.sb.st.sb) rfl
 have c0 : W0.cell? ⟨w.heap.size,0,none⟩ = some (.pointer (some ⟨a.sb,0,none⟩)):=at_whole (S0.out.box BX.out.1 NB.out.1) 0 rfl
 have c1 : W0.cell? ⟨w.heap.size + 1,0,none⟩ = some (.pointer (some ⟨bb,0,none⟩)):=at_whole (S0.out.box BX.out.2.1 NB.out.2) 0 rfl
 go_upto_block 1 with fail
 obtain ⟨q,hq⟩ : ∃ q,s.g0.bl = q:=⟨_,rfl⟩
 rw [hq] at c20
 have HQ0:=Lib.hid hq
 go_cut [] from 15 to 36 (fun wx=>∃ Hx vx,Hid (Stp W W0 wx H Hx a s { s with g0:={ s.g0 with bl:=false } } bb v vx (if q then b.add (fSBl false s.g0.olim) else b)))
 case first=>
  go_upto_if 24 with fail
  cases q with
  | false=>
   have e : ({ s.g0 with bl:=false } : Grp) = s.g0:=by rw [← hq]
   go_wp2_with fail
   go_meet
   exact ⟨H,v,Lib.hid (by rw [e];exact S0.out)⟩
  | true=>
   have P1:=Lib.hid (add_stp (w:=W0.drew) S0.out.mem.drew S0.out.sb HK.out.1 (fSBl false s.g0.olim) (v_sBl HK.out.2.2.1))
   clear hq
   unfold ptr at P1
   go_upto_region 6 with fail
   refine wp_region_still_tail 8 (by kernel_rfl) (by kernel_rfl) ?_
   simp only [List.take_succ_cons,List.take_zero,List.drop_succ_cons,List.drop_zero]
   repeat ((with_reducible refine wpStill_step (fun K hK=>?_));go_simp;(with_reducible refine hK _ ?_);clear hK K)
   with_reducible refine wpStill_nil ?_
   clear c20
   go_upto_region 7 with (go_at_call 130;refine P1.out.mono ?_;rintro e w3 ⟨rfl,H3,v3,S3⟩;have R3:=Lib.hid (S0.out.drew.trans S3);clear S3)
   have c20 : w3.cell? ⟨a.sb,20,none⟩ = some (.bool s.g0.bl):=at_whole' (R3.out.mem.at R3.out.sb.st.sb) rfl
   have z20:=frozen_whole (R3.out.mem.at R3.out.sb.st.sb) 20
   obtain ⟨H4,S4⟩:=R3.out.sb.set R3.out.mem (s':={ s with g0:={ s.g0 with bl:=false } }) 20 (.bool false) rfl rfl rfl rfl
   have R4:=Lib.hid (R3.out.trans S4)
   clear S4
   go_wp2_with fail
   go_meet
   exact ⟨H4,v3,R4⟩
 case rest=>
 obtain ⟨H1,v1,S1⟩:=hcut
 generalize wc = W1 at *
 clear hq c20 c16 c0 c1
 rw [← HQ0.out] at S1
 have hk1:=HK.out.1.addIf s.g0.bl (v_sBl (u:=false) HK.out.2.2.1) (by have:=HK.out.2.1;omega)
 obtain ⟨b1,hb1⟩ : ∃ x,(if s.g0.bl then b.add (fSBl false s.g0.olim) else b) = x:=⟨_,rfl⟩
 rw [hb1] at S1 hk1
 have HB1:=Lib.hid hb1
 have HK1:=Lib.hid (show b1.Ok ∧ b1.fs.length ≤ b.fs.length + 1 from ⟨hk1.1,by have:=hk1.2;omega⟩)
 clear hk1 hb1
 go_wp2_with fail
 rw [rounds_succ]
 have c20 : W1.cell? ⟨a.sb,28,none⟩ = some (.bool s.g1.bl):=at_whole' (S1.out.mem.at S1.out.sb.st.sb) rfl
 have c16 : W1.cell? ⟨a.sb,24,none⟩ = some (.int .i64 s.g1.olim):=at_whole' (S1.out.mem.at S1.out.sb.st.sb) rfl
 have c0 : W1.cell? ⟨w.heap.size,0,none⟩ = some (.pointer (some ⟨a.sb,0,none⟩)):=at_whole (S1.out.box BX.out.1 NB.out.1) 0 rfl
 have c1 : W1.cell? ⟨w.heap.size + 1,0,none⟩ = some (.pointer (some ⟨bb,0,none⟩)):=at_whole (S1.out.box BX.out.2.1 NB.out.2) 0 rfl
 go_upto_block 1 with fail
 obtain ⟨q,hq⟩ : ∃ q,s.g1.bl = q:=⟨_,rfl⟩
 rw [hq] at c20
 have HQ1:=Lib.hid hq
 go_cut [] from 15 to 36 (fun wx=>∃ Hx vx,Hid (Stp W W0 wx H Hx a s (bS s) bb v vx (if q then b1.add (fSBl true s.g1.olim) else b1)))
 case first=>
  go_upto_if 24 with fail
  cases q with
  | false=>
   have e : ({ s.g1 with bl:=false } : Grp) = s.g1:=by rw [← hq]
   go_wp2_with fail
   go_meet
   exact ⟨H1,v1,Lib.hid (by unfold bS;rw [e];exact S1.out)⟩
  | true=>
   have P1:=Lib.hid (add_stp (w:=W1.drew) S1.out.mem.drew S1.out.sb HK1.out.1 (fSBl true s.g1.olim) (v_sBl HK.out.2.2.2.1))
   clear hq
   unfold ptr at P1
   go_upto_region 6 with fail
   refine wp_region_still_tail 8 (by kernel_rfl) (by kernel_rfl) ?_
   simp only [List.take_succ_cons,List.take_zero,List.drop_succ_cons,List.drop_zero]
   repeat ((with_reducible refine wpStill_step (fun K hK=>?_));go_simp;(with_reducible refine hK _ ?_);clear hK K)
   with_reducible refine wpStill_nil ?_
   clear c20
   go_upto_region 7 with (go_at_call 130;refine P1.out.mono ?_;rintro e w3 ⟨rfl,H3,v3,S3⟩;have R3:=Lib.hid (S1.out.drew.trans S3);clear S3)
   have c20 : w3.cell? ⟨a.sb,28,none⟩ = some (.bool s.g1.bl):=at_whole' (R3.out.mem.at R3.out.sb.st.sb) rfl
   have z20:=frozen_whole (R3.out.mem.at R3.out.sb.st.sb) 28
   obtain ⟨H4,S4⟩:=R3.out.sb.set R3.out.mem (s':=(bS s)) 28 (.bool false) rfl rfl rfl rfl
   have R4:=Lib.hid (R3.out.trans S4)
   clear S4
   go_wp2_with fail
   go_meet
   exact ⟨H4,v3,R4⟩
 case rest=>
 obtain ⟨H2,v2,S2⟩:=hcut
 generalize wc = W2 at *
 clear hq c20 c16 c0 c1
 rw [← HQ1.out] at S2
 have hk2:=HK1.out.1.addIf s.g1.bl (v_sBl (u:=true) HK.out.2.2.2.1) (by have:=HK.out.2.1;have:=HK1.out.2;omega)
 obtain ⟨b2,hb2⟩ : ∃ x,(if s.g1.bl then b1.add (fSBl true s.g1.olim) else b1) = x:=⟨_,rfl⟩
 rw [hb2] at S2 hk2
 have HB2:=Lib.hid hb2
 have HK2:=Lib.hid (show b2.Ok ∧ b2.fs.length ≤ b.fs.length + 2 from ⟨hk2.1,by have:=hk2.2;have:=HK1.out.2;omega⟩)
 clear hk2 hb2
 go_wp2_with fail
 rw [rounds_succ]
 have c0 : W2.cell? ⟨w.heap.size,0,none⟩ = some (.pointer (some ⟨a.sb,0,none⟩)):=at_whole (S2.out.box BX.out.1 NB.out.1) 0 rfl
 clear c0
 go_upto_region 10 with fail
 have e6:=heap_alloc_new W2 (.cells #[.bool false] 4)
 have hz3 : (W2.alloc (.cells #[.bool false] 4)).heap.size = W2.heap.size + 1:=World.size_alloc ..
 have q3 : Stp W W0 (W2.alloc (.cells #[.bool false] 4)) H H2 a s (bS s) bb v v2 b2:=S2.out.after ((Below.refl _ W2).alloc (Nat.le_refl _) _)
 have q4:=q3.after ((Below.refl _ (W2.alloc (.cells #[.bool false] 4))).alloc (Nat.le_refl _) (.cells #[.pointer (some ⟨a.sb,0,none⟩)] 25))
 have e7:=heap_alloc_new (W2.alloc (.cells #[.bool false] 4)) (.cells #[.pointer (some ⟨a.sb,0,none⟩)] 25)
 have e6':=heap_below ((Below.refl _ (W2.alloc (.cells #[.bool false] 4))).alloc (Nat.le_refl _) (.cells #[.pointer (some ⟨a.sb,0,none⟩)] 25)) e6
 have c0 : (W2.alloc (.cells #[.bool false] 4)).cell? ⟨w.heap.size,0,none⟩ = some (.pointer (some ⟨a.sb,0,none⟩)):=at_whole (q3.box BX.out.1 NB.out.1) 0 rfl
 go_wp2_with (go_at_call 62;refine (all_any _ _).mono ?_;rintro e wv ⟨rfl,rfl⟩)
 rw [hz3] at e7
 obtain ⟨W4,hW4⟩ : ∃ y,(W2.alloc (.cells #[.bool false] 4)).alloc (.cells #[.pointer (some ⟨a.sb,0,none⟩)] 25) = y:=⟨_,rfl⟩
 have hz4 : W4.heap.size = W2.heap.size + 2:=by rw [← hW4,World.size_alloc,hz3]
 rw [hW4] at q4 e7 e6' ⊢
 have hI0 : BlI W W0 H a s bb v w.heap.size W2.heap.size (W2.heap.size + 1) false (bS s) b2 W4 H2 v2:=by
  refine ⟨q4.box BX.out.1 NB.out.1,q4.box BX.out.2.1 NB.out.2,e6',e7,q4,fun k hk=>?_⟩
  have hz:=BX.out.2.2
  rcases hk with rfl | rfl | rfl | rfl
  ·exact q4.nf (by omega) NB.out.1
  ·exact q4.nf (by omega) NB.out.2
  ·exact S2.out.sb.fresh S2.out.mem (Nat.le_refl _)
  ·exact S2.out.sb.fresh S2.out.mem (by omega)
 have h02 : W0.heap.size ≤ W2.heap.size:=S2.out.chg.size
 have HI0:=Lib.hid (And.intro hI0 (And.intro hz4 h02))
 have hM0:=HH.out.2.1.M_lt HH.out.1
 have hs0:=HH.out.1.lt HH.out.2.1.st.sb
 have hli:=HH.out.2.1.st.li
 have hupE : UpE 1152921504606846976 (ents s.ss):=⟨by unfold ents;rw [List.pairwise_map];exact hli.up,fun p hp=>by
  obtain ⟨l1,xa,x,l2,e,e2,_⟩:=ents_split hp
  rw [← e2];exact hli.bd (xa,x) (by rw [e];simp)⟩
 have hll : (ents s.ss).length ≤ 1000000:=by unfold ents;have:=HK.out.2.1;simp;omega
 have hmp : MapE W4 a.M (ents s.ss).length (ents s.ss):=by
  obtain ⟨mo,m1,_,m3⟩:=hI0.st.sb.st.mp
  exact m3 W4 (hI0.st.mem.at m1)
 have cB:=at_whole hI0.xB 0 rfl
 have cb13:=hI0.st.sb.st.c13 hI0.st.mem
 have hz:=BX.out.2.2
 clear q4 q3 e6 e6' e7 hz3 c0 hI0 hW4
 refine (wpIn_wide (n:=20)).1 ?_
 refine wpIn_rangeFunc_ownH rfl (by decide) (gf:=126) (lb:=#[.pointer (some ⟨W2.heap.size + 1,0,none⟩)]) rfl trivial (enters_of Tryz.func126 (by kernel_rfl) rfl)
  (all_stops 19 (by decide) (W2.heap.size + 1) a.sb a.M (ents s.ss).length W4.heap.size (ents s.ss) 1152921504606846976 hupE (by decide) hll W4 (Nat.le_refl _) (by omega) (by omega) (by omega) cB cb13 hmp)
  (fun h k=>h.trans k) (fun X l o o' hl hX hc hw=>KpS.put hX hc (by omega) (by omega) (by omega)) bz0 (fun _=>rfl)
  (fun pre X=>∃ H' v',BlI W W0 H a s bb v w.heap.size W2.heap.size (W2.heap.size + 1) (pre.any fun x=>wt s.ss x.1.1) (bl2S (bS s) b2 (pre.any fun x=>wt s.ss x.1.1)).1 (bl2S (bS s) b2 (pre.any fun x=>wt s.ss x.1.1)).2 X H' v')
  (fun _ _ _=>False)
  (fun pre X Y row h hg hr=>by obtain ⟨H',v',h⟩:=h;obtain ⟨H2,h2⟩:=h.own S0.out.sb HH.out.2.2.1 (by omega) hg hr;exact ⟨H2,v',h2⟩)
  (fun c s X Y row h _ _=>h)
  ⟨H2,v2,HI0.out.1⟩
  (fun x a' X=>a' = { tmps:=#[.pointer (some ⟨a.sb,0,none⟩),.pointer (some ⟨bb,0,none⟩),.pointer (some ⟨w.heap.size,0,none⟩),.pointer (some ⟨w.heap.size + 1,0,none⟩),u4,u5,.pointer (some ⟨W2.heap.size,0,none⟩),.pointer (some ⟨x.1.2,0,none⟩),undef,undef,undef,undef,undef,.int .i64 2,.bool false,u15,u16,u17,u18,u19,u20,u21,u22,u23,u24,u25,u26,u27,u28,u29,u30,u31,u32,u33,u34,u35,u36,.int .i64 2,.pointer (some ⟨a.sb,0,none⟩),.func (.func 126) #[] #[.pointer (some ⟨W2.heap.size + 1,0,none⟩)],.pointer (some ⟨x.1.2,0,none⟩),undef,undef,undef,undef,undef,undef,undef,undef,undef,undef,undef,undef,undef,undef,undef,undef,undef,undef,undef,undef,undef,undef,undef,undef,undef,undef,undef,undef,undef,undef,undef,undef,undef,undef,undef,undef,undef,undef,undef,undef,undef,undef,undef,undef,undef,undef,undef,undef,undef,undef],defers:=[] })
  (fun x a' s A C row hs hg hr=>hs)
  ?assign ?body ?done ?stop
 case stop=>rintro D c pre X _ _ hF _;exact hF.elim
 case assign=>
  rintro ly pre ⟨⟨id,xb⟩,hx⟩ X K hi hK
  simp only [encE,eP] at hK ⊢
  have H1:=Lib.hid (And.intro hi hK)
  clear hi hK
  gi_wp2
  exact H1.out.2 _ _ ((KeepsOthers.refl _).from _) (KpS.refl _ _ _ _ _) H1.out.1 rfl
 case body=>
  rintro ly pre ⟨⟨id,xb⟩,hx⟩ a' X hl ⟨r,hr⟩ ⟨H',v',hI⟩ rfl hlen
  obtain ⟨q,hq⟩ : ∃ q,(pre.any fun x=>wt s.ss x.1.1) = q:=⟨_,rfl⟩
  rw [hq] at hI
  obtain ⟨l1,xa,x,l2,hsp,hid,hxb⟩:=ents_split hx
  simp only at hid hxb
  subst hid hxb
  have hinc : Inc s.ss:=HH.out.2.1.st.li.up
  have hw : wt s.ss x.id = outWait x.out:=by rw [hsp] at hinc ⊢;exact wt_at (e:=(xa,x)) hinc
  have hsn : ((pre ++ ([⟨(x.id,xa.xb),hx⟩] : List (InE (ents s.ss)))).any fun y=>wt s.ss y.1.1) = (q || outWait x.out):=by rw [List.any_append,hq,← hw];simp
  have hst : StIn H' xa x:=hI.st.sb.st.li.all (xa,x) (by rw [bl2S_ss];show (xa,x) ∈ s.ss;rw [hsp];simp)
  have c1:=hst.c1 hI.st.mem
  obtain ⟨po,hpo⟩ : ∃ po,optP (xa.o.map (·.ob)) = po:=⟨_,rfl⟩
  have WT:=Lib.hid (waiting_any hst.o hI.st.mem)
  rw [hpo] at c1 WT
  have c6:=at_whole hI.x6 0 rfl
  have c2:=at_whole hI.x0 0 rfl
  have c3:=at_whole hI.x1 0 rfl
  have hbX : W2.heap.size < X.heap.size:=heap_lt hI.x6
  obtain ⟨wt1,hwt1⟩ : ∃ q,outWait x.out = q:=⟨_,rfl⟩
  rw [hwt1] at WT hsn
  simp only [List.getElem_toArray,List.getElem_cons_zero] at c2 c3 c6
  have HX:=Lib.hid (And.intro hI (And.intro hsn hbX))
  clear hI hsn hst hpo hsp hinc hw hq hr cB cb13 hmp hbX hwt1
  unfold ptr at *
  cases wt1 with
  | false=>
   gi_wp2_with (refine ⟨trivial,?_⟩;gi_at_call 131;refine (CallsIn.inRound ly (callsIn_wide.2 WT.out)).mono ?_;rintro e wv ⟨rfl,n,rfl⟩)
   have S:=(Stp.refl HX.out.1.st.sb HX.out.1.st.mem).drewN n
   exact ⟨HX.out.1.keeps S,HX.out.1.kps S,H',v',by rw [HX.out.2.1,Bool.or_false];exact HX.out.1.step S⟩
  | true=>
   cases q with
   | true=>
    gi_wp2_with (refine ⟨trivial,?_⟩;gi_at_call 131;refine (CallsIn.inRound ly (callsIn_wide.2 WT.out)).mono ?_;rintro e wv ⟨rfl,n,rfl⟩)
    have S:=(Stp.refl HX.out.1.st.sb HX.out.1.st.mem).drewN n
    exact ⟨HX.out.1.keeps S,HX.out.1.kps S,H',v',by rw [HX.out.2.1,Bool.or_true];exact HX.out.1.step S⟩
   | false=>
    obtain ⟨ib,hib⟩ : ∃ q,s.cr.isBl = q:=⟨_,rfl⟩
    have BK : Hid (∀ n,Calls Tryz.prog 132 #[.pointer (some ⟨a.cb,0,none⟩)] (X.drewN n) fun e w5=>e = .returned (.tuple #[.int .i64 (if ib then s.cr.most else 0),.bool ib]) ∧ ∃ H5,BlI W W0 H a s bb v w.heap.size W2.heap.size (W2.heap.size + 1) false { bS s with cr:=s.cr.bl } b2 w5 H5 v' ∧ Stp W X w5 H' H5 a (bS s) { bS s with cr:=s.cr.bl } bb v' v' b2):=Lib.hid (fun n=>by
     have S:=(Stp.refl HX.out.1.st.sb HX.out.1.st.mem).drewN n
     refine (blocked_any a.cb s.cr (X.drewN n) (S.sb.st.snd S.mem) HX.out.1.st.sb.st.cr HK.out.2.2.2.2).mono ?_
     rintro e w5 ⟨rfl,hB⟩
     obtain ⟨H5,S5⟩:=S.sb.setC S.mem hB HX.out.1.st.sb.st.cr.bl
     rw [hib]
     exact ⟨rfl,H5,HX.out.1.step (S.trans S5),S.trans S5⟩)
    have c30 : X.cell? ⟨a.sb,30,none⟩ = some (.pointer (some ⟨a.cb,0,none⟩)):=at_whole (HX.out.1.st.mem.at HX.out.1.st.sb.st.sb) 30 rfl
    have hM6 : a.M < W2.heap.size:=by omega
    have hs6 : a.sb < W2.heap.size:=by omega
    have FIN : Hid (∀ Y H5 v5 b5,BlI W W0 H a s bb v w.heap.size W2.heap.size (W2.heap.size + 1) false { bS s with cr:=s.cr.bl } b5 Y H5 v5 → Stp W X Y H' H5 a (bS s) { bS s with cr:=s.cr.bl } bb v' v5 b5 → KeepsFrom W4.heap.size X (Y.setCell ⟨W2.heap.size,0,none⟩ (.bool true)) ∧ KpS W4.heap.size (W2.heap.size + 1) a.sb a.M X (Y.setCell ⟨W2.heap.size,0,none⟩ (.bool true)) ∧ ∃ H6,BlI W W0 H a s bb v w.heap.size W2.heap.size (W2.heap.size + 1) true { bS s with cr:=s.cr.bl } b5 (Y.setCell ⟨W2.heap.size,0,none⟩ (.bool true)) H6 v5):=Lib.hid (fun Y H5 v5 b5 hY S=>by
     have hle:=S.chg.size
     have hlt:=HX.out.2.2
     refine ⟨(HX.out.1.keeps S).trans ((KeepsOthers.setCell _ _ _).from _),(HX.out.1.kps S).trans (KpS.set (by omega) (by omega) (by omega) (by omega) (heap_lt hY.xB) (by omega)),hY.set6 HH.out.2.2.1 (by omega) ⟨by omega,by omega,by omega⟩ true⟩)
    cases ib with
    | false=>
     gi_wp2_with (first | (refine ⟨trivial,?_⟩;gi_at_call 131;refine (CallsIn.inRound ly (callsIn_wide.2 WT.out)).mono ?_;rintro e wv ⟨rfl,n,rfl⟩) | (refine ⟨trivial,?_⟩;gi_at_call 132;refine (CallsIn.inRound ly (callsIn_wide.2 (BK.out _))).mono ?_;rintro e w5 ⟨rfl,H5,hI5,hS5⟩;have k6 : w5.cell? ⟨W2.heap.size,0,none⟩ = some (.bool false):=at_whole hI5.x6 0 rfl;have z6:=frozen_whole hI5.x6 0;have R5:=Lib.hid (And.intro hI5 hS5);clear hI5 hS5))
     obtain ⟨q1,q2,H6,q3⟩:=FIN.out w5 H5 v' b2 R5.out.1 R5.out.2
     refine ⟨q1,q2,H6,v',?_⟩
     rw [HX.out.2.1,Bool.false_or,bl2S_t (s:=bS s) hib]
     exact q3
    | true=>
     have hv : FrV (fDBl s.cr.most):=v_dBl HX.out.1.st.sb.st.cr.most
     have AD : Hid (∀ w5 H5,BlI W W0 H a s bb v w.heap.size W2.heap.size (W2.heap.size + 1) false { bS s with cr:=s.cr.bl } b2 w5 H5 v' → Stp W X w5 H' H5 a (bS s) { bS s with cr:=s.cr.bl } bb v' v' b2 → Calls Tryz.prog 130 #[.pointer (some ⟨bb,0,none⟩),(fDBl s.cr.most).val] w5 fun e w6=>e = .returned (.bool (b2.fits (fDBl s.cr.most))) ∧ ∃ H6 v6,BlI W W0 H a s bb v w.heap.size W2.heap.size (W2.heap.size + 1) false { bS s with cr:=s.cr.bl } (b2.add (fDBl s.cr.most)) w6 H6 v6 ∧ Stp W X w6 H' H6 a (bS s) { bS s with cr:=s.cr.bl } bb v' v6 (b2.add (fDBl s.cr.most))):=Lib.hid (fun w5 H5 hI5 hS5=>by
      refine (add_stp hI5.st.mem hI5.st.sb HK2.out.1 _ hv).mono ?_
      rintro e w6 ⟨rfl,H6,v6,S6⟩
      exact ⟨rfl,H6,v6,hI5.step S6,hS5.trans S6⟩)
     clear hv
     gi_wp2_with (first | (refine ⟨trivial,?_⟩;gi_at_call 131;refine (CallsIn.inRound ly (callsIn_wide.2 WT.out)).mono ?_;rintro e wv ⟨rfl,n,rfl⟩) | (refine ⟨trivial,?_⟩;gi_at_call 132;refine (CallsIn.inRound ly (callsIn_wide.2 (BK.out _))).mono ?_;rintro e w5 ⟨rfl,H5,hI5,hS5⟩;have k3 : w5.cell? ⟨w.heap.size + 1,0,none⟩ = some (.pointer (some ⟨bb,0,none⟩)):=at_whole hI5.x1 0 rfl;have R5:=Lib.hid (And.intro hI5 hS5);clear hI5 hS5) | (refine ⟨trivial,?_⟩;gi_at_call 130;refine (CallsIn.inRound ly (callsIn_wide.2 (AD.out _ _ R5.out.1 R5.out.2))).mono ?_;rintro e w6 ⟨rfl,H6,v6,hI6,hS6⟩;have k6 : w6.cell? ⟨W2.heap.size,0,none⟩ = some (.bool false):=at_whole hI6.x6 0 rfl;have z6:=frozen_whole hI6.x6 0;have R6:=Lib.hid (And.intro hI6 hS6);clear hI6 hS6))
     obtain ⟨q1,q2,H7,q3⟩:=FIN.out w6 H6 v6 _ R6.out.1 R6.out.2
     refine ⟨q1,q2,H7,v6,?_⟩
     rw [HX.out.2.1,Bool.false_or,bl2S_t (s:=bS s) hib]
     exact q3
 case done=>
  rintro D xs X hD hxs ⟨H5,v5,hI⟩ hKD
  have hinc : Inc s.ss:=HH.out.2.1.st.li.up
  have hq : (xs.any fun x=>wt s.ss x.1.1) = s.ss.any (fun e=>outWait e.2.out):=by
   have h1:=congrArg (fun l=>l.any fun p=>wt s.ss p.1) hxs
   simp only [List.any_map] at h1
   rw [← wt_all hinc]
   exact h1
  obtain ⟨q,hq2⟩ : ∃ q,(s.ss.any fun e=>outWait e.2.out) = q:=⟨_,rfl⟩
  rw [hq,hq2] at hI
  obtain ⟨s3,hs3⟩ : ∃ y,(bl2S (bS s) b2 q).1 = y:=⟨_,rfl⟩
  obtain ⟨b3,hb3⟩ : ∃ y,(bl2S (bS s) b2 q).2 = y:=⟨_,rfl⟩
  have hss3 : s3.ss = s.ss:=by rw [← hs3,bl2S_ss];rfl
  have hb3k : b3.Ok ∧ b3.fs.length ≤ b.fs.length + 3:=by
   rw [← hb3]
   have h1:=HK2.out
   have h2:=HK.out.2.1
   unfold bl2S
   split
   ·have:=h1.1.addIf (bS s).cr.isBl (v_dBl HH.out.2.1.st.cr.most) (by omega)
    exact ⟨this.1,by have:=this.2;exact Nat.le_trans this (by omega)⟩
   ·exact ⟨h1.1,by show b2.fs.length ≤ _;omega⟩
  rw [hs3,hb3] at hI
  have hG3 : BlG s3 (b.fs.length + 3) s3 b3:=⟨hb3k.1,hb3k.2,rfl,by rw [hss3];exact hinc,by rw [hss3];exact HRS.out⟩
  have hY:=(Below.refl _ X).alloc (Nat.le_refl _) (.cells #[.pointer (some ⟨a.sb,0,none⟩)] 25)
  have hS:=(Stp.refl hI.st.sb hI.st.mem).after hY
  have hI':=hI.step hS
  have hJ0 : BlI W W0 H a s bb v w.heap.size W2.heap.size X.heap.size q s3 b3 (X.alloc (.cells #[.pointer (some ⟨a.sb,0,none⟩)] 25)) H5 v5:=
   ⟨hI'.x0,hI'.x1,hI'.x6,heap_alloc_new X _,hI'.st,fun k hk=>by
    rcases hk with h | h | h | rfl
    ·exact hI'.nf _ (.inl h)
    ·exact hI'.nf _ (.inr (.inl h))
    ·exact hI'.nf _ (.inr (.inr (.inl h)))
    ·exact hI.st.sb.fresh hI.st.mem (Nat.le_refl _)⟩
  have hKD':=heap_below hY hKD
  have c2 : X.cell? ⟨w.heap.size,0,none⟩ = some (.pointer (some ⟨a.sb,0,none⟩)):=at_whole hI.x0 0 rfl
  have hz5 : (X.alloc (.cells #[.pointer (some ⟨a.sb,0,none⟩)] 25)).heap.size = X.heap.size + 1:=World.size_alloc ..
  have h2X : W2.heap.size + 1 < X.heap.size:=heap_lt hI.xB
  have hDX : D < X.heap.size:=heap_lt hKD
  have HPL:=Lib.hid (And.intro hs3 (And.intro hb3 (And.intro hq2 hss3)))
  have HJ:=Lib.hid (And.intro hJ0 (And.intro hG3 hKD'))
  clear hq hq2 hs3 hb3 hb3k hY hS hI' hI hKD cB cb13 hmp hJ0 hG3 hKD' hxs
  go_wp2_with (go_at_call 62;refine (all_any _ _).mono ?_;rintro e wv ⟨rfl,rfl⟩)
  obtain ⟨Y0,hY0⟩ : ∃ y,X.alloc (.cells #[.pointer (some ⟨a.sb,0,none⟩)] 25) = y:=⟨_,rfl⟩
  rw [hY0] at hz5 HJ ⊢
  have hupE2 : UpE 1152921504606846976 (ents s.ss):=⟨by unfold ents;rw [List.pairwise_map];exact hinc,fun p hp=>by
   obtain ⟨l1,xa,x,l2,e,e2,_⟩:=ents_split hp
   rw [← e2];exact HH.out.2.1.st.li.bd (xa,x) (by rw [e];simp)⟩
  have hmp : MapE Y0 a.M (ents s.ss).length (ents s.ss):=by
   obtain ⟨mo,m1,_,m3⟩:=HJ.out.1.st.sb.st.mp
   have:=m3 Y0 (HJ.out.1.st.mem.at m1)
   rw [HPL.out.2.2.2] at this
   exact this
  have cB:=at_whole HJ.out.1.xB 0 rfl
  have cb13:=HJ.out.1.st.sb.st.c13 HJ.out.1.st.mem
  clear c2 hY0
  refine (wpIn_wide (n:=20)).1 ?_
  refine wpIn_rangeFunc_ownH rfl (by decide) (gf:=126) (lb:=#[.pointer (some ⟨X.heap.size,0,none⟩)]) rfl trivial (enters_of Tryz.func126 (by kernel_rfl) rfl)
   (all_stops 19 (by decide) X.heap.size a.sb a.M (ents s.ss).length Y0.heap.size (ents s.ss) 1152921504606846976 hupE2 (by decide) hll Y0 (Nat.le_refl _) (by omega) (by omega) (by omega) cB cb13 hmp)
   (fun h k=>h.trans k) (fun X l o o' hl hX hc hw=>KpS.put hX hc (by omega) (by omega) (by omega)) bz0 (fun _=>rfl)
   (fun pre Z=>Z.heap[D]? = some (.deferred (some [])) ∧ BlG s3 (b.fs.length + 3 + pre.length) (blF s3 b3 (pre.map (fun y : InE (ents s.ss)=>y.1.1))).1 (blF s3 b3 (pre.map (fun y : InE (ents s.ss)=>y.1.1))).2 ∧ ∃ H' v',BlI W W0 H a s bb v w.heap.size W2.heap.size X.heap.size q (blF s3 b3 (pre.map (fun y : InE (ents s.ss)=>y.1.1))).1 (blF s3 b3 (pre.map (fun y : InE (ents s.ss)=>y.1.1))).2 Z H' v')
   (fun _ _ _=>False)
   (fun pre Z Y row h hg hr=>⟨(hg.block D (heap_lt h.1) (fun e=>by have:=(hr D e.symm).1;omega)).trans h.1,h.2.1,by obtain ⟨_,_,H',v',h⟩:=h;obtain ⟨H2,h2⟩:=h.own S0.out.sb HH.out.2.2.1 (by omega) hg hr;exact ⟨H2,v',h2⟩⟩)
   (fun c s X Y row h _ _=>h)
   ⟨HJ.out.2.2,HJ.out.2.1,H5,v5,HJ.out.1⟩
   (fun x a' Zq=>a' = { tmps:=#[.pointer (some ⟨a.sb,0,none⟩),.pointer (some ⟨bb,0,none⟩),.pointer (some ⟨w.heap.size,0,none⟩),.pointer (some ⟨w.heap.size + 1,0,none⟩),u4,u5,.pointer (some ⟨W2.heap.size,0,none⟩),undef,undef,undef,.pointer (some ⟨x.1.2,0,none⟩),undef,undef,.int .i64 2,.bool false,u15,u16,u17,u18,u19,u20,u21,u22,u23,u24,u25,u26,u27,u28,u29,u30,u31,u32,u33,u34,u35,u36,.int .i64 2,.pointer (some ⟨a.sb,0,none⟩),.func (.func 126) #[] #[.pointer (some ⟨W2.heap.size + 1,0,none⟩)],undef,undef,undef,undef,undef,undef,undef,undef,undef,undef,undef,undef,undef,undef,undef,undef,undef,undef,undef,undef,undef,undef,.pointer (some ⟨a.sb,0,none⟩),.func (.func 126) #[] #[.pointer (some ⟨X.heap.size,0,none⟩)],.pointer (some ⟨x.1.2,0,none⟩),undef,undef,undef,undef,undef,undef,undef,undef,undef,undef,undef,undef,undef,undef,undef,undef,undef,undef,undef,undef,undef,undef,undef,undef,undef,undef],defers:=[] })
   (fun x a' s A C row hs hg hr=>hs)
   ?assign2 ?body2 ?done2 ?stop2
  case stop2=>rintro D c pre X _ _ hF _;exact hF.elim
  case assign2=>
   rintro ly pre ⟨⟨id,xb⟩,hx⟩ X K hi hK
   simp only [encE,eP] at hK ⊢
   have H1:=Lib.hid (And.intro hi hK)
   clear hi hK
   gi_wp2
   exact H1.out.2 _ _ ((KeepsOthers.refl _).from _) (KpS.refl _ _ _ _ _) H1.out.1 rfl
  case body2=>
   rintro ly pre ⟨⟨id,xb⟩,hx⟩ a' Z hl ⟨r,hr⟩ ⟨hD',hG,H',v',hI⟩ rfl hlen
   obtain ⟨s4,hs4⟩ : ∃ y,(blF s3 b3 (pre.map (fun y : InE (ents s.ss)=>y.1.1))).1 = y:=⟨_,rfl⟩
   obtain ⟨b4,hb4⟩ : ∃ y,(blF s3 b3 (pre.map (fun y : InE (ents s.ss)=>y.1.1))).2 = y:=⟨_,rfl⟩
   rw [hs4,hb4] at hG hI
   have hx4 : (id,xb) ∈ ents s4.ss:=by rw [hG.en,HPL.out.2.2.2];exact hx
   obtain ⟨l1,xa,x,l2,hsp,hid,hxb⟩:=ents_split hx4
   simp only at hid hxb
   subst hid hxb
   have hsn : blF s3 b3 ((pre ++ ([⟨(x.id,xa.xb),hx⟩] : List (InE (ents s.ss)))).map (fun y : InE (ents s.ss)=>y.1.1)) = ({ s4 with ss:=l1 ++ (xa,(blX x b4).1) :: l2 },(blX x b4).2):=by
    rw [List.map_append]
    show blF s3 b3 (_ ++ [x.id]) = _
    rw [blF_snoc,hs4,hb4,blStep_at hsp hG.inc]
   have hst : StIn H' xa x:=hI.st.sb.st.li.all (xa,x) (by rw [hsp];simp)
   have hidb : x.id < 1152921504606846976:=hI.st.sb.st.li.bd (xa,x) (by rw [hsp];simp)
   have hlN : (ents s.ss).length = s.ss.length:=by unfold ents;simp
   have hG' : BlG s3 (b.fs.length + 3 + pre.length + 1) { s4 with ss:=l1 ++ (xa,(blX x b4).1) :: l2 } (blX x b4).2:=by
    refine hG.put hsp (blX_id x b4) (fun o' ho'=>?_) ?_ (Nat.le_trans (blX_len x b4) (by have:=hG.len;omega))
    ·cases hw : outWait x.out with
     | false=>rw [blX_no hw] at ho';exact hG.rep (xa,x) (by rw [hsp];simp) o' ho'
     | true=>
      cases hxo : x.out with
      | none=>rw [hxo] at hw;cases hw
      | some o=>
       rw [blX_yes hxo hw rfl] at ho'
       cases ho'
       obtain ⟨_,oa,_,hO⟩:=hI.st.sb.outAt hsp hxo
       exact RepOk.bl hO.cr (hG.rep (xa,x) (by rw [hsp];simp) o hxo)
    ·cases hw : outWait x.out with
     | false=>rw [blX_no hw];exact hG.ok
     | true=>
      cases hxo : x.out with
      | none=>rw [hxo] at hw;cases hw
      | some o=>
       rw [blX_yes hxo hw rfl]
       obtain ⟨_,oa,_,hO⟩:=hI.st.sb.outAt hsp hxo
       exact (hG.ok.addIf o.cr.isBl (v_sdBl ⟨by omega,by omega⟩ hO.cr.most) (by have:=hG.len;have:=HK.out.2.1;omega)).1
   have FIN : Hid (∀ Zn H6 v6,Stp W Z Zn H' H6 a s4 { s4 with ss:=l1 ++ (xa,(blX x b4).1) :: l2 } bb v' v6 (blX x b4).2 → KeepsFrom Y0.heap.size Z Zn ∧ KpS Y0.heap.size X.heap.size a.sb a.M Z Zn ∧ Zn.heap[D]? = some (.deferred (some [])) ∧ BlG s3 (b.fs.length + 3 + (pre ++ ([⟨(x.id,xa.xb),hx⟩] : List (InE (ents s.ss)))).length) (blF s3 b3 ((pre ++ ([⟨(x.id,xa.xb),hx⟩] : List (InE (ents s.ss)))).map (fun y : InE (ents s.ss)=>y.1.1))).1 (blF s3 b3 ((pre ++ ([⟨(x.id,xa.xb),hx⟩] : List (InE (ents s.ss)))).map (fun y : InE (ents s.ss)=>y.1.1))).2 ∧ ∃ H7 v7,BlI W W0 H a s bb v w.heap.size W2.heap.size X.heap.size q (blF s3 b3 ((pre ++ ([⟨(x.id,xa.xb),hx⟩] : List (InE (ents s.ss)))).map (fun y : InE (ents s.ss)=>y.1.1))).1 (blF s3 b3 ((pre ++ ([⟨(x.id,xa.xb),hx⟩] : List (InE (ents s.ss)))).map (fun y : InE (ents s.ss)=>y.1.1))).2 Zn H7 v7):=Lib.hid (fun Zn H6 v6 S=>by
    rw [hsn]
    refine ⟨hI.keeps S,hI.kps S,(hI.keeps (C:=D) S).same D _ (Nat.le_refl _) hD' rfl,?_,H6,v6,hI.step S⟩
    rw [List.length_append]
    exact hG')
   have c1:=hst.c1 hI.st.mem
   obtain ⟨po,hpo⟩ : ∃ po,optP (xa.o.map (·.ob)) = po:=⟨_,rfl⟩
   have WT:=Lib.hid (waiting_any hst.o hI.st.mem)
   rw [hpo] at c1 WT
   have c3 : Z.cell? ⟨w.heap.size + 1,0,none⟩ = some (.pointer (some ⟨bb,0,none⟩)):=at_whole hI.x1 0 rfl
   have HX:=Lib.hid (And.intro hI (And.intro hG hsp))
   obtain ⟨wt1,hwt1⟩ : ∃ q,outWait x.out = q:=⟨_,rfl⟩
   rw [hwt1] at WT
   clear hsn hG hG' hr cB cb13 hmp hx4 hs4 hb4
   cases wt1 with
   | false=>
    have e1 : Hid (({ s4 with ss:=l1 ++ (xa,(blX x b4).1) :: l2 } : SetS) = s4 ∧ (blX x b4).2 = b4):=Lib.hid (by rw [blX_no hwt1];exact ⟨put_ss hsp,rfl⟩)
    clear hwt1 hpo hst hsp hI
    gi_wp2_with (refine ⟨trivial,?_⟩;gi_at_call 131;refine (CallsIn.inRound ly (callsIn_wide.2 WT.out)).mono ?_;rintro e wv ⟨rfl,n,rfl⟩)
    exact FIN.out _ H' v' (by rw [e1.out.1,e1.out.2];exact (Stp.refl HX.out.1.st.sb HX.out.1.st.mem).drewN n)
   | true=>
    cases hxo : x.out with
    | none=>rw [hxo] at hwt1;cases hwt1
    | some o=>
     obtain ⟨_,oa,hoa,hO⟩:=hI.st.sb.outAt hsp hxo
     obtain rfl : po = .pointer (some ⟨oa.ob,0,none⟩):=by rw [← hpo,hoa];rfl
     obtain ⟨ib,hib⟩ : ∃ q,o.cr.isBl = q:=⟨_,rfl⟩
     have e1 : Hid (blX x b4 = ({ x with out:=some { o with cr:=o.cr.bl } },if ib then b4.add (fSDBl x.id o.cr.most) else b4)):=Lib.hid (blX_yes hxo hwt1 hib)
     rw [e1.out] at FIN
     have co:=hO.facts hI.st.mem 1 rfl
     have hrp:=HX.out.2.1.rep (xa,x) (by rw [hsp];simp) o hxo
     have HO:=Lib.hid (And.intro hO (And.intro hoa hxo))
     have hv : FrV (fSDBl x.id o.cr.most):=v_sdBl ⟨by omega,by omega⟩ hO.cr.most
     have hcb : oa.cb < Z.heap.size:=heap_lt (hI.st.mem.at hO.cb)
     have BK : Hid (∀ n,Calls Tryz.prog 132 #[.pointer (some ⟨oa.cb,0,none⟩)] (Z.drewN n) fun e w5=>e = .returned (.tuple #[.int .i64 (if ib then o.cr.most else 0),.bool ib]) ∧ ∃ H5,Stp W Z w5 H' H5 a s4 { s4 with ss:=l1 ++ (xa,{ x with out:=some { o with cr:=o.cr.bl } }) :: l2 } bb v' v' b4 ∧ w5.cell? ⟨w.heap.size + 1,0,none⟩ = some (.pointer (some ⟨bb,0,none⟩)) ∧ w5.cell? ⟨xa.xb,0,none⟩ = some (.int .i64 x.id)):=Lib.hid (fun n=>by
      have S:=(Stp.refl HX.out.1.st.sb HX.out.1.st.mem).drewN n
      refine (blocked_any oa.cb o.cr (Z.drewN n) (HO.out.1.snd S.mem) HO.out.1.cr hrp).mono ?_
      rintro e w5 ⟨rfl,hB⟩
      obtain ⟨H5,S5⟩:=S.sb.outC S.mem HX.out.2.2 HO.out.2.1 HO.out.2.2 HO.out.1 hB HO.out.1.cr.bl
      rw [hib]
      have S6:=S.trans S5
      exact ⟨rfl,H5,S6,at_whole (HX.out.1.step S6).x1 0 rfl,(S6.sb.st.li.all (xa,{ x with out:=some { o with cr:=o.cr.bl } }) (by simp)).c0 S6.mem⟩)
     have HV:=Lib.hid hv
     clear hwt1 hpo hst hsp hI hxo hoa hO hrp hv e1 hcb
     cases ib with
     | false=>
      gi_wp2_with (first | (refine ⟨trivial,?_⟩;gi_at_call 131;refine (CallsIn.inRound ly (callsIn_wide.2 WT.out)).mono ?_;rintro e wv ⟨rfl,n,rfl⟩) | (refine ⟨trivial,?_⟩;gi_at_call 132;refine (CallsIn.inRound ly (callsIn_wide.2 (BK.out _))).mono ?_;rintro e w5 ⟨rfl,H5,hS5,_,_⟩;have R5:=Lib.hid hS5;clear hS5))
      exact FIN.out _ H5 v' R5.out
     | true=>
      gi_wp2_with (first | (refine ⟨trivial,?_⟩;gi_at_call 131;refine (CallsIn.inRound ly (callsIn_wide.2 WT.out)).mono ?_;rintro e wv ⟨rfl,n,rfl⟩) | (refine ⟨trivial,?_⟩;gi_at_call 132;refine (CallsIn.inRound ly (callsIn_wide.2 (BK.out _))).mono ?_;rintro e w5 ⟨rfl,H5,hS5,k3,k0⟩;have R5:=Lib.hid hS5;clear hS5))
      have AD : Hid (Calls Tryz.prog 130 #[.pointer (some ⟨bb,0,none⟩),(fSDBl x.id o.cr.most).val] w5.drew fun e w6=>e = .returned (.bool (b4.fits (fSDBl x.id o.cr.most))) ∧ ∃ H6 v6,Stp W Z w6 H' H6 a s4 { s4 with ss:=l1 ++ (xa,{ x with out:=some { o with cr:=o.cr.bl } }) :: l2 } bb v' v6 (b4.add (fSDBl x.id o.cr.most))):=Lib.hid (by
       refine (add_stp R5.out.mem.drew R5.out.sb HX.out.2.1.ok _ HV.out).mono ?_
       rintro e w6 ⟨rfl,H6,v6,S6⟩
       exact ⟨rfl,H6,v6,R5.out.drew.trans S6⟩)
      have k3' : w5.drew.cell? ⟨w.heap.size + 1,0,none⟩ = some (.pointer (some ⟨bb,0,none⟩)):=k3
      have k0' : w5.drew.cell? ⟨xa.xb,0,none⟩ = some (.int .i64 x.id):=k0
      clear k3 k0 BK c1 co c3 WT
      refine rea.tail_region 83 7 (fun jj=>(#[.pointer (some ⟨bb,0,none⟩),.pointer (some ⟨xa.xb,0,none⟩),.pointer (some ⟨xa.xb,0,none⟩),.pointer (some ⟨xa.xb,0,none⟩),.int .i64 x.id,.int .i64 o.cr.most,.agg (fSDBl x.id o.cr.most).cells] : Array Value)[jj]?.getD undef) (fun _ w6=>∃ H6 v6,Stp W Z w6 H' H6 a s4 { s4 with ss:=l1 ++ (xa,{ x with out:=some { o with cr:=o.cr.bl } }) :: l2 } bb v' v6 (b4.add (fSDBl x.id o.cr.most))) rfl (by kernel_rfl) (by kernel_rfl) rfl (by simp) ?_ ?_ (fun v=>rfl) ?_
      ·rintro j oo hj ho aa ⟨hold,hdep⟩
       have o3:=hold 3 (by decide)
       have o10:=hold 10 (by decide)
       have o11:=hold 11 (by decide)
       simp at o3 o10 o11
       have hjj : j = 0 ∨ j = 1 ∨ j = 2 ∨ j = 3 ∨ j = 4 ∨ j = 5 ∨ j = 6:=by omega
       rcases hjj with rfl | rfl | rfl | rfl | rfl | rfl | rfl
       all_goals (cases ho;simp [Region.binds] at hdep;refine ⟨rfl,rfl,fun _ hf=>absurd hf (by simp [Oper.about]),?_⟩)
       all_goals first | (simp [go_sem,Act.eval,hdep,o3,o10,o11,k3',k0'];done) | (simp [go_sem,Act.eval,o3,o10,o11,k3',k0'];done) | (simp [go_sem,Act.eval,hdep,fSDBl,Fr.cells];exact ⟨rfl,rfl,rfl,rfl,rfl,rfl,rfl,rfl,rfl,rfl,rfl⟩)
      ·rintro oo ho aa ⟨hold,hdep⟩
       cases ho
       simp [Region.binds] at hdep
       refine ⟨rfl,rfl,fun K hK=>?_⟩
       unfold Oper.wpIn
       refine ⟨?_,?_⟩
       ·intro f hf;trivial
       ·simp [execOp,Oper.semAt,Oper.uponIn,resolve,invoke,go_sem,Act.eval,hdep]
        refine (CallsIn.inRound ly (callsIn_wide.2 AD.out)).mono ?_
        rintro e w6 ⟨rfl,H6,v6,S6⟩
        exact hK _ _ ⟨H6,v6,S6⟩
      ·rintro vv w6 ⟨H6,v6,S6⟩
       exact FIN.out _ H6 v6 S6
  case done2=>
   rintro D2 ys Y hD2 hys ⟨hKD,hG,H6,v6,hI⟩ hKD2
   have hne : D ≠ D2:=by omega
   have hKD1:=(World.putObj_heap_other (w:=Y) (o:=.deferred none) hne).trans hKD
   obtain ⟨H7,hI7⟩:=hI.own (Y:=Y.putObj D2 (.deferred none)) S0.out.sb HH.out.2.2.1 (Nat.le_refl _) (grownBy_putObj' Y D2 _) (fun k e=>by cases e;exact ⟨by omega,_,hKD2,rfl⟩)
   obtain ⟨H8,hI8⟩:=hI7.own (Y:=(Y.putObj D2 (.deferred none)).putObj D (.deferred none)) S0.out.sb HH.out.2.2.1 (Nat.le_refl _) (grownBy_putObj' _ D _) (fun k e=>by cases e;exact ⟨by omega,_,hKD1,rfl⟩)
   have hmap : ys.map (fun y : InE (ents s.ss)=>y.1.1) = s3.ss.map (·.2.id):=by
    have h1:=congrArg (fun l=>l.map (fun p : Ent=>p.1)) hys
    simp only [List.map_map] at h1
    rw [HPL.out.2.2.2]
    exact h1.trans (by unfold ents;rw [List.map_map];rfl)
   have hall:=blF_all (s:=s3) (b:=b3) (by rw [HPL.out.2.2.2];exact hinc)
   rw [← hmap] at hall
   have hP:=blP_eq (s:=s) (b:=b)
   rw [HB1.out,HB2.out,HPL.out.2.2.1,HPL.out.1,HPL.out.2.1] at hP
   have hp1 : (blP s.pl b).1 = { s3.pl with ss:=(blL s3.pl.ss b3).1 }:=by rw [hP]
   have hp2 : (blP s.pl b).2 = (blL s3.pl.ss b3).2:=by rw [hP]
   refine ⟨by simp,.inl ⟨_,_,rfl,run_takeDeferred hKD2,?_⟩⟩
   refine ⟨by simp,.inl ⟨_,_,rfl,run_takeDeferred hKD1,?_⟩⟩
   refine ⟨.tuple #[],by simp [results,Tryz.f64,go_sem],rfl,H8,_,v6,?_,hI8.st.tt,?_⟩
   ·rw [hp1];exact hall.1
   ·rw [hp2,← hall.2];exact hI8.st.sb
end
end
end Go.Proofs.YthckbmcmdcemkaaGreatDoor.stm
