/- Texts of this claim, one behind the other: Ph. -/
import Derived.Test.YthckbmcmdcemkaaGreatDoorBs35
import Derived.Test.YthckbmcmdcemkaaGreatDoorBs28
import Derived.Deep.CutRange
import Derived.Deep.CutBlock
set_option maxRecDepth 100000
set_option maxHeartbeats 16000000
set_option linter.unusedSimpArgs false
set_option linter.unusedVariables false
namespace Go.Proofs.YthckbmcmdcemkaaGreatDoor.stm
section
open Go.RowKit
open frm (FrV)
attribute [local go_sem] Oper.semAt_some
section
variable {W w w' w0 w1 w2 : World} {H H' : Nat → Option Obj} {a : SetA} {s s' : SetS} {bb : Nat} {v v' : Value} {b b' : Bat}
theorem fr_boxes (w : World) (o1 o2 : Obj) (x y : Value) : ((((w.alloc o1).alloc o2).alloc (.cells #[x] 132)).setCell ⟨w.heap.size + 1 + 1,0,none⟩ y).heap[w.heap.size]? = some o1 ∧ ((((w.alloc o1).alloc o2).alloc (.cells #[x] 132)).setCell ⟨w.heap.size + 1 + 1,0,none⟩ y).heap[w.heap.size + 1]? = some o2 ∧
  ((((w.alloc o1).alloc o2).alloc (.cells #[x] 132)).setCell ⟨w.heap.size + 1 + 1,0,none⟩ y).heap[w.heap.size + 1 + 1]? = some (.cells #[y] 132 (0,0)) ∧ Below w.heap.size w ((((w.alloc o1).alloc o2).alloc (.cells #[x] 132)).setCell ⟨w.heap.size + 1 + 1,0,none⟩ y):=by
 have hz1 : (w.alloc o1).heap.size = w.heap.size + 1:=World.size_alloc ..
 have hz2 : ((w.alloc o1).alloc o2).heap.size = w.heap.size + 1 + 1:=by rw [World.size_alloc,hz1]
 have hb1:=(Below.refl w.heap.size w).alloc (Nat.le_refl _) o1
 have e1:=heap_alloc_new w o1
 have e2:=heap_alloc_new (w.alloc o1) o2
 have e3:=heap_alloc_new ((w.alloc o1).alloc o2) (.cells #[x] 132)
 have q2 : ∀ o : Obj,Below (w.alloc o1).heap.size (w.alloc o1) ((w.alloc o1).alloc o2):=fun _=>bz0.alloc (Nat.le_refl _) o2
 have q3 : Below ((w.alloc o1).alloc o2).heap.size ((w.alloc o1).alloc o2) (((w.alloc o1).alloc o2).alloc (.cells #[x] 132)):=bz0.alloc (Nat.le_refl _) _
 have f1:=heap_below q3 (heap_below (q2 o1) e1)
 have f2:=heap_below q3 e2
 rw [hz1] at f2
 rw [hz2] at e3
 refine ⟨(heap_setCell_other _ _ _ _ (show w.heap.size ≠ w.heap.size + 1 + 1 by omega)).trans f1,(heap_setCell_other _ _ _ _ (show w.heap.size + 1 ≠ w.heap.size + 1 + 1 by omega)).trans f2,heap_setCell_same _ (w.heap.size + 1 + 1) 0 _ 132 y e3,?_⟩
 exact ((hb1.trans ((q2 o1).mono hb1.size)).trans (q3.mono (by rw [hz2];omega))).setCell (p:=⟨w.heap.size + 1 + 1,0,none⟩) (by simp;omega) y
theorem RowH.form {e : TypeId} {size n : Nat} {xs : List Value} (h : RowH H e size v n xs) : ∃ o m c,v = .slice o m c:=by
 rcases h.2 with ⟨rfl,_⟩ | ⟨g,cap,cur,rfl,_⟩
 iterate 2 (· exact ⟨_,_,_,rfl⟩)
theorem put_pl {p : SetP} {l : List (StA × Strm)} (h : p.ss = l.map (·.2)) : (SetS.put p l).pl = p:=by
 cases p
 simp only at h
 subst h
 rfl
theorem ctl_pre {l : List Nat} (hinc : Inc s.ss) (hp : l <+: s.ss.map (·.2.id)) (h : (ctlF s b l).2.2 = false ∨ s.ss.length ≤ l.length) : (ctlF s b l).1.pl = { s.pl with ss:=(ctlL s.pl.ss b).1 } ∧ (ctlF s b l).2 = (ctlL s.pl.ss b).2:=by
 have e:=List.prefix_iff_eq_take.1 hp
 have h2:=ctlF_go s.ss [] s b l.length rfl hinc (by rw [← e];exact h)
 rw [← e] at h2
 exact h2
theorem FGood.ctl {p : SetP} {l : List Strm} (h : FGood p) (e : s'.pl = { p with ss:=l }) (hst : ∀ x ∈ s'.pl.ss,SGood x) (hl : s'.pl.ss.length ≤ 5000) : FGood s'.pl:=by
 have e1 : s'.pl.g0 = p.g0:=by rw [e]
 have e2 : s'.pl.g1 = p.g1:=by rw [e]
 have e3 : s'.pl.cr = p.cr:=by rw [e]
 exact ⟨hst,e1 ▸ h.g0,e2 ▸ h.g1,e1 ▸ h.o0,e2 ▸ h.o1,e3 ▸ h.ok,e3 ▸ h.rp,hl⟩
theorem ents_len {l l' : List (StA × Strm)} (h : ents l = ents l') : l.length = l'.length:=by
 have:=congrArg List.length h
 unfold ents at this
 simpa using this
theorem Frames_any (hm : Mem W w H) (hs : SetIn H a s) (hg : FGood s.pl) (most : Int) (hl0 : -80000 ≤ most) (hl1 : most ≤ 80000) :
  Calls Tryz.prog 21 #[ptr a.sb,.int .i64 most] w fun e w'=>∃ v fs H' s',e = .returned v ∧ FramesP s.pl most s'.pl fs ∧ FGood s'.pl ∧ fs.length ≤ 80000 ∧ SetIn H' a s' ∧ RowH H' 38 13 v fs.length (frs fs) ∧ (∀ k,v.ownBlock = some k → ¬ s'.foot a k) ∧ To W w' H H' (s.foot a) (fun k=>s'.foot a k ∨ v.ownBlock = some k):=by
 obtain ⟨x0,x1,x2,x3⟩:=fr_boxes w (.cells #[.slice none 0 0] 34) (.cells #[.slice none 0 0,.int .i64 most] 134) (.pointer none) (.pointer (some ⟨w.heap.size + 1,0,none⟩))
 obtain ⟨W0,hW0⟩ : ∃ y,(((w.alloc (.cells #[.slice none 0 0] 34)).alloc (.cells #[.slice none 0 0,.int .i64 most] 134)).alloc (.cells #[.pointer none] 132)).setCell ⟨w.heap.size + 1 + 1,0,none⟩ (.pointer (some ⟨w.heap.size + 1,0,none⟩)) = y:=⟨_,rfl⟩
 rw [hW0] at x0 x1 x2 x3
 obtain ⟨n,hn⟩ : ∃ y,w.heap.size = y:=⟨_,rfl⟩
 have hWn : W.heap.size ≤ n:=by rw [← hn];exact hm.below.size
 have hWW : Below W.heap.size W W0:=hm.below.trans (x3.mono hm.below.size)
 have hS0 : SB (full W W0) a s (n + 1) (.slice none 0 0) ⟨[],most⟩:=by
  rw [← hn]
  refine ⟨hs.keep (fun k o hk e=>full_is (heap_below x3 (hm.at e)) (hm.far k o e).2),⟨full_is x1 (by have:=hm.below.size;omega),RowH.nil _ _ _⟩,fun k hk hb=>?_⟩
  obtain ⟨o,ho⟩:=hs.dom hk
  have:=hm.lt ho
  rcases hb with hb | hb
  ·omega
  ·cases hb
 have hzW : W0.heap.size = w.heap.size + 3:=by rw [← hW0];simp [World.size_alloc]
 have hF0 : FuI W W0 a s (n + 1) (.slice none 0 0) n (n + 2) (.slice none 0 0) s ⟨[],most⟩ W0 (.slice none 0 0):=by
  refine ⟨hWW,by omega,hS0,To.refl (Mem.full hWW) _,by rw [← hn];exact x0,by rw [← hn];exact x2,hWn,by omega,fun k hk c=>?_⟩
  rcases c with c | c | c
  ·obtain ⟨o,ho⟩:=hs.dom c
   have:=hm.lt ho
   omega
  ·omega
  ·cases c
 have hbm:=BatM.new most
 have hbk:=hbm.ok hl0 hl1
 have CL:=Lib.hid (climits_any (Mem.full hWW) hS0 hbk.1 (by simp) hg.g0 hg.g1)
 have HH:=Lib.hid (And.intro hm (And.intro hs (And.intro hg (And.intro hl0 (And.intro hl1 (And.intro hWW (And.intro hF0 (And.intro x3 (And.intro hn hWn)))))))))
 have HB:=Lib.hid (BatM.cl (p:=s.pl) hbm)
 have HG:=Lib.hid (hg.cl ⟨[],most⟩)
 rw [hn] at x0 x1 x2 hW0
 have c2 : W0.cell? ⟨n + 1 + 1,0,none⟩ = some (.pointer (some ⟨n + 1,0,none⟩)):=at_whole x2 0 rfl
 obtain ⟨q,hq⟩ : ∃ q,(clP s.pl ⟨[],most⟩).2.2 = q:=⟨_,rfl⟩
 rw [hq] at CL
 have HQ:=Lib.hid hq
 clear hm hs hg hl0 hl1 hWW hS0 hF0 hbm hbk x0 x1 x2 x3 hWn hq
 unfold ptr at *
 refine (callsIn_wide (n:=20)).1 ?_
 refine callsIn_of_wp_marks Tryz.func21 rfl trivial ?_ rfl
 simp only [Tryz.ntmps21,List.size_toArray,List.length_cons,List.length_nil,Nat.reduceAdd,Nat.reduceSub,Array.replicate_succ,Array.replicate_zero,List.push_toArray,List.append_toArray,List.nil_append,List.cons_append]
 refine wpIn_wide.2 ?_
 go_upto_region 4 with fail
 cases q with
 | false=>
  go_upto_region 5 with (go_at_call 61;refine CL.out.mono ?_;rintro e w1 ⟨rfl,H1,v1,S1⟩;have R1:=Lib.hid (HH.out.2.2.2.2.2.2.1.step S1.tt S1.sb);clear S1)
  obtain ⟨vo,vm,vc,rfl⟩:=R1.out.sb.bt.row.form
  have c2 : w1.cell? ⟨n + 1 + 1,0,none⟩ = some (.pointer (some ⟨n + 1,0,none⟩)):=at_whole R1.out.x2 0 rfl
  have cb : w1.cell? ⟨n + 1,0,none⟩ = some (.slice vo vm vc):=at_whole (R1.out.mem.at R1.out.sb.bt.bb) 0 rfl
  have z0:=frozen_whole R1.out.x0 0
  have c0 : w1.cell? ⟨n,0,none⟩ = some (.slice none 0 0):=at_whole R1.out.x0 0 rfl
  go_wp2_with fail
  have hP : FramesP s.pl most (clP s.pl ⟨[],most⟩).1 (clP s.pl ⟨[],most⟩).2.1.fs:=by
   unfold FramesP
   rw [HQ.out]
   exact ⟨rfl,rfl⟩
  have hcl:=clP_keep s.pl ⟨[],most⟩
  obtain ⟨H2,S2,B2,N2,T2⟩:=R1.out.out1 HH.out.1 HH.out.2.2.2.2.2.2.2.1 (by have:=HH.out.2.2.2.2.2.2.2.2.1;omega) (fun k e=>by cases e) (by have:=HH.out.2.2.2.2.2.2.2.2.1;omega) (.slice vo vm vc)
  have hc:=at_whole (heap_setCell_same w1 n 0 _ 34 (.slice vo vm vc) R1.out.x0) 0 rfl
  refine ⟨.slice vo vm vc,by simp [results,Tryz.f21,go_sem,hc],_,(clP s.pl ⟨[],most⟩).2.1.fs,H2,_,rfl,?_,?_,(HB.out.ok HH.out.2.2.2.1 HH.out.2.2.2.2.1).2,S2,B2.row,N2,T2⟩
  ·rw [put_pl hcl.1];exact hP
  ·rw [put_pl hcl.1];exact HG.out
 | true=>
  go_upto_region 6 with (go_at_call 61;refine CL.out.mono ?_;rintro e w1 ⟨rfl,H1,v1,S1⟩;have R1:=Lib.hid S1;clear S1)
  clear c2
  obtain ⟨s1,hs1⟩ : ∃ y,SetS.put (clP s.pl ⟨[],most⟩).1 s.ss = y:=⟨_,rfl⟩
  obtain ⟨b1,hb1⟩ : ∃ y,(clP s.pl ⟨[],most⟩).2.1 = y:=⟨_,rfl⟩
  rw [hs1,hb1] at R1
  rw [hb1] at HB
  have hss1 : s1.ss = s.ss:=by rw [← hs1];rfl
  have hpl1 : (clP s.pl ⟨[],most⟩).1 = s1.pl:=by rw [← hs1];exact (put_pl (clP_keep s.pl ⟨[],most⟩).1).symm
  have HP:=Lib.hid (And.intro hss1 (And.intro hpl1 hb1))
  have HG1:=Lib.hid (show FGood s1.pl from hpl1 ▸ HG.out)
  go_wp2_with (go_at_call 62;refine (all_any _ _).mono ?_;rintro e wv ⟨rfl,rfl⟩)
  obtain ⟨W4,hW4⟩ : ∃ y,w1.alloc (.cells #[.pointer (some ⟨a.sb,0,none⟩)] 25) = y:=⟨_,rfl⟩
  have e7:=heap_alloc_new w1 (.cells #[.pointer (some ⟨a.sb,0,none⟩)] 25)
  have q4:=R1.out.after ((Below.refl _ w1).alloc (Nat.le_refl _) (.cells #[.pointer (some ⟨a.sb,0,none⟩)] 25))
  have hz4 : W4.heap.size = w1.heap.size + 1:=by rw [← hW4,World.size_alloc]
  rw [hW4] at q4 e7 ⊢
  have F0:=Lib.hid HH.out.2.2.2.2.2.2.1
  have h01 : W0.heap.size ≤ w1.heap.size:=R1.out.chg.size
  have hn0 : n + 1 + 1 < W0.heap.size:=heap_lt F0.out.x2
  have hI0 : FrI W W0 (full W W0) a s (n + 1) (.slice none 0 0) n (n + 2) w1.heap.size (.slice none 0 0) s1 b1 W4 H1 v1:=by
   refine ⟨q4.box F0.out.x0 (F0.out.nf _ (.inl rfl)),q4.box F0.out.x2 (F0.out.nf _ (.inr rfl)),e7,q4,fun k hk=>?_⟩
   rcases hk with rfl | rfl | rfl
   ·exact q4.nf (by omega) (F0.out.nf _ (.inl rfl))
   ·exact q4.nf (by omega) (F0.out.nf _ (.inr rfl))
   ·exact R1.out.sb.fresh R1.out.mem (Nat.le_refl _)
  have HI0:=Lib.hid (And.intro hI0 (And.intro hz4 h01))
  have hM0 : a.M < W0.heap.size:=F0.out.sb.M_lt F0.out.mem
  have hs0 : a.sb < W0.heap.size:=F0.out.mem.lt F0.out.sb.st.sb
  have hli:=HH.out.2.1.li
  have hupE : UpE 1152921504606846976 (ents s.ss):=⟨by unfold ents;rw [List.pairwise_map];exact hli.up,fun p hp=>by
   obtain ⟨l1,xa,x,l2,e,e2,_⟩:=ents_split hp
   rw [← e2];exact hli.bd (xa,x) (by rw [e];simp)⟩
  have hln : s.ss.length ≤ 5000:=by have:=HH.out.2.2.1.ln;simpa [SetS.pl] using this
  have hll : (ents s.ss).length ≤ 1000000:=by unfold ents;simp;omega
  have hmp : MapE W4 a.M (ents s.ss).length (ents s.ss):=by
   obtain ⟨mo,m1,_,m3⟩:=hI0.st.sb.st.mp
   rw [hss1] at m3
   exact m3 W4 (hI0.st.mem.at m1)
  have cB:=at_whole hI0.xB 0 rfl
  have cb13:=hI0.st.sb.st.c13 hI0.st.mem
  have hinc : Inc s.ss:=hli.up
  have hG0 : CtG most s1 s1 b1:=⟨HB.out,rfl,by rw [hss1];exact hinc,fun e he=>HG1.out.st e.2 (by unfold SetS.pl;exact List.mem_map_of_mem he)⟩
  have HG0:=Lib.hid hG0
  clear q4 e7 hI0 hW4 hli hG0
  refine (wpIn_wide (n:=20)).1 ?_
  refine wpIn_rangeFunc_ownH rfl (by decide) (gf:=126) (lb:=#[.pointer (some ⟨w1.heap.size,0,none⟩)]) rfl trivial (enters_of Tryz.func126 (by kernel_rfl) rfl)
   (all_stops2 19 (by decide) w1.heap.size a.sb a.M (ents s.ss).length W4.heap.size (ents s.ss) 1152921504606846976 hupE (by decide) hll W4 (Nat.le_refl _) (by omega) (by omega) (by omega) cB cb13 hmp)
   (fun h k=>h.trans k) (fun X l o o' hl hX hc hw=>KpS.put hX hc (by omega) (by omega) (by omega)) bz0 (fun _=>rfl)
   (fun pre X=>(ctlF s1 b1 (pre.map (fun y : InE (ents s.ss)=>y.1.1))).2.2 = true ∧ CtG most s1 (ctlF s1 b1 (pre.map (fun y : InE (ents s.ss)=>y.1.1))).1 (ctlF s1 b1 (pre.map (fun y : InE (ents s.ss)=>y.1.1))).2.1 ∧ ∃ H' v',FrI W W0 (full W W0) a s (n + 1) (.slice none 0 0) n (n + 2) w1.heap.size (.slice none 0 0) (ctlF s1 b1 (pre.map (fun y : InE (ents s.ss)=>y.1.1))).1 (ctlF s1 b1 (pre.map (fun y : InE (ents s.ss)=>y.1.1))).2.1 X H' v')
   (fun c pre X=>c = .ret ∧ (ctlF s1 b1 (pre.map (fun y : InE (ents s.ss)=>y.1.1))).2.2 = false ∧ CtG most s1 (ctlF s1 b1 (pre.map (fun y : InE (ents s.ss)=>y.1.1))).1 (ctlF s1 b1 (pre.map (fun y : InE (ents s.ss)=>y.1.1))).2.1 ∧ ∃ v',FoI W W0 a s (n + 1) (.slice none 0 0) n (ctlF s1 b1 (pre.map (fun y : InE (ents s.ss)=>y.1.1))).1 (ctlF s1 b1 (pre.map (fun y : InE (ents s.ss)=>y.1.1))).2.1 X v')
   (fun pre X Y row h hg hr=>⟨h.1,h.2.1,by obtain ⟨_,_,H',v',h⟩:=h;obtain ⟨H2,h2⟩:=h.own F0.out.sb F0.out.mem (by omega) hg hr;exact ⟨H2,v',h2⟩⟩)
   (fun c pre X Y row h hg hr=>by obtain ⟨h1,h2,h3,v',h⟩:=h;exact ⟨h1,h2,h3,v',h.own hg (fun k e=>by obtain ⟨q1,q2⟩:=hr k e;exact ⟨by omega,by have:=HH.out.2.2.2.2.2.1.size;omega,q2⟩)⟩)
   ⟨rfl,HG0.out,H1,v1,HI0.out.1⟩
   (fun x a' X=>a' = { tmps:=#[.pointer (some ⟨a.sb,0,none⟩),.int .i64 most,undef,undef,.pointer (some ⟨n,0,none⟩),.pointer (some ⟨n + 1 + 1,0,none⟩),.pointer (some ⟨x.1.2,0,none⟩),undef,undef,.pointer (some ⟨a.sb,0,none⟩),.bool false,.int .i64 most,.agg #[.slice none 0 0,.int .i64 most],.pointer (some ⟨n + 1,0,none⟩),.pointer (some ⟨a.sb,0,none⟩),.pointer (some ⟨n + 1,0,none⟩),.bool true,.bool false,undef,undef,undef,undef,.pointer (some ⟨a.sb,0,none⟩),.func (.func 126) #[] #[.pointer (some ⟨w1.heap.size,0,none⟩)],.pointer (some ⟨x.1.2,0,none⟩),undef,undef,undef,undef,undef,undef,undef,undef,undef,undef,undef,undef,undef,undef,undef,undef,undef,undef,undef,undef,undef,undef,undef,undef,undef,undef,undef,undef,undef,undef,undef,undef,undef,undef,undef,undef],defers:=[] })
   (fun x a' s A C row hs hg hr=>hs)
   ?assign ?body ?done ?stop
  case stop=>
   rintro D c pre X hD hpre ⟨rfl,hc0,hG,v',hI⟩ hKD
   obtain ⟨vo,vm,vc,rfl⟩:=hI.sb.bt.row.form
   have HI:=Lib.hid (And.intro hI (And.intro hpre (And.intro hc0 (And.intro hG hKD))))
   clear hI hpre hc0 hG hKD cB cb13 hmp
   gi_wp2
   refine ⟨by simp,.inl ⟨_,_,rfl,run_takeDeferred HI.out.2.2.2.2,?_⟩⟩
   have hI2:=HI.out.1.own (Y:=X.putObj D (.deferred none)) (grownBy_putObj' X D _) (fun k e=>by cases e;exact ⟨by omega,by have:=HH.out.2.2.2.2.2.1.size;omega,_,HI.out.2.2.2.2,rfl⟩)
   obtain ⟨S2,B2,N2,T2⟩:=hI2.out HH.out.1 HH.out.2.2.2.2.2.2.2.1 (by have:=HH.out.2.2.2.2.2.2.2.2.1;omega) (fun k e=>by cases e) (by have:=HH.out.2.2.2.2.2.2.2.2.1;omega)
   have hc:=at_whole hI2.x0 0 rfl
   obtain ⟨h1,h2⟩:=ctl_pre (s:=s1) (b:=b1) (by rw [HP.out.1];exact hinc) (show _ <+: s1.ss.map (·.2.id) from by
    rw [HP.out.1]
    have e : s.ss.map (·.2.id) = (ents s.ss).map (fun p : Ent=>p.1):=by unfold ents;rw [List.map_map];rfl
    have:=HI.out.2.1.map (fun p : Ent=>p.1)
    rw [List.map_map] at this
    rw [e]
    exact this) (.inl HI.out.2.2.1)
   have hcl : (ctlL s1.pl.ss b1).2.2 = false:=by rw [← h2];exact HI.out.2.2.1
   refine ⟨.slice vo vm vc,by simp [results,Tryz.f21,go_sem,hc],_,_,_,_,rfl,?_,?_,(HI.out.2.2.2.1.bm.ok HH.out.2.2.2.1 HH.out.2.2.2.2.1).2,S2,B2.row,N2,T2⟩
   ·unfold FramesP
    rw [HQ.out,if_pos rfl,HP.out.2.1,HP.out.2.2,hcl,if_neg (by decide)]
    exact ⟨h1,by rw [h2]⟩
   ·exact FGood.ctl HG1.out h1 (fun x hx=>by
     obtain ⟨e,he,rfl⟩:=List.mem_map.1 hx
     exact HI.out.2.2.2.1.st e he) (by have:=ents_len HI.out.2.2.2.1.en;have:=HG1.out.ln;unfold SetS.pl at *;simp only [List.length_map] at *;omega)
  case assign=>
   rintro ly pre ⟨⟨id,xb⟩,hx⟩ X K hi hK
   simp only [encE,eP] at hK ⊢
   have H1:=Lib.hid (And.intro hi hK)
   clear hi hK
   gi_wp2
   exact H1.out.2 _ _ ((KeepsOthers.refl _).from _) (KpS.refl _ _ _ _ _) H1.out.1 rfl
  case body=>
   rintro ly pre ⟨⟨id,xb⟩,hx⟩ a' X hl ⟨r,hr⟩ ⟨hc0,hG,H',v',hI⟩ rfl hlen
   obtain ⟨s4,hs4⟩ : ∃ y,(ctlF s1 b1 (pre.map (fun y : InE (ents s.ss)=>y.1.1))).1 = y:=⟨_,rfl⟩
   obtain ⟨b4,hb4⟩ : ∃ y,(ctlF s1 b1 (pre.map (fun y : InE (ents s.ss)=>y.1.1))).2.1 = y:=⟨_,rfl⟩
   have hq4 : (ctlF s1 b1 (pre.map (fun y : InE (ents s.ss)=>y.1.1))) = (s4,b4,true):=by rw [← hs4,← hb4,← hc0]
   rw [hs4,hb4] at hG hI
   have hx4 : (id,xb) ∈ ents s4.ss:=by rw [hG.en,HP.out.1];exact hx
   obtain ⟨l1,xa,x,l2,hsp,hid,hxb⟩:=ents_split hx4
   simp only at hid hxb
   subst hid hxb
   have hsn : ctlF s1 b1 ((pre ++ ([⟨(x.id,xa.xb),hx⟩] : List (InE (ents s.ss)))).map (fun y : InE (ents s.ss)=>y.1.1)) = ({ s4 with ss:=l1 ++ (xa,(ctlX x b4).1) :: l2 },(ctlX x b4).2.1,(ctlX x b4).2.2):=by
    rw [List.map_append]
    show ctlF s1 b1 (_ ++ [x.id]) = _
    rw [ctlF_snoc,hq4,ctlStep_at hsp hG.inc]
   have hbk:=hG.bm.ok HH.out.2.2.2.1 HH.out.2.2.2.2.1
   have hstr : StrOk x:=(hG.st (xa,x) (by rw [hsp];simp)).ok
   have SC:=Lib.hid (sctl_any hI.st.mem hI.st.sb hbk.1 (by have:=hbk.2;omega) hsp hstr)
   obtain ⟨q2,hq2⟩ : ∃ q,(ctlX x b4).2.2 = q:=⟨_,rfl⟩
   rw [hq2] at SC hsn
   have c3 : X.cell? ⟨n + 1 + 1,0,none⟩ = some (.pointer (some ⟨n + 1,0,none⟩)):=at_whole hI.x2 0 rfl
   have hGn:=hG.put hsp
   have HX:=Lib.hid (And.intro hI (And.intro hsn hGn))
   clear hsn hG hbk hstr hsp hr cB cb13 hmp hx4 hs4 hb4 hq4 hI hq2 hGn hc0
   unfold ptr at *
   cases q2 with
   | true=>
    gi_wp2_with (refine ⟨trivial,?_⟩;gi_at_call 63;refine (CallsIn.inRound ly (callsIn_wide.2 SC.out)).mono ?_;rintro e w5 ⟨rfl,H5,v5,S5⟩;have R5:=Lib.hid S5;clear S5)
    refine ⟨HX.out.1.keeps R5.out,HX.out.1.kps R5.out,?_⟩
    dsimp only
    rw [HX.out.2.1]
    exact ⟨rfl,HX.out.2.2,H5,v5,HX.out.1.step R5.out⟩
   | false=>
    gi_wp2_with (refine ⟨trivial,?_⟩;gi_at_call 63;refine (CallsIn.inRound ly (callsIn_wide.2 SC.out)).mono ?_;rintro e w5 ⟨rfl,H5,v5,S5⟩;have I5:=Lib.hid (HX.out.1.step S5);have R5:=Lib.hid S5;clear S5;obtain ⟨vo,vm,vc,rfl⟩:=I5.out.st.sb.bt.row.form;have c2 : w5.cell? ⟨n + 1 + 1,0,none⟩ = some (.pointer (some ⟨n + 1,0,none⟩)):=at_whole I5.out.x2 0 rfl;have cb : w5.cell? ⟨n + 1,0,none⟩ = some (.slice vo vm vc):=at_whole (I5.out.st.mem.at I5.out.st.sb.bt.bb) 0 rfl;have z0:=frozen_whole I5.out.x0 0;have c0 : w5.cell? ⟨n,0,none⟩ = some (.slice none 0 0):=at_whole I5.out.x0 0 rfl)
    refine ⟨(HX.out.1.keeps R5.out).trans ((KeepsOthers.setCell _ _ _).from _),?_⟩
    dsimp only
    rw [HX.out.2.1]
    exact ⟨rfl,rfl,HX.out.2.2,_,(I5.out.fu HH.out.2.2.2.2.2.2.2.2.2 (by have:=HH.out.2.2.2.2.2.2.2.2.2;omega) F0.out.wz).fo hM0⟩
  case done=>
   rintro D xs X hD hxs ⟨hc0,hG,H5,v5,hI⟩ hKD
   have hids : xs.map (fun y : InE (ents s.ss)=>y.1.1) = s1.ss.map (·.2.id):=by
    rw [HP.out.1]
    have e : s.ss.map (·.2.id) = (ents s.ss).map (fun p : Ent=>p.1):=by unfold ents;rw [List.map_map];rfl
    have:=congrArg (fun l=>l.map (fun p : Ent=>p.1)) hxs
    simp only [List.map_map] at this
    rw [e]
    exact this
   obtain ⟨h1,h2⟩:=ctl_pre (s:=s1) (b:=b1) (l:=xs.map (fun y : InE (ents s.ss)=>y.1.1)) (by rw [HP.out.1];exact hinc) (by rw [hids];exact List.prefix_refl _) (.inr (by rw [hids];simp))
   have hcl : (ctlL s1.pl.ss b1).2.2 = true:=by rw [← h2];exact hc0
   obtain ⟨s2,hs2⟩ : ∃ y,(ctlF s1 b1 (xs.map (fun y : InE (ents s.ss)=>y.1.1))).1 = y:=⟨_,rfl⟩
   obtain ⟨b2,hb2⟩ : ∃ y,(ctlF s1 b1 (xs.map (fun y : InE (ents s.ss)=>y.1.1))).2.1 = y:=⟨_,rfl⟩
   rw [hs2] at h1
   have hb2' : (ctlL s1.pl.ss b1).2.1 = b2:=by rw [← h2];exact hb2
   rw [hs2,hb2] at hG hI
   have hen2 : ents s2.ss = ents s.ss:=by rw [hG.en,HP.out.1]
   have hln2 : s2.ss.length = s.ss.length:=ents_len hen2
   have hG2 : FGood s2.pl:=FGood.ctl HG1.out h1 (fun x hx=>by
     obtain ⟨e,he,rfl⟩:=List.mem_map.1 hx
     exact hG.st e he) (by unfold SetS.pl;simp only [List.length_map];omega)
   have hF:=hI.fu HH.out.2.2.2.2.2.2.2.2.2 (by have:=HH.out.2.2.2.2.2.2.2.2.2;omega) F0.out.wz
   have hbk:=hG.bm.ok HH.out.2.2.2.1 HH.out.2.2.2.2.1
   have BL:=Lib.hid (blockedAll_any hF.mem hF.sb hbk.1 (by have:=hbk.2;omega) hG2.o0 hG2.o1 hG2.rp (fun e he o ho=>((hG.st e he).o o ho).rp))
   have H2:=Lib.hid (And.intro hF (And.intro hG2 (And.intro hG.bm (And.intro hen2 (And.intro hKD (And.intro h1 (And.intro hb2' hcl)))))))
   have c2 : X.cell? ⟨n + 1 + 1,0,none⟩ = some (.pointer (some ⟨n + 1,0,none⟩)):=at_whole hF.x2 0 rfl
   have hWn:=HH.out.2.2.2.2.2.2.2.2.2
   clear hF hG hI hc0 hKD h1 h2 hcl hs2 hb2 hb2' hids hG2 hbk hxs cB cb13 hmp
   unfold ptr at *
   go_upto_region 11 with (go_at_call 64;refine BL.out.mono ?_;rintro e w3 ⟨rfl,H3,s3,v3,p3,T3,S3⟩;have R3:=Lib.hid (And.intro p3 (And.intro T3 S3));clear p3 T3 S3)
   have hF3:=H2.out.1.step R3.out.2.1 R3.out.2.2
   have hD3 : w3.heap[D]? = some (.deferred (some [])):=(R3.out.2.1.box H2.out.2.2.2.2.1 (by omega) (fun c=>by
    obtain ⟨cs,T,e3,_⟩:=H2.out.1.sb.isQ c (by omega)
    have:=(full_of e3).2
    rw [H2.out.2.2.2.2.1] at this;cases this)).1
   obtain ⟨b3,hb3⟩ : ∃ y,(blP s2.pl b2).2 = y:=⟨_,rfl⟩
   rw [hb3] at R3 hF3
   have hG3 : FGood s3.pl:=by rw [R3.out.1];exact H2.out.2.1.bl b2
   have hB3 : BatM most b3:=by rw [← hb3];exact H2.out.2.2.1.bl
   have hln3 : s3.ss.length ≤ 5000:=by have:=hG3.ln;unfold SetS.pl at this;simpa using this
   have hnb : w.heap.size ≤ n + 1:=by have:=HH.out.2.2.2.2.2.2.2.2.1;omega
   have hnc : w.heap.size ≤ n:=by have:=HH.out.2.2.2.2.2.2.2.2.1;omega
   have hWD : W.heap.size ≤ D:=by have:=HH.out.2.2.2.2.2.1.size;omega
   have h0D : W0.heap.size ≤ D:=by omega
   have FIN : Hid (∀ (X' : World) (s' : SetS) (o : Option Addr) (vm vc : Nat) (b' : Bat),FuI W W0 a s (n + 1) (.slice none 0 0) n (n + 2) (.slice none 0 0) s' b' X' (.slice o vm vc) → X'.heap[D]? = some (.deferred (some [])) → FGood s'.pl → BatM most b' → Srv (cycF (s3.pl.ss.map (·.id)) s3.pl.srv) 0 s3.pl b3 s'.pl b' →
     (X'.setCell ⟨n,0,none⟩ (.slice o vm vc)).heap[D]? = some (.deferred (some [])) ∧ ((X'.setCell ⟨n,0,none⟩ (.slice o vm vc)).putObj D (.deferred none)).cell? ⟨n,0,none⟩ = some (.slice o vm vc) ∧
     ∃ v fs H' s',v = .slice o vm vc ∧ FramesP s.pl most s'.pl fs ∧ FGood s'.pl ∧ fs.length ≤ 80000 ∧ SetIn H' a s' ∧ RowH H' 38 13 v fs.length (frs fs) ∧ (∀ k,v.ownBlock = some k → ¬ s'.foot a k) ∧ To W ((X'.setCell ⟨n,0,none⟩ (.slice o vm vc)).putObj D (.deferred none)) H H' (s.foot a) (fun k=>s'.foot a k ∨ v.ownBlock = some k)):=Lib.hid (fun X' s' o vm vc b' hF hKD hG hB hS=>by
    have hne : D ≠ n:=fun c=>by subst c;rw [hF.x0] at hKD;cases hKD
    have hKD2 : (X'.setCell ⟨n,0,none⟩ (.slice o vm vc)).heap[D]? = some (.deferred (some [])):=(heap_setCell_other X' _ _ _ hne).trans hKD
    have hI2:=(hF.fo hM0).own (Y:=(X'.setCell ⟨n,0,none⟩ (.slice o vm vc)).putObj D (.deferred none)) (grownBy_putObj' _ D _) (fun k e=>by cases e;exact ⟨h0D,hWD,_,hKD2,rfl⟩)
    obtain ⟨S2,B2,N2,T2⟩:=hI2.out HH.out.1 HH.out.2.2.2.2.2.2.2.1 hnb (fun k e=>by cases e) hnc
    refine ⟨hKD2,at_whole hI2.x0 0 rfl,.slice o vm vc,b'.fs,_,s',rfl,?_,hG,(hB.ok HH.out.2.2.2.1 HH.out.2.2.2.2.1).2,S2,B2.row,N2,T2⟩
    unfold FramesP
    rw [HQ.out,if_pos rfl,HP.out.2.1,HP.out.2.2,H2.out.2.2.2.2.2.2.2,if_pos rfl]
    refine ⟨blP s2.pl b2,?_,b',?_,rfl⟩
    ·rw [H2.out.2.2.2.2.2.2.1,H2.out.2.2.2.2.2.1]
    ·rw [← R3.out.1,hb3];exact hS)
   have CY:=Lib.hid (cycle_any hF3.mem hF3.sb.st (by omega))
   have H3':=Lib.hid (And.intro hF3 (And.intro hG3 (And.intro hB3 hD3)))
   clear hb3 hF3 hG3 hB3 hD3 BL c2
   unfold ptr at *
   go_wp2_with (go_at_call 65;refine CY.out.mono ?_;rintro e w4 ⟨vl,rfl,hb4,hr4⟩;have R4:=Lib.hid (And.intro hb4 hr4);clear hb4 hr4)
   obtain ⟨N,hN⟩ : ∃ y,s3.ss.length = y:=⟨_,rfl⟩
   obtain ⟨L0,hL0⟩ : ∃ y,cycE (ents s3.ss) s3.srv = y:=⟨_,rfl⟩
   have hids0 : L0.map (·.1) = cycF (s3.pl.ss.map (·.id)) s3.pl.srv:=by
    rw [← hL0,cycF_ids];unfold ents SetS.pl;simp only [List.map_map];rfl
   have hmem0 : ∀ p ∈ L0,p ∈ ents s3.ss:=fun p hp=>by
    rw [← hL0,cycE_eq] at hp
    rcases List.mem_append.1 hp with h | h
    ·exact List.mem_of_mem_drop h
    ·exact List.mem_of_mem_take h
   rw [hN,hL0] at R4
   rw [hN] at hln3
   have hLN : L0.length = N:=by have:=R4.out.2.1;simpa using this
   have hF4:=H3'.out.1.below R4.out.1
   have hD4:=heap_below R4.out.1 H3'.out.2.2.2
   rw [← hids0] at FIN
   by_cases hz : N = 0
   ·subst hz
    obtain ⟨o,c,rfl⟩ : ∃ o c,vl = .slice o 0 c:=by
     rcases R4.out.2.2 with ⟨rfl,_⟩ | ⟨g,cap,cur,rfl,_⟩
     iterate 2 (· exact ⟨_,_,rfl⟩)
    obtain ⟨vo,vm,vc,rfl⟩:=H3'.out.1.sb.bt.row.form
    have hL0' : L0 = []:=List.eq_nil_of_length_eq_zero hLN
    have FN:=Lib.hid (FIN.out _ _ _ _ _ _ hF4 hD4 H3'.out.2.1 H3'.out.2.2.1 (by rw [hL0'];exact Srv.stop _ _ _ _ (by simp)))
    have c2 : w4.cell? ⟨n + 1 + 1,0,none⟩ = some (.pointer (some ⟨n + 1,0,none⟩)):=at_whole hF4.x2 0 rfl
    have cb : w4.cell? ⟨n + 1,0,none⟩ = some (.slice vo vm vc):=at_whole (hF4.mem.at hF4.sb.bt.bb) 0 rfl
    have z0:=frozen_whole hF4.x0 0
    have c0 : w4.cell? ⟨n,0,none⟩ = some (.slice none 0 0):=at_whole hF4.x0 0 rfl
    clear hF4 hD4 hids0 hmem0 hLN hL0' hL0 hN
    refine wp_loop_rounds 2 ?_
    rw [rounds_succ]
    go_wp2_with fail
    refine ⟨by simp,.inl ⟨_,_,rfl,run_takeDeferred FN.out.1,?_⟩⟩
    obtain ⟨_,fs,H',s',rfl,q⟩:=FN.out.2.2
    exact ⟨.slice vo vm vc,by simp [results,Tryz.f21,go_sem,FN.out.2.1],_,fs,H',s',rfl,q⟩
   ·have hN1 : 0 < N:=by omega
    obtain ⟨g,cap,rfl⟩ : ∃ g cap,vl = .slice (some ⟨g,0,none⟩) N cap:=by
     rcases R4.out.2.2 with ⟨_,h⟩ | ⟨g,cap,cur,rfl,_⟩
     ·omega
     ·exact ⟨_,_,rfl⟩
    have hI4 : LpI W W0 a s (n + 1) (.slice none 0 0) n (n + 2) most D (ents s3.ss) s3.pl b3 (L0.map (·.1)) w4 L0 0 g 0 cap b3.lf:=by
     have hown : w4.ownsRow w3.heap.size 121 1 (.slice (some ⟨g,0,none⟩) (L0.map eP).length cap) (L0.map eP).length (L0.map eP):=by
      rw [List.length_map,hLN];exact R4.out.2
     obtain ⟨cur,hR⟩:=RotAt.of_own hown
     exact ⟨⟨s3,v3,b3,cur,hF4,hR.weak H3'.out.1.sz,rfl,H3'.out.2.1,H3'.out.2.2.1,rfl,fun _ _ h=>h⟩,hD4,hmem0⟩
    have HI4:=Lib.hid hI4
    have HW:=Lib.hid (And.intro hWn (And.intro h0D (And.intro hM0 F0.out.sz)))
    clear hF4 hD4 hids0 hmem0 hL0 hN hI4
    go_loopw [7,8] (fun l i wr=>∃ (L : List Ent) (j g k cap : Nat) (lf : Int),L.length = N ∧ j ≤ N ∧ l = .slice (some ⟨g,k,none⟩) N cap ∧ i = .int .i64 j ∧ LpI W W0 a s (n + 1) (.slice none 0 0) n (n + 2) most D (ents s3.ss) s3.pl b3 (L0.map (·.1)) wr L j g k cap lf) (fun _ i wr=>lfOf wr (n + 1) * (N + 1) + (N - (intOf i).toNat))
    case atStart=>exact ⟨L0,0,g,0,cap,b3.lf,hLN,by omega,rfl,rfl,HI4.out⟩
    case round=>
     obtain ⟨L,j,g,k,cap,lf,hLN,hj,rfl,rfl,hI⟩:=hrel
     have hlf0:=hI.lfOf
     have HI9:=Lib.hid (And.intro hI hlf0)
     have hNb : N ≤ 5000:=hln3
     by_cases hlt : j < N
     ·obtain ⟨p,t,rfl⟩ : ∃ p t,L = p :: t:=by
       cases L with
       | nil=>simp at hLN;omega
       | cons p t=>exact ⟨p,t,rfl⟩
      simp only [List.length_cons] at hLN
      have SV:=Lib.hid (hI.serve (by omega) HW.out.2.1 HW.out.2.2.1 HH.out.2.2.2.1 HH.out.2.2.2.2.1 (by have:=HH.out.2.2.2.2.2.1.size;omega))
      have c2 : wr.cell? ⟨n + 1 + 1,0,none⟩ = some (.pointer (some ⟨n + 1,0,none⟩)):=hI.c2
      have cg : wr.cell? ⟨g,k,none⟩ = some (.pointer (some ⟨p.2,0,none⟩)):=hI.head
      have h1 : (j : Int) < (N : Int):=by omega
      have h2 : (0 : Int) < (N : Int):=by omega
      have h3 : (0 : Nat) < N:=hN1
      have hw1 : IntKind.i64.wrap ((j : Int) + 1) = ((j + 1 : Nat) : Int):=by rw [IntWalk.i64_in _ (by omega)];simp
      have HL:=Lib.hid hLN
      clear hI hlf0 hLN
      unfold ptr at SV
      go_upto_region 15 with fail
      refine wp_region_still_tail 5 (by kernel_rfl) (by kernel_rfl) ?_
      simp only [List.take_succ_cons,List.take_zero,List.drop_succ_cons,List.drop_zero]
      repeat ((with_reducible refine wpStill_step (fun K hK=>?_));go_simp;(with_reducible refine hK _ ?_);clear hK K)
      with_reducible refine wpStill_nil ?_
      clear c2 cg
      go_upto_if 56 with (go_at_call 66;refine SV.out.mono ?_;rintro e Y ⟨q,lf',rfl,hJ,hq⟩;have J5:=Lib.hid (And.intro hJ hq);clear hJ hq)
      cases q with
      | true=>
       have hJ6 : LpJ W W0 a s (n + 1) (.slice none 0 0) n (n + 2) most D (ents s3.ss) s3.pl b3 (L0.map (·.1)) Y p t 0 g k cap lf':=by simpa using J5.out.1
       have hm6 : lf'.toNat * (N + 1) + (N - 0) < lf.toNat * (N + 1) + (N - j):=by
        rcases J5.out.2 with ⟨_,q1,q2⟩ | ⟨q1,_⟩
        ·have h8 : lf'.toNat + 1 ≤ lf.toNat:=by omega
         have h9:=Nat.mul_le_mul_right (N + 1) h8
         rw [Nat.add_mul] at h9
         omega
        ·cases q1
       have HJ6:=Lib.hid (And.intro hJ6 hm6)
       have hHd:=hJ6.head
       have cg : Y.cell? ⟨g,k,none⟩ = some (.pointer (some ⟨p.2,0,none⟩)):=hHd.1
       obtain ⟨cur,hR⟩:=hHd.2
       have hle : t.length + 1 ≤ cap:=by simpa using hR.le
       obtain ⟨zo,hzo,hR2⟩:=hR.cut
       have hgY : g < Y.heap.size:=heap_lt hR.at_
       have h4 : (1 : Int) ≤ (N : Int):=by omega
       have h5 : (N : Int) ≤ (cap : Int):=by have:=HL.out;omega
       have h6 : (1 : Int) ≤ (cap : Int):=by omega
       have h7 : (0 : Int) < (N : Int):=by omega
       have hl1 : (t.map eP).length = N - 1:=by have:=HL.out;simp;omega
       have hl2 : (t.map eP).length + 1 = N:=by have:=HL.out;simp;omega
       have HR2:=Lib.hid (And.intro hR2 (And.intro hl1 (And.intro hl2 hgY)))
       have hJsz : W0.heap.size ≤ Y.heap.size:=by obtain ⟨_,_,_,_,hF,_⟩:=hJ6.ex;exact hF.sz
       clear hR hR2 hHd hle hl1 hl2 hJ6 hm6
       obtain ⟨i0,hi0,hzz,hz1,hz2⟩:=info_parts info121
       go_wp2_with fail
       have AP:=Lib.hid (fun (wx : World) (ab : Nat) (hb : Below Y.heap.size Y wx) (hx : wx.heap[ab]? = some (.cells #[.pointer (some ⟨p.2,0,none⟩)] 121 (0,0)))=>run_append_rot (P:=Tryz.prog) 140 140 i0 (.pointer none) 8 Tryz.underlying140 hi0 hzz hz1 hz2 rfl (HR2.out.1.keep (hb.block g HR2.out.2.2.2)) ⟨ab,0,none⟩ 1 (.pointer (some ⟨p.2,0,none⟩)) (at_whole hx 0 rfl) rfl (by rw [HR2.out.2.2.1];omega) (by rw [HR2.out.2.2.1];unfold maxLen;omega) (Nat.le_trans hJsz hb.size))
       rw [HR2.out.2.2.1,HR2.out.2.1] at AP
       refine rea.any_regionR (τ:=Nat × Nat × Nat × Nat) (0,0,0,0) 8 slR (valRo g k zo N cap p.2) (fun x L w'=>WRo Y W0.heap.size g (t.map eP) (.pointer (some ⟨p.2,0,none⟩)) x L w') rfl (by kernel_rfl) rfl (fun i d hi h=>by have:=slR_lt i hi d h;simp;omega) (fun i j d hi hj h1 h2=>slR_inj i hi j hj (h1.trans h2.symm) (by rw [h1];simp)) ⟨fun _=>(Below.refl _ Y).drew,(fun _ h=>by cases h),(fun h=>by cases h),(fun h=>by cases h),⟨(fun h=>by cases h),(fun h=>by cases h),(fun h=>by cases h),(fun h=>by cases h)⟩,(fun h=>by cases h)⟩ ?_ (fun _=>rfl) ?_
       ·rintro x i o hi ho L aa w1 hLi hdl hW ⟨hold,hdep⟩ hun
        have o7 : aa.tmps[7]? = some (.slice (some ⟨g,k,none⟩) N cap):=hun 7 7 (by decide) rfl (hW.before7 hi hLi)
        have hii : i = 4 ∨ i = 5 ∨ i = 6 ∨ i = 7 ∨ i = 0 ∨ i = 1 ∨ i = 2 ∨ i = 3:=by omega
        rcases hii with rfl | rfl | rfl | rfl | rfl | rfl | rfl | rfl
        ·have cg1:=(((hW.a (hW.before (by decide) hLi)).cell (p:=⟨g,k,none⟩) HR2.out.2.2.2)).trans cg
         cases ho
         simp [Region.binds,slR] at hdep hdl
         refine ⟨rfl,rfl,fun K hK=>?_⟩
         unfold Oper.wp
         simp [execOp,Oper.upon,go_sem,Act.eval,hdep,valRo,cg1]
         exact hK x _ (fun _ _=>rfl) (hW.mono 4 (by decide) (by decide) ⟨nofun,nofun,fun _=>hdl⟩ nofun)
        ·cases ho
         simp [Region.binds,slR] at hdep hdl
         refine ⟨rfl,rfl,fun K hK=>?_⟩
         unfold Oper.wp
         simp [execOp,Oper.upon,go_sem,Act.eval,hdep,valRo]
         exact hK (w1.heap.size,x.2) _ (fun i hi=>valRo_eq _ _ _ _ _ _ (fun e=>by subst e;rw [hLi] at hi;cases hi) (fun _=>rfl)) (hW.alloc hLi hdl)
        ·have b6:=hW.a hLi
         cases ho
         simp [Region.binds,slR] at hdep hdl
         have hx5:=hW.b hLi hdl.2
         obtain ⟨g',k',cap',cur',w',hr,h2,h3⟩:=AP.out w1 x.1 b6 hx5
         refine ⟨rfl,rfl,fun K hK=>?_⟩
         refine wp_append_run (.tmp 43) (.tmp 47) 140 rfl (vs:=.slice (some ⟨g,zo,none⟩) (N - 1) (cap - 1)) (vy:=.slice (some ⟨x.1,0,none⟩) 1 1) (by simp [Act.eval,hdep,valRo]) (by simp [Act.eval,hdep,valRo]) hr ?_
         exact hK (x.1,g',k',cap') _ (fun i hi=>valRo_eq _ _ _ _ _ _ (fun _=>rfl) (fun e=>by rcases e with rfl | rfl;rw [hLi] at hi;cases hi;rw [hW.before7 (i:=6) (by decide) hLi] at hi;cases hi)) (hW.app hLi hdl.1 hdl.2 h3 h2)
        ·cases ho
         simp [Region.binds,slR] at hdep hdl
         refine ⟨rfl,rfl,fun K hK=>?_⟩
         unfold Oper.wp
         simp [execOp,Oper.upon,go_sem,Act.eval,hdep,valRo]
         exact hK x _ (fun _ _=>rfl) (hW.mono 7 (by decide) (by decide) ⟨nofun,nofun,nofun⟩ (fun _ j hj=>by
          have hjj : j = 0 ∨ j = 1 ∨ j = 2 ∨ j = 3 ∨ j = 4 ∨ j = 5 ∨ j = 6:=by omega
          rcases hjj with rfl | rfl | rfl | rfl | rfl | rfl | rfl <;> simp [hdl]))
        ·cases ho
         simp [Region.binds,slR] at hdep
         refine ⟨rfl,rfl,fun K hK=>?_⟩
         unfold Oper.wp
         simp [execOp,Oper.upon,go_sem,Act.eval,hdep,o7,valRo,h4,h5,h6,h7,hN1,hzo]
         exact hK x _ (fun _ _=>rfl) (hW.mono 0 (by decide) (by decide) ⟨nofun,nofun,nofun⟩ nofun)
        ·cases ho
         simp [Region.binds,slR] at hdep hdl
         refine ⟨rfl,rfl,fun K hK=>?_⟩
         unfold Oper.wp
         simp [execOp,Oper.upon,go_sem,Act.eval,hdep,o7,valRo,h4,h5,h6,h7,hN1,hzo]
         exact hK x _ (fun _ _=>rfl) (hW.mono 1 (by decide) (by decide) ⟨fun _=>hdl,nofun,nofun⟩ nofun)
        ·cases ho
         simp [Region.binds,slR] at hdep
         refine ⟨rfl,rfl,fun K hK=>?_⟩
         unfold Oper.wp
         simp [execOp,Oper.upon,go_sem,Act.eval,hdep,o7,valRo,h4,h5,h6,h7,hN1,hzo]
         exact hK x _ (fun _ _=>rfl) (hW.mono 2 (by decide) (by decide) ⟨nofun,nofun,nofun⟩ nofun)
        ·cases ho
         simp [Region.binds,slR] at hdep hdl
         refine ⟨rfl,rfl,fun K hK=>?_⟩
         unfold Oper.wp
         simp [execOp,Oper.upon,go_sem,Act.eval,hdep,o7,valRo,h4,h5,h6,h7,hN1,hzo]
         exact hK x _ (fun _ _=>rfl) (hW.mono 3 (by decide) (by decide) ⟨nofun,fun _=>hdl,nofun⟩ nofun)
       ·rintro x L w1 hall hW
        obtain ⟨Y1,cur',hb1,hg1,hR1⟩:=hW.c (hall 6 (by decide))
        have hI1:=HJ6.out.1.rot hb1 hg1 (by rw [List.map_append];exact hR1) (by have:=HH.out.2.2.2.2.2.1.size;omega)
        have HI1:=Lib.hid (And.intro hI1 hI1.lfOf)
        clear hI1 hb1 hg1 hR1 hW hall AP
        simp only [rea.setAll,slR,valRo]
        rw [show List.range 8 = [0,1,2,3,4,5,6,7] from rfl]
        simp only [List.foldl_cons,List.foldl_nil,List.getD_cons_zero,List.getD_cons_succ]
        simp (decide:=true) only [List.setIfInBounds_toArray,List.set_cons_succ,List.set_cons_zero,List.getElem?_toArray,List.getElem?_cons_succ,List.getElem?_cons_zero,Option.getD_some]
        go_roundw
        case rel=>exact ⟨_,_,_,_,_,_,_,_,_,_,_,_,_,_,_,_,_,_,_,_,_,⟨t ++ [p],0,x.2.1,x.2.2.1,x.2.2.2,lf',by have:=HL.out;simp;omega,by omega,rfl,rfl,HI1.out.1⟩,rfl⟩
        case measure=>
         rw [HI1.out.2,HI9.out.2]
         have:=HJ6.out.2
         simp [intOf]
         omega
      | false=>
       have hJ6 : LpJ W W0 a s (n + 1) (.slice none 0 0) n (n + 2) most D (ents s3.ss) s3.pl b3 (L0.map (·.1)) Y p t (j + 1) g k cap lf':=by simpa using J5.out.1
       have hm6 : lf'.toNat * (N + 1) + (N - (j + 1)) < lf.toNat * (N + 1) + (N - j):=by
        rcases J5.out.2 with ⟨q1,_⟩ | ⟨_,q1⟩
        ·cases q1
        ·rw [q1];omega
       have HJ6:=Lib.hid (And.intro hJ6 hm6)
       have hHd:=hJ6.head
       have cg : Y.cell? ⟨g,k,none⟩ = some (.pointer (some ⟨p.2,0,none⟩)):=hHd.1
       obtain ⟨cur,hR⟩:=hHd.2
       have hle : t.length + 1 ≤ cap:=by simpa using hR.le
       obtain ⟨zo,hzo,hR2⟩:=hR.cut
       have hgY : g < Y.heap.size:=heap_lt hR.at_
       have h4 : (1 : Int) ≤ (N : Int):=by omega
       have h5 : (N : Int) ≤ (cap : Int):=by have:=HL.out;omega
       have h6 : (1 : Int) ≤ (cap : Int):=by omega
       have h7 : (0 : Int) < (N : Int):=by omega
       have hl1 : (t.map eP).length = N - 1:=by have:=HL.out;simp;omega
       have hl2 : (t.map eP).length + 1 = N:=by have:=HL.out;simp;omega
       have HR2:=Lib.hid (And.intro hR2 (And.intro hl1 (And.intro hl2 hgY)))
       have hJsz : W0.heap.size ≤ Y.heap.size:=by obtain ⟨_,_,_,_,hF,_⟩:=hJ6.ex;exact hF.sz
       clear hR hR2 hHd hle hl1 hl2 hJ6 hm6
       obtain ⟨i0,hi0,hzz,hz1,hz2⟩:=info_parts info121
       go_wp2_with fail
       have AP:=Lib.hid (fun (wx : World) (ab : Nat) (hb : Below Y.heap.size Y wx) (hx : wx.heap[ab]? = some (.cells #[.pointer (some ⟨p.2,0,none⟩)] 121 (0,0)))=>run_append_rot (P:=Tryz.prog) 140 140 i0 (.pointer none) 8 Tryz.underlying140 hi0 hzz hz1 hz2 rfl (HR2.out.1.keep (hb.block g HR2.out.2.2.2)) ⟨ab,0,none⟩ 1 (.pointer (some ⟨p.2,0,none⟩)) (at_whole hx 0 rfl) rfl (by rw [HR2.out.2.2.1];omega) (by rw [HR2.out.2.2.1];unfold maxLen;omega) (Nat.le_trans hJsz hb.size))
       rw [HR2.out.2.2.1,HR2.out.2.1] at AP
       refine rea.any_regionR (τ:=Nat × Nat × Nat × Nat) (0,0,0,0) 8 slR (valRo g k zo N cap p.2) (fun x L w'=>WRo Y W0.heap.size g (t.map eP) (.pointer (some ⟨p.2,0,none⟩)) x L w') rfl (by kernel_rfl) rfl (fun i d hi h=>by have:=slR_lt i hi d h;simp;omega) (fun i j d hi hj h1 h2=>slR_inj i hi j hj (h1.trans h2.symm) (by rw [h1];simp)) ⟨fun _=>(Below.refl _ Y).drew,(fun _ h=>by cases h),(fun h=>by cases h),(fun h=>by cases h),⟨(fun h=>by cases h),(fun h=>by cases h),(fun h=>by cases h),(fun h=>by cases h)⟩,(fun h=>by cases h)⟩ ?_ (fun _=>rfl) ?_
       ·rintro x i o hi ho L aa w1 hLi hdl hW ⟨hold,hdep⟩ hun
        have o7 : aa.tmps[7]? = some (.slice (some ⟨g,k,none⟩) N cap):=hun 7 7 (by decide) rfl (hW.before7 hi hLi)
        have hii : i = 4 ∨ i = 5 ∨ i = 6 ∨ i = 7 ∨ i = 0 ∨ i = 1 ∨ i = 2 ∨ i = 3:=by omega
        rcases hii with rfl | rfl | rfl | rfl | rfl | rfl | rfl | rfl
        ·have cg1:=(((hW.a (hW.before (by decide) hLi)).cell (p:=⟨g,k,none⟩) HR2.out.2.2.2)).trans cg
         cases ho
         simp [Region.binds,slR] at hdep hdl
         refine ⟨rfl,rfl,fun K hK=>?_⟩
         unfold Oper.wp
         simp [execOp,Oper.upon,go_sem,Act.eval,hdep,valRo,cg1]
         exact hK x _ (fun _ _=>rfl) (hW.mono 4 (by decide) (by decide) ⟨nofun,nofun,fun _=>hdl⟩ nofun)
        ·cases ho
         simp [Region.binds,slR] at hdep hdl
         refine ⟨rfl,rfl,fun K hK=>?_⟩
         unfold Oper.wp
         simp [execOp,Oper.upon,go_sem,Act.eval,hdep,valRo]
         exact hK (w1.heap.size,x.2) _ (fun i hi=>valRo_eq _ _ _ _ _ _ (fun e=>by subst e;rw [hLi] at hi;cases hi) (fun _=>rfl)) (hW.alloc hLi hdl)
        ·have b6:=hW.a hLi
         cases ho
         simp [Region.binds,slR] at hdep hdl
         have hx5:=hW.b hLi hdl.2
         obtain ⟨g',k',cap',cur',w',hr,h2,h3⟩:=AP.out w1 x.1 b6 hx5
         refine ⟨rfl,rfl,fun K hK=>?_⟩
         refine wp_append_run (.tmp 43) (.tmp 47) 140 rfl (vs:=.slice (some ⟨g,zo,none⟩) (N - 1) (cap - 1)) (vy:=.slice (some ⟨x.1,0,none⟩) 1 1) (by simp [Act.eval,hdep,valRo]) (by simp [Act.eval,hdep,valRo]) hr ?_
         exact hK (x.1,g',k',cap') _ (fun i hi=>valRo_eq _ _ _ _ _ _ (fun _=>rfl) (fun e=>by rcases e with rfl | rfl;rw [hLi] at hi;cases hi;rw [hW.before7 (i:=6) (by decide) hLi] at hi;cases hi)) (hW.app hLi hdl.1 hdl.2 h3 h2)
        ·cases ho
         simp [Region.binds,slR] at hdep hdl
         refine ⟨rfl,rfl,fun K hK=>?_⟩
         unfold Oper.wp
         simp [execOp,Oper.upon,go_sem,Act.eval,hdep,valRo]
         exact hK x _ (fun _ _=>rfl) (hW.mono 7 (by decide) (by decide) ⟨nofun,nofun,nofun⟩ (fun _ j hj=>by
          have hjj : j = 0 ∨ j = 1 ∨ j = 2 ∨ j = 3 ∨ j = 4 ∨ j = 5 ∨ j = 6:=by omega
          rcases hjj with rfl | rfl | rfl | rfl | rfl | rfl | rfl <;> simp [hdl]))
        ·cases ho
         simp [Region.binds,slR] at hdep
         refine ⟨rfl,rfl,fun K hK=>?_⟩
         unfold Oper.wp
         simp [execOp,Oper.upon,go_sem,Act.eval,hdep,o7,valRo,h4,h5,h6,h7,hN1,hzo]
         exact hK x _ (fun _ _=>rfl) (hW.mono 0 (by decide) (by decide) ⟨nofun,nofun,nofun⟩ nofun)
        ·cases ho
         simp [Region.binds,slR] at hdep hdl
         refine ⟨rfl,rfl,fun K hK=>?_⟩
         unfold Oper.wp
         simp [execOp,Oper.upon,go_sem,Act.eval,hdep,o7,valRo,h4,h5,h6,h7,hN1,hzo]
         exact hK x _ (fun _ _=>rfl) (hW.mono 1 (by decide) (by decide) ⟨fun _=>hdl,nofun,nofun⟩ nofun)
        ·cases ho
         simp [Region.binds,slR] at hdep
         refine ⟨rfl,rfl,fun K hK=>?_⟩
         unfold Oper.wp
         simp [execOp,Oper.upon,go_sem,Act.eval,hdep,o7,valRo,h4,h5,h6,h7,hN1,hzo]
         exact hK x _ (fun _ _=>rfl) (hW.mono 2 (by decide) (by decide) ⟨nofun,nofun,nofun⟩ nofun)
        ·cases ho
         simp [Region.binds,slR] at hdep hdl
         refine ⟨rfl,rfl,fun K hK=>?_⟩
         unfold Oper.wp
         simp [execOp,Oper.upon,go_sem,Act.eval,hdep,o7,valRo,h4,h5,h6,h7,hN1,hzo]
         exact hK x _ (fun _ _=>rfl) (hW.mono 3 (by decide) (by decide) ⟨nofun,fun _=>hdl,nofun⟩ nofun)
       ·rintro x L w1 hall hW
        obtain ⟨Y1,cur',hb1,hg1,hR1⟩:=hW.c (hall 6 (by decide))
        have hI1:=HJ6.out.1.rot hb1 hg1 (by rw [List.map_append];exact hR1) (by have:=HH.out.2.2.2.2.2.1.size;omega)
        have HI1:=Lib.hid (And.intro hI1 hI1.lfOf)
        clear hI1 hb1 hg1 hR1 hW hall AP
        simp only [rea.setAll,slR,valRo]
        rw [show List.range 8 = [0,1,2,3,4,5,6,7] from rfl]
        simp only [List.foldl_cons,List.foldl_nil,List.getD_cons_zero,List.getD_cons_succ]
        simp (decide:=true) only [List.setIfInBounds_toArray,List.set_cons_succ,List.set_cons_zero,List.getElem?_toArray,List.getElem?_cons_succ,List.getElem?_cons_zero,Option.getD_some]
        go_roundw
        case rel=>exact ⟨_,_,_,_,_,_,_,_,_,_,_,_,_,_,_,_,_,_,_,_,_,⟨t ++ [p],(j + 1),x.2.1,x.2.2.1,x.2.2.2,lf',by have:=HL.out;simp;omega,by omega,rfl,rfl,HI1.out.1⟩,rfl⟩
        case measure=>
         rw [HI1.out.2,HI9.out.2]
         have:=HJ6.out.2
         simp [intOf]
         omega
     ·obtain rfl : j = N:=by omega
      obtain ⟨s',v',b',cur,hF,hR,hE,hG,hB,hlf,hS⟩:=HI9.out.1.ex
      obtain ⟨vo,vm,vc,rfl⟩:=hF.sb.bt.row.form
      have FN:=Lib.hid (FIN.out _ _ _ _ _ _ hF HI9.out.1.dr hG hB (hS _ _ (Srv.stop _ _ _ _ (by simp [hLN]))))
      have c2 : wr.cell? ⟨n + 1 + 1,0,none⟩ = some (.pointer (some ⟨n + 1,0,none⟩)):=at_whole hF.x2 0 rfl
      have cb : wr.cell? ⟨n + 1,0,none⟩ = some (.slice vo vm vc):=at_whole (hF.mem.at hF.sb.bt.bb) 0 rfl
      have z0:=frozen_whole hF.x0 0
      have c0 : wr.cell? ⟨n,0,none⟩ = some (.slice none 0 0):=at_whole hF.x0 0 rfl
      clear hF hR hE hG hB hlf hS hI hlf0 hLN
      go_wp2_with fail
      refine ⟨by simp,.inl ⟨_,_,rfl,run_takeDeferred FN.out.1,?_⟩⟩
      obtain ⟨_,fs,H',s',rfl,q⟩:=FN.out.2.2
      exact ⟨.slice vo vm vc,by simp [results,Tryz.f21,go_sem,FN.out.2.1],_,fs,H',s',rfl,q⟩
end
end
end Go.Proofs.YthckbmcmdcemkaaGreatDoor.stm
