/- Texts of this claim, one behind the other: Xf Xg. -/
import Derived.Test.YthckbmcmdcemkaaGreatDoorEl3
import Derived.Test.YthckbmcmdcemkaaGreatDoorEl1
import Derived.Test.YthckbmcmdcemkaaGreatDoorBs41
set_option maxRecDepth 100000
set_option maxHeartbeats 16000000
set_option linter.unusedSimpArgs false
set_option linter.unusedVariables false
namespace Go.Proofs.YthckbmcmdcemkaaGreatDoor.stm
section
open Go.RowKit Go.Maps
section
variable {W w : World} {a : SetA} {p : SetP} {R : List (Nat × Obj)}
theorem mn_peer (h : Mn W w a p R) (y : Pms) (hy : pmOk y = true) (hge : p.peer.data ≤ y.data ∧ p.peer.sdata ≤ y.sdata ∧ p.peer.bidi ≤ y.bidi ∧ p.peer.uni ≤ y.uni) (hlen : p.ss.length ≤ 100000) :
  Calls Tryz.prog 28 #[ptr a.sb,.agg y.cs] w fun e w'=>e = .returned (.int .i64 0) ∧ Mn W w' a (stP p y) R:=by
 obtain ⟨H,s,hm,hs,rfl,hr⟩:=h
 refine (SetPeer_yes hm hs y hy hge (by simpa [SetS.pl] using hlen)).mono fun e w' hh=>?_
 obtain ⟨rfl,H',s',e,T,S⟩:=hh
 exact ⟨rfl,Mn.to hr T S e⟩
theorem mn_peer_no (h : Mn W w a p R) (y : Pms) (hy : pmOk y = true) (hno : y.data < p.peer.data ∨ y.sdata < p.peer.sdata ∨ y.bidi < p.peer.bidi ∨ y.uni < p.peer.uni) :
  Calls Tryz.prog 28 #[ptr a.sb,.agg y.cs] w fun e w'=>e = .returned (.int .i64 200) ∧ Mn W w' a p R:=by
 obtain ⟨H,s,hm,hs,rfl,hr⟩:=h
 have fin : ∀ (e : Ending) (w' : World),(e = .returned (.int .i64 200) ∧ To W w' H H (s.foot a) (s.foot a) ∧ SetIn H a s) → e = .returned (.int .i64 200) ∧ Mn W w' a s.pl R:=fun e w' hh=>⟨hh.1,Mn.to hr hh.2.1 hh.2.2 rfl⟩
 by_cases c0 : y.data < s.peer.data
 ·exact (SetPeer_no0 hm hs y hy c0).mono fin
 by_cases c1 : y.sdata < s.peer.sdata
 ·exact (SetPeer_no1 hm hs y hy c0 c1).mono fin
 by_cases c2 : y.bidi < s.peer.bidi
 ·exact (SetPeer_no2 hm hs y hy c0 c1 c2).mono fin
 by_cases c3 : y.uni < s.peer.uni
 ·exact (SetPeer_no3 hm hs y hy c0 c1 c2 c3).mono fin
 ·rcases hno with h | h | h | h
  ·exact absurd h c0
  ·exact absurd h c1
  ·exact absurd h c2
  ·exact absurd h c3
end
def upP (x y : Pms) : Pms:=⟨max x.data y.data,max x.sdata y.sdata,max x.bidi y.bidi,max x.uni y.uni,0,0⟩
def lowB (x y : Pms) : Bool:=decide (y.data < x.data) || (decide (y.sdata < x.sdata) || (decide (y.bidi < x.bidi) || decide (y.uni < x.uni)))
def ElR (x y q : Pms) (M m l0 l1 : Int) : Prop:=q.data ≤ max x.data y.data ∧ q.sdata ≤ max x.sdata y.sdata ∧ q.bidi ≤ max x.bidi y.bidi ∧ q.uni ≤ max x.uni y.uni ∧ M ≤ max x.data y.data ∧ m ≤ max x.sdata y.sdata ∧ 0 ≤ l0 ∧ l0 ≤ 64 ∧ 0 ≤ l1 ∧ l1 ≤ 64
section
variable {W w : World} {a : SetA} {R : List (Nat × Obj)} {x y : Pms} {S : List Int} {t : Nat} {c r : Int}
theorem PfOk.pm (h : PfOk x) : pmOk x = true:=by
 obtain ⟨⟨x1,x2⟩,⟨x3,x4⟩,⟨x5,x6⟩,x7,x8⟩:=h
 unfold pmOk inR
 simp only [Bool.and_eq_true,decide_eq_true_eq]
 omega
theorem e_low (hx : PfOk x) (hy : PfOk y) (h : Mn W w a (lP x x S t x.data c x.sdata r x.bidi x.uni 0) R) :
  Calls Tryz.prog 28 #[ptr a.sb,.agg y.cs] w fun e w'=>e = .returned (.int .i64 (if lowB x y then 200 else 0)) ∧ ∃ q M m l0 l1,ElR x y q M m l0 l1 ∧ Mn W w' a (lP x q S t M c m r l0 l1 0) R:=by
 obtain ⟨⟨x1,x2⟩,⟨x3,x4⟩,⟨x5,x6⟩,x7,x8⟩:=hx
 have hy':=hy
 obtain ⟨⟨y1,y2⟩,⟨y3,y4⟩,⟨y5,y6⟩,y7,y8⟩:=hy
 by_cases hb : y.data < x.data ∨ y.sdata < x.sdata ∨ y.bidi < x.bidi ∨ y.uni < x.uni
 ·have e1 : lowB x y = true:=by
   unfold lowB
   simp only [Bool.or_eq_true,decide_eq_true_eq]
   exact hb
  rw [e1,if_pos rfl]
  exact (mn_peer_no h y hy'.pm hb).mono fun e w' hh=>⟨hh.1,x,x.data,x.sdata,x.bidi,x.uni,⟨by omega,by omega,by omega,by omega,by omega,by omega,by omega,by omega,by omega,by omega⟩,hh.2⟩
 ·have e1 : lowB x y = false:=by
   rw [← Bool.not_eq_true]
   unfold lowB
   simp only [Bool.or_eq_true,decide_eq_true_eq]
   exact hb
  rw [e1,if_neg (by decide)]
  refine (mn_peer h y hy'.pm ⟨by show x.data ≤ y.data;omega,by show x.sdata ≤ y.sdata;omega,by show x.bidi ≤ y.bidi;omega,by show x.uni ≤ y.uni;omega⟩ (by show 1 ≤ 100000;decide)).mono fun e w' hh=>⟨hh.1,y,max x.data (min y.data maxOff),max x.sdata (min y.sdata maxOff),max x.bidi y.bidi,max x.uni y.uni,⟨by omega,by omega,by omega,by omega,by unfold maxOff;omega,by unfold maxOff;omega,by omega,by omega,by omega,by omega⟩,hh.2⟩
theorem e_up {q : Pms} {M m l0 l1 : Int} (hx : PfOk x) (hy : PfOk y) (hR : ElR x y q M m l0 l1) (h : Mn W w a (lP x q S t M c m r l0 l1 0) R) :
  Calls Tryz.prog 28 #[ptr a.sb,.agg (upP x y).cs] w fun e w'=>e = .returned (.int .i64 0) ∧ ∃ l0 l1,(0 ≤ l0 ∧ l0 ≤ 64) ∧ (0 ≤ l1 ∧ l1 ≤ 64) ∧ Mn W w' a (lP x (upP x y) S t (max x.data y.data) c (max x.sdata y.sdata) r l0 l1 0) R:=by
 obtain ⟨⟨x1,x2⟩,⟨x3,x4⟩,⟨x5,x6⟩,x7,x8⟩:=hx
 obtain ⟨⟨y1,y2⟩,⟨y3,y4⟩,⟨y5,y6⟩,y7,y8⟩:=hy
 obtain ⟨r1,r2,r3,r4,r5,r6,r7,r8,r9,r10⟩:=hR
 have hpm : pmOk (upP x y) = true:=by
  unfold pmOk inR upP
  simp only [Bool.and_eq_true,decide_eq_true_eq]
  omega
 refine (mn_peer h (upP x y) hpm ⟨r1,r2,r3,r4⟩ (by show 1 ≤ 100000;decide)).mono fun e w' hh=>⟨hh.1,max l0 (max x.bidi y.bidi),max l1 (max x.uni y.uni),⟨by omega,by omega⟩,⟨by omega,by omega⟩,?_⟩
 have e1 : max M (min (max x.data y.data) maxOff) = max x.data y.data:=by unfold maxOff;omega
 have e2 : max m (min (max x.sdata y.sdata) maxOff) = max x.sdata y.sdata:=by unfold maxOff;omega
 have h2 : Mn W w' a (lP x (upP x y) S t (max M (min (max x.data y.data) maxOff)) c (max m (min (max x.sdata y.sdata) maxOff)) r (max l0 (max x.bidi y.bidi)) (max l1 (max x.uni y.uni)) 0) R:=hh.2
 rw [e1,e2] at h2
 exact h2
end
end
section
open Go.RowKit Go.Maps
theorem below_drawn (w : World) (n : Nat) : Below w.heap.size w (w.drewN n):=belowN (Below.refl _ w) n
theorem el_walk (d s bd u d' s' bd' u' : Int) (hd : 0 ≤ d ∧ d ≤ 65535) (hs : 0 ≤ s ∧ s ≤ 65535) (hb : 0 ≤ bd ∧ bd ≤ 255) (hu : 0 ≤ u ∧ u ≤ 255) (hd' : 0 ≤ d' ∧ d' ≤ 65535) (hs' : 0 ≤ s' ∧ s' ≤ 65535) (hb' : 0 ≤ bd' ∧ bd' ≤ 255) (hu' : 0 ≤ u' ∧ u' ≤ 255) {w : World} {a0 a1 a2 a3 : Addr} (hE : rea.Errs w a0 a1 a2 a3) (hA : rea.Apt w a0 a1) :
  Calls Tryz.prog 7 #[.agg #[.int .u16 d,.int .u16 s,.int .u8 bd,.int .u8 u],.agg #[.int .u16 d',.int .u16 s',.int .u8 bd',.int .u8 u']] w fun e w'=>e = .returned (.bool true) ∧ Below w.heap.size w w':=by
 have X:=Lib.hid (box2 w (.cells #[.int .u16 d,.int .u16 s,.int .u8 bd,.int .u8 u] 42) (.cells #[.int .u16 d',.int .u16 s',.int .u8 bd',.int .u8 u'] 42))
 have P1:=Lib.hid (fun wx=>paramsFrom_any d s bd u hd hs hb hu wx)
 have P2:=Lib.hid (fun wx=>paramsFrom_any d' s' bd' u' hd' hs' hb' hu' wx)
 have XR:=Lib.hid (show PfOk (pfP d s bd u) from pfP_rng hd.1 hs.1 hb.1 hu.1)
 have YR:=Lib.hid (show PfOk (pfP d' s' bd' u') from pfP_rng hd'.1 hs'.1 hb'.1 hu'.1)
 have SN:=Lib.hid (sane_any (hE.below X.out.2.2.1) (hA.below X.out.2.2.1))
 obtain ⟨x,hx⟩ : ∃ x,pfP d s bd u = x:=⟨_,rfl⟩
 obtain ⟨y,hy⟩ : ∃ y,pfP d' s' bd' u' = y:=⟨_,rfl⟩
 rw [hx] at P1 XR
 rw [hy] at P2 YR
 simp only [Pms.cs] at P1 P2
 clear hE hA hx hy hd hs hb hu hd' hs' hb' hu'
 go_enter Tryz.func7,Tryz.ntmps7
 go_upto_region 1 with (fail)
 obtain ⟨X1,X2,X3,X4⟩:=X.out
 have XB:=Lib.hid X3
 obtain ⟨t2,ht2⟩ : ∃ t2,w.heap.size = t2:=⟨_,rfl⟩
 rw [ht2] at X1 X2 ⊢
 clear X X3 X4 ht2
 obtain ⟨t3,ht3⟩ : ∃ t3,t2 + 1 = t3:=⟨_,rfl⟩
 rw [ht3] at X2 ⊢
 clear ht3
 generalize World.alloc _ _ = w0 at *
 have C2:=Lib.hid X1
 have C3:=Lib.hid X2
 clear X1 X2
 go_upto_region 3 with (go_at_call 16;refine SN.out.mono ?_;rintro e w1 ⟨rfl,hb⟩;have B1:=Lib.hid hb;clear hb)
 clear SN
 have i0 : w1.cell? ⟨t2,0,none⟩ = some (.int .u16 d):=at_whole' (heap_below B1.out C2.out) rfl
 have i1 : w1.cell? ⟨t2,1,none⟩ = some (.int .u16 s):=at_whole' (heap_below B1.out C2.out) rfl
 have i2 : w1.cell? ⟨t2,2,none⟩ = some (.int .u8 bd):=at_whole' (heap_below B1.out C2.out) rfl
 have i3 : w1.cell? ⟨t2,3,none⟩ = some (.int .u8 u):=at_whole' (heap_below B1.out C2.out) rfl
 go_upto_region 4 with (go_at_call 22;refine (P1.out _).mono ?_;rintro e w3 ⟨rfl,hb⟩;have B3:=Lib.hid (btr2 B1.out hb);clear hb)
 clear i0 i1 i2 i3 P1
 have X:=Lib.hid (box1 w3 (.cells #[.int .i64 x.data,.int .i64 x.sdata,.int .i64 x.bidi,.int .i64 x.uni,.int .i64 x.ad,.int .i64 x.idle] 24))
 have B4:=Lib.hid (btr2 B3.out X.out.2)
 obtain ⟨X1,X2⟩:=X.out
 obtain ⟨t5,ht⟩ : ∃ t5,w3.heap.size = t5:=⟨_,rfl⟩
 rw [ht] at X1 ⊢
 clear X X2 ht B3 B1
 generalize World.alloc _ _ = w4 at *
 have C5:=Lib.hid X1
 clear X1
 have i0 : w4.cell? ⟨t3,0,none⟩ = some (.int .u16 d'):=at_whole' (heap_below B4.out C3.out) rfl
 have i1 : w4.cell? ⟨t3,1,none⟩ = some (.int .u16 s'):=at_whole' (heap_below B4.out C3.out) rfl
 have i2 : w4.cell? ⟨t3,2,none⟩ = some (.int .u8 bd'):=at_whole' (heap_below B4.out C3.out) rfl
 have i3 : w4.cell? ⟨t3,3,none⟩ = some (.int .u8 u'):=at_whole' (heap_below B4.out C3.out) rfl
 go_upto_region 5 with (go_at_call 22;refine (P2.out _).mono ?_;rintro e w5 ⟨rfl,hb⟩;have B5:=Lib.hid (btr2 B4.out hb);have C5':=Lib.hid (heap_below hb C5.out);clear hb)
 clear i0 i1 i2 i3 P2 C2 C3 C5
 have X:=Lib.hid (box1 w5 (.cells #[.int .i64 y.data,.int .i64 y.sdata,.int .i64 y.bidi,.int .i64 y.uni,.int .i64 y.ad,.int .i64 y.idle] 24))
 have B6:=Lib.hid (btr2 B5.out X.out.2)
 have C5:=Lib.hid (heap_below X.out.2 C5'.out)
 obtain ⟨X1,X2⟩:=X.out
 obtain ⟨t6,ht⟩ : ∃ t6,w5.heap.size = t6:=⟨_,rfl⟩
 rw [ht] at X1 ⊢
 clear X X2 ht B4 B5 C5'
 generalize World.alloc _ _ = w6 at *
 have C6:=Lib.hid X1
 clear X1
 have q0 : w6.cell? ⟨t5,0,none⟩ = some (.int .i64 x.data):=at_whole' C5.out rfl
 have q1 : w6.cell? ⟨t5,1,none⟩ = some (.int .i64 x.sdata):=at_whole' C5.out rfl
 have q2 : w6.cell? ⟨t5,2,none⟩ = some (.int .i64 x.bidi):=at_whole' C5.out rfl
 have q3 : w6.cell? ⟨t5,3,none⟩ = some (.int .i64 x.uni):=at_whole' C5.out rfl
 have r0 : w6.cell? ⟨t6,0,none⟩ = some (.int .i64 y.data):=at_whole' C6.out rfl
 have r1 : w6.cell? ⟨t6,1,none⟩ = some (.int .i64 y.sdata):=at_whole' C6.out rfl
 have r2 : w6.cell? ⟨t6,2,none⟩ = some (.int .i64 y.bidi):=at_whole' C6.out rfl
 have r3 : w6.cell? ⟨t6,3,none⟩ = some (.int .i64 y.uni):=at_whole' C6.out rfl
 have X:=Lib.hid (box1 w6 (.cells #[.int .i64 (max x.data y.data),.int .i64 (max x.sdata y.sdata),.int .i64 (max x.bidi y.bidi),.int .i64 (max x.uni y.uni),.int .i64 0,.int .i64 0] 24))
 go_upto_region 6 with (fail)
 clear q0 q1 q2 q3 r0 r1 r2 r3
 generalize hud : max x.data y.data = ud at X ⊢
 generalize hus : max x.sdata y.sdata = us at X ⊢
 generalize hub : max x.bidi y.bidi = ub at X ⊢
 generalize huu : max x.uni y.uni = uu at X ⊢
 have HU:=Lib.hid (And.intro hud (And.intro hus (And.intro hub huu)))
 clear hud hus hub huu
 have B7:=Lib.hid (btr2 B6.out X.out.2)
 have C5':=Lib.hid (heap_below X.out.2 C5.out)
 have C6':=Lib.hid (heap_below X.out.2 C6.out)
 obtain ⟨X1,X2⟩:=X.out
 obtain ⟨t7,ht⟩ : ∃ t7,w6.heap.size = t7:=⟨_,rfl⟩
 rw [ht] at X1 ⊢
 clear X X2 ht B6 C5 C6
 generalize World.alloc _ _ = W at *
 have C7:=Lib.hid X1
 clear X1
 have q0 : W.cell? ⟨t5,0,none⟩ = some (.int .i64 x.data):=at_whole' C5'.out rfl
 have q1 : W.cell? ⟨t5,1,none⟩ = some (.int .i64 x.sdata):=at_whole' C5'.out rfl
 have q2 : W.cell? ⟨t5,2,none⟩ = some (.int .i64 x.bidi):=at_whole' C5'.out rfl
 have q3 : W.cell? ⟨t5,3,none⟩ = some (.int .i64 x.uni):=at_whole' C5'.out rfl
 have q4 : W.cell? ⟨t5,4,none⟩ = some (.int .i64 x.ad):=at_whole' C5'.out rfl
 have q5 : W.cell? ⟨t5,5,none⟩ = some (.int .i64 x.idle):=at_whole' C5'.out rfl
 have N:=Lib.hid (e_new (Below.refl W.heap.size W) XR.out)
 simp only [Pms.cs] at N
 go_upto_region 9 with (go_at_call 17;refine N.out.mono ?_;rintro e w8 ⟨a,rfl,hM⟩;have M8:=Lib.hid hM;clear hM N q0 q1 q2 q3 q4 q5)
 have N:=Lib.hid (e_open XR.out M8.out)
 unfold ptr at N
 go_upto_region 12 with (go_at_call 18;refine N.out.mono ?_;rintro e w9 ⟨rfl,hM⟩;have M9:=Lib.hid hM;clear hM N M8)
 have N1:=Lib.hid (content_any 0 0 2000 w9 (by decide) (by decide) (by decide))
 obtain ⟨dt,hdt⟩ : ∃ q,cont 0 0 2000 = q:=⟨_,rfl⟩
 have HD:=Lib.hid (show dt.size = 2000 from by rw [← hdt];exact cont_size 0 0 2000)
 rw [hdt] at N1
 clear hdt
 have N2:=Lib.hid (fun wx (h : Mn W wx a (eN x) [])=>e_write HD.out h)
 unfold ptr at N2
 go_upto_region 13 with (first | (go_at_call 20;refine N1.out.mono ?_;rintro e w10 ⟨rfl,hb⟩;have M10:=Lib.hid (M9.out.same hb);clear hb N1 M9) | (go_at_call 19;refine (N2.out _ M10.out).mono ?_;rintro e w11 ⟨rfl,hM⟩;have M11:=Lib.hid hM;clear hM N2 M10))
 have HS:=Lib.hid (show (bytesOf dt).length = 2000 from by rw [bytesOf_length,HD.out])
 obtain ⟨S,hS⟩ : ∃ S,bytesOf dt = S:=⟨_,rfl⟩
 rw [hS] at M11 HS
 clear hS HD
 have N1:=Lib.hid (e_call XR.out HS.out (by have:=XR.out.1;show ((0 : Nat) : Int) ≤ _;omega) (by have:=XR.out.2.1;show ((0 : Nat) : Int) ≤ _;omega) XR.out.1.2 XR.out.2.1.2 (by decide) (by decide) (by have:=XR.out.2.2.1;omega) (by have:=XR.out.2.2.2;omega) M11.out)
 unfold ptr at N1
 obtain ⟨n1,hn1⟩ : ∃ n1,min x.data x.sdata = n1:=⟨_,rfl⟩
 have HN:=Lib.hid hn1
 go_upto_region 14 with (first | (go_at_call 21;refine N1.out.mono ?_;rintro e w12 ⟨v,fs,p',R',rfl,hl,hR,hM,hsum,t,ht,hp⟩;have F:=Lib.hid (And.intro hl (And.intro hR (And.intro hM (And.intro hsum (And.intro ht hp)))));clear hl hR hM hsum ht hp N1 M11;have SU:=Lib.hid (sum_any F.out.2.1 F.out.1 (by have:=F.out.2.2.2.1;have:=XR.out.1;omega) (fun y hy=>F.out.2.2.1.row (List.mem_append_left _ hy)))) | (go_at_call 27;refine SU.out.mono ?_;rintro e w13 ⟨rfl,hb⟩;have M13:=Lib.hid (F.out.2.2.1.same hb);clear hb SU))
 have hpt:=F.out.2.2.2.2.2 (by have:=XR.out.1;have:=XR.out.2.1;show ((0 : Nat) : Int) < _;omega)
 obtain ⟨c,r,hc,hr,rfl⟩:=hpt
 have HT:=Lib.hid (show (t : Int) = n1 ∧ sumF fs = n1 from ⟨by have:=F.out.2.2.2.2.1;omega,by have:=F.out.2.2.2.1;omega⟩)
 have HC:=Lib.hid (And.intro hc hr)
 have M14:=Lib.hid (M13.out.sub (R':=[]) (fun y hy=>by cases hy))
 obtain ⟨sf,hsf⟩ : ∃ q,sumF fs = q:=⟨_,rfl⟩
 rw [hsf]
 obtain rfl : sf = n1:=by have:=HT.out.2;omega
 clear hc hr M13 F hn1 hsf
 have y6:=heap_below M14.out.below C6'.out
 have r0 : w13.cell? ⟨t6,0,none⟩ = some (.int .i64 y.data):=at_whole' y6 rfl
 have r1 : w13.cell? ⟨t6,1,none⟩ = some (.int .i64 y.sdata):=at_whole' y6 rfl
 have r2 : w13.cell? ⟨t6,2,none⟩ = some (.int .i64 y.bidi):=at_whole' y6 rfl
 have r3 : w13.cell? ⟨t6,3,none⟩ = some (.int .i64 y.uni):=at_whole' y6 rfl
 have r4 : w13.cell? ⟨t6,4,none⟩ = some (.int .i64 y.ad):=at_whole' y6 rfl
 have r5 : w13.cell? ⟨t6,5,none⟩ = some (.int .i64 y.idle):=at_whole' y6 rfl
 have N:=Lib.hid (e_low XR.out YR.out M14.out)
 simp only [Pms.cs,ptr] at N
 clear y6
 go_upto_region 15 with (go_at_call 28;refine N.out.mono ?_;rintro e w15 ⟨rfl,q,M,m,l0,l1,hq,hM⟩;have M15:=Lib.hid (And.intro hq hM);clear hq hM N r0 r1 r2 r3 r4 r5 M14)
 have y7:=heap_below M15.out.2.below C7.out
 have r0 : w15.cell? ⟨t7,0,none⟩ = some (.int .i64 ud):=at_whole' y7 rfl
 have r1 : w15.cell? ⟨t7,1,none⟩ = some (.int .i64 us):=at_whole' y7 rfl
 have r2 : w15.cell? ⟨t7,2,none⟩ = some (.int .i64 ub):=at_whole' y7 rfl
 have r3 : w15.cell? ⟨t7,3,none⟩ = some (.int .i64 uu):=at_whole' y7 rfl
 have r4 : w15.cell? ⟨t7,4,none⟩ = some (.int .i64 0):=at_whole' y7 rfl
 have r5 : w15.cell? ⟨t7,5,none⟩ = some (.int .i64 0):=at_whole' y7 rfl
 have N:=Lib.hid (e_up XR.out YR.out M15.out.1 M15.out.2)
 simp only [Pms.cs,ptr,upP,HU.out.1,HU.out.2.1,HU.out.2.2.1,HU.out.2.2.2] at N
 clear y7
 go_upto_region 16 with (go_at_call 28;refine N.out.mono ?_;rintro e w16 ⟨rfl,l2,l3,hl2,hl3,hM⟩;have M16:=Lib.hid (And.intro hl2 (And.intro hl3 hM));clear hl2 hl3 hM N r0 r1 r2 r3 r4 r5 M15)
 have UR:=Lib.hid (show x.data ≤ ud ∧ x.sdata ≤ us ∧ 1 ≤ ud ∧ ud ≤ 1000 ∧ 1 ≤ us ∧ us ≤ 500 from by have:=HU.out;have:=XR.out.1;have:=YR.out.1;have:=XR.out.2.1;have:=YR.out.2.1;omega)
 obtain ⟨c2,hc2⟩ : ∃ c2,min ud us = c2:=⟨_,rfl⟩
 have N1:=Lib.hid (e_call XR.out HS.out (by have:=UR.out;have:=HT.out;have:=HN.out;omega) (by have:=UR.out;have:=HT.out;have:=HN.out;omega) UR.out.2.2.2.1 UR.out.2.2.2.2.2 (by have:=HC.out.1;have:=XR.out.1;omega) (by have:=HC.out.2;have:=XR.out.2.1;omega) M16.out.1 M16.out.2.1 M16.out.2.2)
 have H2:=Lib.hid hc2
 unfold ptr at N1
 go_upto_region 17 with (first | (go_at_call 21;refine N1.out.mono ?_;rintro e w17 ⟨v2,fs2,p2,R2,rfl,hl,hR,hM,hsum,_⟩;have F:=Lib.hid (And.intro hl (And.intro hR (And.intro hM hsum)));clear hl hR hM hsum N1 M16;have SU:=Lib.hid (sum_any F.out.2.1 F.out.1 (by have:=F.out.2.2.2;have:=UR.out;omega) (fun y hy=>F.out.2.2.1.row (List.mem_append_left _ hy)))) | (go_at_call 27;refine SU.out.mono ?_;rintro e w18 ⟨rfl,hb⟩;have M18:=Lib.hid (F.out.2.2.1.same hb);clear hb SU))
 obtain ⟨k2,hk2⟩ : ∃ q,sumF fs2 = q:=⟨_,rfl⟩
 have HK:=Lib.hid (show sf + k2 = c2 from by have:=F.out.2.2.2;have:=HT.out;have:=H2.out;omega)
 rw [hk2]
 have Z5:=Lib.hid (heap_below M18.out.below C5'.out)
 have Z6:=Lib.hid (heap_below M18.out.below C6'.out)
 have Z7:=Lib.hid (heap_below M18.out.below C7.out)
 have BF:=Lib.hid (btr2 XB.out (btr2 B7.out M18.out.below))
 clear hk2 F M18 C5' C6' C7 HS HC hc2 XB B7
 have q0 : w18.cell? ⟨t5,0,none⟩ = some (.int .i64 x.data):=at_whole' Z5.out rfl
 have q1 : w18.cell? ⟨t5,1,none⟩ = some (.int .i64 x.sdata):=at_whole' Z5.out rfl
 have m1:=HN.out
 have NS:=Lib.hid (newS_any sf (by have:=HN.out;have:=XR.out.1;have:=XR.out.2.1;omega) (by have:=HN.out;have:=XR.out.1;omega) w18)
 have XS:=Lib.hid (box1 w18 (.cells (Snd.cells ⟨sf,0,0⟩) 161))
 unfold ptr at NS
 go_upto_region 20 with (go_at_call 29;refine NS.out.mono ?_;rintro e w19 ⟨rfl,hw19⟩;have HW:=Lib.hid hw19;clear hw19 NS q0 q1 m1)
 have B9 : Below w18.heap.size w18 w19:=by rw [HW.out];exact XS.out.2
 have S9 : w19.heap[w18.heap.size]? = some (.cells (Snd.cells ⟨sf,0,0⟩) 161 (0,0)):=by rw [HW.out];exact XS.out.1
 obtain ⟨t16,ht16⟩ : ∃ q,w18.heap.size = q:=⟨_,rfl⟩
 have AV:=Lib.hid (avail_any t16 ⟨sf,0,0⟩ w19 (by rw [← ht16];exact S9) ⟨by show (0 : Int) ≤ 0;decide,by have:=HN.out;have:=XR.out.1;have:=XR.out.2.1;show (0 : Int) ≤ sf;omega,by have:=HN.out;have:=XR.out.1;show sf ≤ maxOff;unfold maxOff;omega⟩)
 have eav : (⟨sf,0,0⟩ : Snd).av = sf:=by show sf - 0 = sf;omega
 rw [eav] at AV
 unfold ptr at AV
 have G5:=Lib.hid (heap_below B9 Z5.out)
 have G6:=Lib.hid (heap_below B9 Z6.out)
 have G7:=Lib.hid (heap_below B9 Z7.out)
 have BF':=Lib.hid (btr2 BF.out B9)
 rw [ht16]
 clear ht16 B9 S9 eav HW XS BF Z5 Z6 Z7
 have q0 : w19.cell? ⟨t5,0,none⟩ = some (.int .i64 x.data):=at_whole' G5.out rfl
 have q1 : w19.cell? ⟨t5,1,none⟩ = some (.int .i64 x.sdata):=at_whole' G5.out rfl
 have q2 : w19.cell? ⟨t5,2,none⟩ = some (.int .i64 x.bidi):=at_whole' G5.out rfl
 have q3 : w19.cell? ⟨t5,3,none⟩ = some (.int .i64 x.uni):=at_whole' G5.out rfl
 have r0 : w19.cell? ⟨t6,0,none⟩ = some (.int .i64 y.data):=at_whole' G6.out rfl
 have r1 : w19.cell? ⟨t6,1,none⟩ = some (.int .i64 y.sdata):=at_whole' G6.out rfl
 have r2 : w19.cell? ⟨t6,2,none⟩ = some (.int .i64 y.bidi):=at_whole' G6.out rfl
 have r3 : w19.cell? ⟨t6,3,none⟩ = some (.int .i64 y.uni):=at_whole' G6.out rfl
 have hsf1 : sf ≤ 500:=by have:=HN.out;have:=XR.out.2.1;omega
 have e1 : min 2000 sf = sf:=by omega
 have e2 : (ud < 2000) = True:=eq_true (by have:=UR.out;omega)
 have hc3 : ((us < ud) = True ∧ (c2 == us) = true) ∨ ((us < ud) = False ∧ (c2 == ud) = true):=by
  have:=H2.out
  by_cases h : us < ud
  ·exact .inl ⟨eq_true h,beq_iff_eq.mpr (by omega)⟩
  ·exact .inr ⟨eq_false h,beq_iff_eq.mpr (by omega)⟩
 have e4 : IntKind.i64.wrap (sf + k2) = c2:=by rw [IntWalk.i64_in _ (by have:=HK.out;have:=H2.out;have:=UR.out;omega)];exact HK.out
 have s0 : w19.cell? ⟨t7,0,none⟩ = some (.int .i64 ud):=at_whole' G7.out rfl
 have s1 : w19.cell? ⟨t7,1,none⟩ = some (.int .i64 us):=at_whole' G7.out rfl
 obtain ⟨lb,hlb⟩ : ∃ q,lowB x y = q:=⟨_,rfl⟩
 rw [hlb]
 have hcase : (y.data < x.data ∧ lb = true) ∨ (¬ y.data < x.data ∧ y.sdata < x.sdata ∧ lb = true) ∨ (¬ y.data < x.data ∧ ¬ y.sdata < x.sdata ∧ y.bidi < x.bidi ∧ lb = true) ∨ (¬ y.data < x.data ∧ ¬ y.sdata < x.sdata ∧ ¬ y.bidi < x.bidi ∧ y.uni < x.uni ∧ lb = true) ∨ (¬ y.data < x.data ∧ ¬ y.sdata < x.sdata ∧ ¬ y.bidi < x.bidi ∧ ¬ y.uni < x.uni ∧ lb = false):=by
  have e : lowB x y = true ↔ (y.data < x.data ∨ y.sdata < x.sdata ∨ y.bidi < x.bidi ∨ y.uni < x.uni):=by
   unfold lowB
   simp only [Bool.or_eq_true,decide_eq_true_eq]
  rw [hlb] at e
  cases lb with
  | true=>
   have:=e.mp rfl
   simp only [and_true,Bool.true_eq_false,and_false,or_false]
   omega
  | false=>
   have : ¬ (y.data < x.data ∨ y.sdata < x.sdata ∨ y.bidi < x.bidi ∨ y.uni < x.uni):=fun h=>by have:=e.mpr h;cases this
   simp only [Bool.false_eq_true,and_false,false_or,and_true]
   omega
 clear hlb hsf1 HN HU UR H2 HK HT XR YR
 rcases hc3 with ⟨e3,e5⟩ | ⟨e3,e5⟩
 all_goals rcases hcase with ⟨g0,rfl⟩ | ⟨g0,g1,rfl⟩ | ⟨g0,g1,g2,rfl⟩ | ⟨g0,g1,g2,g3,rfl⟩ | ⟨g0,g1,g2,g3,rfl⟩
 all_goals (
  go_upto_region 21 with (fail)
  go_wp2_with (go_at_call 30;refine AV.out.mono ?_;rintro e w20 ⟨rfl,nq,hw20⟩;have HQ:=Lib.hid hw20;clear hw20 q0 q1 q2 q3 r0 r1 r2 r3;have s0 : w20.cell? ⟨t7,0,none⟩ = some (.int .i64 ud):=(by rw [HQ.out];exact at_whole' G7.out rfl);have s1 : w20.cell? ⟨t7,1,none⟩ = some (.int .i64 us):=(by rw [HQ.out];exact at_whole' G7.out rfl))
  go_ret
  exact ⟨rfl,by rw [HQ.out];exact btr2 BF'.out (below_drawn w19 nq)⟩)
end
end Go.Proofs.YthckbmcmdcemkaaGreatDoor.stm
