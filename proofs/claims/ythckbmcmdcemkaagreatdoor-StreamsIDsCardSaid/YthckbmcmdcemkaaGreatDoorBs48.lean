/- Texts of this claim, one behind the other: Wi. -/
import Derived.Test.YthckbmcmdcemkaaGreatDoorBs46
import Derived.Test.YthckbmcmdcemkaaGreatDoorBs47
import Derived.Test.YthckbmcmdcemkaaGreatDoorBs41
set_option maxRecDepth 100000
set_option maxHeartbeats 16000000
set_option linter.unusedSimpArgs false
set_option linter.unusedVariables false
namespace Go.Proofs.YthckbmcmdcemkaaGreatDoor.stm
section
open Go.RowKit Go.Maps
theorem ids_new {W w : World} (hb : Below W.heap.size W w) (cl : Bool) (x : Pms) (hx : pmOk x = true) : Calls Tryz.prog 17 #[.bool cl,.agg #[.int .i64 1000,.int .i64 100,.int .i64 64,.int .i64 64,.int .i64 0,.int .i64 0],.agg x.cs] w fun e w'=>∃ a : SetA,e = .returned (.tuple #[.pointer (some ⟨a.sb,0,none⟩),.int .i64 0]) ∧ Mn W w' a (iS cl x 0 0 false false (-1) (-1) nof (-1)) []:=
 mn_new hb cl gP x (by decide) hx (by decide)
theorem ids_new2 {W w : World} {a : SetA} {p : SetP} {R : List (Nat × Obj)} (h : Mn W w a p R) (cl : Bool) (x : Pms) (hx : pmOk x = true) (hs : x.sdata ≤ 8192) : Calls Tryz.prog 17 #[.bool (!cl),.agg x.cs,.agg #[.int .i64 1000,.int .i64 100,.int .i64 64,.int .i64 64,.int .i64 0,.int .i64 0]] w fun e w'=>∃ b : SetA,e = .returned (.tuple #[.pointer (some ⟨b.sb,0,none⟩),.int .i64 0]) ∧ Two W w' a p b (rS cl x 0 0 nof nof) R:=
 new_beside h (!cl) x gP hx (by decide) hs
section
variable {W w w' : World} {a b : SetA} {p q : SetP} {R R' : List (Nat × Obj)}
theorem Mn.turn (h : Mn W w a p R) {g : Nat} {cs : Array Value} {T : TypeId} (hx : (g,Obj.cells cs T (0,0)) ∈ R) (i : Nat) (v : Value) (hR : ∀ x ∈ R',x = (g,Obj.cells (cs.setIfInBounds i v) T (0,0)) ∨ (x ∈ R ∧ x.1 ≠ g)) : Mn W (w.setCell ⟨g,i,none⟩ v) a p R':=by
 obtain ⟨H,s,hm,S,e,h4⟩:=h
 obtain ⟨hg,hf⟩:=h4 _ hx
 obtain ⟨H',T',e'⟩:=To.set hm hg i v
 refine ⟨H',s,T'.mem,S.keep (fun k o hk ho=>T'.kp k o ho (fun e=>hf (e ▸ hk))),e,fun x hx=>?_⟩
 rcases hR x hx with rfl | ⟨h1,h2⟩
 ·exact ⟨e',hf⟩
 ·exact ⟨T'.kp _ _ (h4 x h1).1 h2,(h4 x h1).2⟩
theorem Two.turn (h : Two W w a p b q R) {g : Nat} {cs : Array Value} {T : TypeId} (hx : (g,Obj.cells cs T (0,0)) ∈ R) (i : Nat) (v : Value) (hR : ∀ x ∈ R',x = (g,Obj.cells (cs.setIfInBounds i v) T (0,0)) ∨ (x ∈ R ∧ x.1 ≠ g)) : Two W (w.setCell ⟨g,i,none⟩ v) a p b q R':=by
 obtain ⟨L,hL,hd,h⟩:=h
 refine ⟨L,hL,fun x hx' y hy=>?_,h.turn (R':=L ++ R') (List.mem_append_right _ hx) i v (fun x hx'=>?_)⟩
 ·rcases hR y hy with rfl | ⟨h1,_⟩
  ·exact fun e=>hd x hx' _ hx e
  ·exact hd x hx' y h1
 ·rcases List.mem_append.mp hx' with h1 | h1
  ·exact .inr ⟨List.mem_append_left _ h1,hd x h1 _ hx⟩
  ·rcases hR x h1 with e | ⟨h2,h3⟩
   ·exact .inl e
   ·exact .inr ⟨List.mem_append_right _ h2,h3⟩
end
def IdL (W w : World) (a b : SetA) (cl : Bool) (x : Pms) (t14 t15 : Nat) (o0 o1 : Nat) : Prop:=(o0 : Int) ≤ x.bidi ∧ (o1 : Int) ≤ x.uni ∧ ∃ b0 b1 r0 r1,Two W w a (iS cl x o0 o1 b0 b1 r0 r1 nof (-1)) b (rS cl x 0 0 nof nof) [(t15,.cells #[.int .i64 x.bidi,.int .i64 x.uni] 45 (0,0)),(t14,.cells #[.int .i64 o0,.int .i64 o1] 45 (0,0))]
theorem ids_walk (cl : Bool) (d s bd u : Int) (hd : 0 ≤ d ∧ d ≤ 65535) (hs : 0 ≤ s ∧ s ≤ 65535) (hb : 0 ≤ bd ∧ bd ≤ 255) (hu : 0 ≤ u ∧ u ≤ 255) (ka : Option Addr) (len cap : Nat) (kf : Nat → Bool) {w : World}
  (hk : ∀ w',Below w.heap.size w w' → ∀ i,i < len → ∃ b off,ka = some ⟨b,off,none⟩ ∧ w'.cell? ⟨b,off + i,none⟩ = some (.bool (kf i))) (hlen : len ≤ 9223372036854775807) {a0 a1 a2 a3 : Addr} (hE : rea.Errs w a0 a1 a2 a3) (hA : rea.Apt w a0 a1) :
  Calls Tryz.prog 4 #[.bool cl,.agg #[.int .u16 d,.int .u16 s,.int .u8 bd,.int .u8 u],.slice ka len cap] w fun e w'=>e = .returned (.bool true) ∧ Below w.heap.size w w':=by
 have X:=Lib.hid (box1 w (.cells #[.int .u16 d,.int .u16 s,.int .u8 bd,.int .u8 u] 42))
 have PF:=Lib.hid (fun wx=>paramsFrom_any d s bd u hd hs hb hu wx)
 have PR:=Lib.hid (pfP_rng hd.1 hs.1 hb.1 hu.1)
 have KS:=Lib.hid (And.intro hk hlen)
 have EA:=Lib.hid (And.intro (hE.below X.out.2) (hA.below X.out.2))
 obtain ⟨x,hx⟩ : ∃ x,pfP d s bd u = x:=⟨_,rfl⟩
 rw [hx] at PF PR
 simp only [Pms.cs] at PF
 clear hk hlen hE hA hx hd hs hb hu
 go_enter Tryz.func4,Tryz.ntmps4
 go_upto_region 1 with (fail)
 obtain ⟨X1,X2⟩:=X.out
 have XB:=Lib.hid X2
 obtain ⟨t4,ht4⟩ : ∃ t4,w.heap.size = t4:=⟨_,rfl⟩
 rw [ht4] at X1 ⊢
 clear X X2 ht4
 generalize World.alloc _ _ = w0 at *
 have C4:=Lib.hid X1
 clear X1
 have SN:=Lib.hid (sane_any EA.out.1 EA.out.2)
 go_upto_region 3 with (go_at_call 16;refine SN.out.mono ?_;rintro e w1 ⟨rfl,hb⟩;have B1:=Lib.hid hb;clear hb)
 clear SN
 have X:=Lib.hid (box1 w1 (.cells #[.int .i64 1000,.int .i64 100,.int .i64 64,.int .i64 64,.int .i64 0,.int .i64 0] 24))
 have B2:=Lib.hid (btr2 B1.out X.out.2)
 go_upto_region 4 with (fail)
 obtain ⟨X1,X2⟩:=X.out
 obtain ⟨t7,ht7⟩ : ∃ t7,w1.heap.size = t7:=⟨_,rfl⟩
 rw [ht7] at X1 ⊢
 clear X X2 ht7 B1
 generalize World.alloc _ _ = w2 at *
 have C7:=Lib.hid X1
 clear X1
 have i0 : w2.cell? ⟨t4,0,none⟩ = some (.int .u16 d):=at_whole' (heap_below B2.out C4.out) rfl
 have i1 : w2.cell? ⟨t4,1,none⟩ = some (.int .u16 s):=at_whole' (heap_below B2.out C4.out) rfl
 have i2 : w2.cell? ⟨t4,2,none⟩ = some (.int .u8 bd):=at_whole' (heap_below B2.out C4.out) rfl
 have i3 : w2.cell? ⟨t4,3,none⟩ = some (.int .u8 u):=at_whole' (heap_below B2.out C4.out) rfl
 go_upto_region 5 with (go_at_call 22;refine (PF.out _).mono ?_;rintro e w3 ⟨rfl,hb⟩;have B3:=Lib.hid hb;clear hb)
 clear i0 i1 i2 i3
 have X:=Lib.hid (box1 w3 (.cells #[.int .i64 x.data,.int .i64 x.sdata,.int .i64 x.bidi,.int .i64 x.uni,.int .i64 x.ad,.int .i64 x.idle] 24))
 have B5:=Lib.hid (btr2 (btr2 B2.out B3.out) X.out.2)
 have C7':=Lib.hid (heap_below X.out.2 (heap_below B3.out C7.out))
 obtain ⟨X1,X2⟩:=X.out
 obtain ⟨t8,ht8⟩ : ∃ t8,w3.heap.size = t8:=⟨_,rfl⟩
 rw [ht8] at X1 ⊢
 clear X X2 ht8 B3 C7 B2
 generalize World.alloc _ _ = W at *
 have C8:=Lib.hid X1
 clear X1
 have ER:=Lib.hid (And.intro (EA.out.1.below B5.out) (EA.out.2.below B5.out))
 clear EA
 have PK:=Lib.hid (show pmOk x = true from by
  obtain ⟨⟨h1,h2⟩,⟨h3,h4⟩,⟨h5,h6⟩,h7,h8⟩:=PR.out
  unfold pmOk inR
  simp only [Bool.and_eq_true,decide_eq_true_eq]
  omega)
 have q0 : W.cell? ⟨t7,0,none⟩ = some (.int .i64 1000):=at_whole' C7'.out rfl
 have q1 : W.cell? ⟨t7,1,none⟩ = some (.int .i64 100):=at_whole' C7'.out rfl
 have q2 : W.cell? ⟨t7,2,none⟩ = some (.int .i64 64):=at_whole' C7'.out rfl
 have q3 : W.cell? ⟨t7,3,none⟩ = some (.int .i64 64):=at_whole' C7'.out rfl
 have q4 : W.cell? ⟨t7,4,none⟩ = some (.int .i64 0):=at_whole' C7'.out rfl
 have q5 : W.cell? ⟨t7,5,none⟩ = some (.int .i64 0):=at_whole' C7'.out rfl
 have r0 : W.cell? ⟨t8,0,none⟩ = some (.int .i64 x.data):=at_whole' C8.out rfl
 have r1 : W.cell? ⟨t8,1,none⟩ = some (.int .i64 x.sdata):=at_whole' C8.out rfl
 have r2 : W.cell? ⟨t8,2,none⟩ = some (.int .i64 x.bidi):=at_whole' C8.out rfl
 have r3 : W.cell? ⟨t8,3,none⟩ = some (.int .i64 x.uni):=at_whole' C8.out rfl
 have r4 : W.cell? ⟨t8,4,none⟩ = some (.int .i64 x.ad):=at_whole' C8.out rfl
 have r5 : W.cell? ⟨t8,5,none⟩ = some (.int .i64 x.idle):=at_whole' C8.out rfl
 have N1:=Lib.hid (ids_new (Below.refl W.heap.size W) cl x PK.out)
 simp only [Pms.cs] at N1
 go_upto_region 6 with (go_at_call 17;refine N1.out.mono ?_;rintro e w5 ⟨a,rfl,hM⟩;have M5:=Lib.hid hM;clear hM N1 q0 q1 q2 q3 q4 q5 r0 r1 r2 r3 r4 r5)
 have y7:=heap_below M5.out.below C7'.out
 have y8:=heap_below M5.out.below C8.out
 have q0 : w5.cell? ⟨t7,0,none⟩ = some (.int .i64 1000):=at_whole' y7 rfl
 have q1 : w5.cell? ⟨t7,1,none⟩ = some (.int .i64 100):=at_whole' y7 rfl
 have q2 : w5.cell? ⟨t7,2,none⟩ = some (.int .i64 64):=at_whole' y7 rfl
 have q3 : w5.cell? ⟨t7,3,none⟩ = some (.int .i64 64):=at_whole' y7 rfl
 have q4 : w5.cell? ⟨t7,4,none⟩ = some (.int .i64 0):=at_whole' y7 rfl
 have q5 : w5.cell? ⟨t7,5,none⟩ = some (.int .i64 0):=at_whole' y7 rfl
 have r0 : w5.cell? ⟨t8,0,none⟩ = some (.int .i64 x.data):=at_whole' y8 rfl
 have r1 : w5.cell? ⟨t8,1,none⟩ = some (.int .i64 x.sdata):=at_whole' y8 rfl
 have r2 : w5.cell? ⟨t8,2,none⟩ = some (.int .i64 x.bidi):=at_whole' y8 rfl
 have r3 : w5.cell? ⟨t8,3,none⟩ = some (.int .i64 x.uni):=at_whole' y8 rfl
 have r4 : w5.cell? ⟨t8,4,none⟩ = some (.int .i64 x.ad):=at_whole' y8 rfl
 have r5 : w5.cell? ⟨t8,5,none⟩ = some (.int .i64 x.idle):=at_whole' y8 rfl
 clear y7 y8
 have N2:=Lib.hid (ids_new2 M5.out cl x PK.out (by have:=PR.out.2.1;omega))
 simp only [Pms.cs] at N2
 go_upto_region 9 with (go_at_call 17;refine N2.out.mono ?_;rintro e w6 ⟨b,rfl,hM⟩;have M6:=Lib.hid hM;clear hM N2 q0 q1 q2 q3 q4 q5 r0 r1 r2 r3 r4 r5 M5)
 go_upto_if 63 with (fail)
 go_cut [13] from 62 to 63 (fun s13 w'=>s13 = .int .i64 (lo cl) ∧ w' = w6)
 case first=>
  cases cl
  ·go_wp2
   go_meet
   exact ⟨rfl,rfl⟩
  ·go_wp2
   go_meet
   exact ⟨rfl,rfl⟩
 case rest=>
  obtain ⟨rfl,e9⟩:=hcut
  obtain rfl:=e9.symm
  have X:=Lib.hid (box1 w6 (.cells #[.int .i64 0,.int .i64 0] 45))
  go_upto_region 13 with (fail)
  obtain ⟨X1,X2⟩:=X.out
  have M7:=Lib.hid (M6.out.lay X2 (Nat.le_refl _) X1)
  obtain ⟨t14,ht⟩ : ∃ t14,w6.heap.size = t14:=⟨_,rfl⟩
  rw [ht] at M7 ⊢
  clear X X1 X2 ht M6
  generalize World.alloc _ _ = w7 at *
  have y8:=heap_below M7.out.below C8.out
  have r2 : w7.cell? ⟨t8,2,none⟩ = some (.int .i64 x.bidi):=at_whole' y8 rfl
  have r3 : w7.cell? ⟨t8,3,none⟩ = some (.int .i64 x.uni):=at_whole' y8 rfl
  have X:=Lib.hid (box1 w7 (.cells #[.int .i64 x.bidi,.int .i64 x.uni] 45))
  clear y8
  go_upto_region 14 with (fail)
  obtain ⟨X1,X2⟩:=X.out
  have M8:=Lib.hid (M7.out.lay X2 (Nat.le_refl _) X1)
  have hne:=heap_lt (M7.out.row (x:=(t14,.cells #[.int .i64 0,.int .i64 0] 45 (0,0))) (by simp))
  obtain ⟨t15,ht⟩ : ∃ t15,w7.heap.size = t15:=⟨_,rfl⟩
  rw [ht] at M8 hne ⊢
  have HNE:=Lib.hid hne
  clear X X1 X2 ht M7 r2 r3 hne
  generalize World.alloc _ _ = w8 at *
  have I0:=Lib.hid (show IdL W w8 a b cl x t14 t15 0 0 from ⟨by have:=PR.out;omega,by have:=PR.out;omega,_,_,_,_,M8.out⟩)
  clear M8
  go_wp2
  go_loopw [16] (fun i wr=>∃ k o0 o1 : Nat,k ≤ 20 ∧ i = .int .i64 k ∧ Hid (IdL W wr a b cl x t14 t15 o0 o1)) (fun i _=>20 - (intOf i).toNat)
  case atStart=>exact ⟨0,0,0,by decide,rfl,I0⟩
  case round=>
   obtain ⟨k,o0,o1,hk,rfl,IR⟩:=hrel
   have HLN:=Lib.hid KS.out.2
   obtain ⟨i1,i2,b0',b1',r0',r1',TW⟩:=IR.out
   have XW:=Lib.hid (btr2 XB.out (btr2 B5.out TW.below))
   have KW:=Lib.hid (fun h=>KS.out.1 wr XW.out k h)
   have hlo : lo cl ≤ 1:=by unfold lo;split <;> omega
   clear KS
   by_cases hkl : k < len ∧ k < 20
   ·obtain ⟨h1,h2⟩:=hkl
    obtain ⟨kb,koff,rfl,hkc⟩:=KW.out h1
    have hq1 : ((k : Int) < len):=by omega
    have hq2 : ((k : Int) < 20):=by omega
    have wk : IntKind.i64.wrap ((k : Int) + 1) = ((k + 1 : Nat) : Int):=by rw [IntWalk.i64_in _ (by omega)];omega
    cases hkk : kf k
    ·rw [hkk] at hkc
     by_cases hc : (o0 : Int) < x.bidi
     ·have N:=Lib.hid (TW.call1 (fun R h=>ids_open0 h hc (by have:=PR.out;omega) (by have:=PR.out;omega)))
      go_upto_region 21 with (go_at_call 18;refine N.out.mono ?_;rintro e w9 ⟨rfl,hM⟩;have M1:=Lib.hid hM;clear hM N)
      have z0 : w9.cell? ⟨t14,0,none⟩ = some (.int .i64 o0):=at_whole' (M1.out.row (x:=(t14,.cells #[.int .i64 o0,.int .i64 o1] 45 (0,0))) (by simp)) rfl
      have l0 : w9.cell? ⟨t15,0,none⟩ = some (.int .i64 x.bidi):=at_whole' (M1.out.row (x:=(t15,.cells #[.int .i64 x.bidi,.int .i64 x.uni] 45 (0,0))) (by simp)) rfl
      have hcd : decide ((o0 : Int) < x.bidi) = true:=decide_eq_true hc
      have e1 : IntKind.i64.wrap (4 * (o0 : Int)) = 4 * o0:=by rw [IntWalk.i64_in _ (by have:=PR.out;omega)]
      have e2 : IntKind.i64.wrap (4 * (o0 : Int) + (lo cl : Int)) = 2 * (2 * (o0 : Int)) + (lo cl : Int):=by rw [IntWalk.i64_in _ (by have:=PR.out;omega)];omega
      have e3 : IntKind.i64.wrap ((o0 : Int) + 1) = ((o0 + 1 : Nat) : Int):=by rw [IntWalk.i64_in _ (by have:=PR.out;omega)];omega
      go_quiet (fail)
      have M2:=Lib.hid (M1.out.same (w':=w9.drewN nq) ⟨rfl,rfl,rfl,Nat.le_refl _,fun _ _=>rfl⟩)
      have z0 : (w9.drewN nq).cell? ⟨t14,0,none⟩ = some (.int .i64 o0):=z0
      clear KW ER XW XB M1 l0
      generalize w9.drewN nq = w10 at *
      have f0 : w10.frozen? ⟨t14,0,none⟩ = false:=frozen_whole (M2.out.row (x:=(t14,.cells #[.int .i64 o0,.int .i64 o1] 45 (0,0))) (by simp)) 0
      have M3:=Lib.hid (M2.out.turn (R':=[(t15,.cells #[.int .i64 x.bidi,.int .i64 x.uni] 45 (0,0)),(t14,.cells #[.int .i64 ((o0 + 1 : Nat) : Int),.int .i64 o1] 45 (0,0))]) (g:=t14) (cs:=#[.int .i64 o0,.int .i64 o1]) (T:=45) (by simp) 0 (.int .i64 ((o0 + 1 : Nat) : Int)) (fun y hy=>by
       rcases List.mem_cons.mp hy with rfl | hy
       ·exact .inr ⟨by simp,by have:=HNE.out;simp only;omega⟩
       ·obtain rfl:=List.mem_singleton.mp hy
        exact .inl rfl))
      have N:=Lib.hid (M3.out.call1 (fun R h=>ids_fin (q:=2 * o0) (by have:=PR.out;omega) (inO_add0 o0 o1) h))
      have cn : (o0 : Int) ≤ x.bidi ∧ (o1 : Int) ≤ x.uni:=⟨i1,i2⟩
      have cm : ((o0 + 1 : Nat) : Int) ≤ x.bidi:=by omega
      clear HNE M2
      go_upto_region 28 with (go_at_call 23;refine N.out.mono ?_;rintro e w11 ⟨rfl,hM⟩;have M4:=Lib.hid hM;clear hM N)
      refine ⟨⟨k + 1,o0 + 1,o1,by omega,by go_num,Lib.hid ⟨cm,cn.2,_,_,_,_,M4.out⟩⟩,by simp [intOf];omega⟩
     ·have N:=Lib.hid (TW.call1 (fun R h=>ids_no0 h (by omega)))
      go_upto_region 21 with (go_at_call 18;refine N.out.mono ?_;rintro e w9 ⟨rfl,hM⟩;have M1:=Lib.hid hM;clear hM N)
      have z0 : w9.cell? ⟨t14,0,none⟩ = some (.int .i64 o0):=at_whole' (M1.out.row (x:=(t14,.cells #[.int .i64 o0,.int .i64 o1] 45 (0,0))) (by simp)) rfl
      have l0 : w9.cell? ⟨t15,0,none⟩ = some (.int .i64 x.bidi):=at_whole' (M1.out.row (x:=(t15,.cells #[.int .i64 x.bidi,.int .i64 x.uni] 45 (0,0))) (by simp)) rfl
      have hcd : decide ((o0 : Int) < x.bidi) = false:=decide_eq_false (by omega)
      go_quiet (fail)
      have M2:=Lib.hid (M1.out.same (w':=w9.drewN nq) ⟨rfl,rfl,rfl,Nat.le_refl _,fun _ _=>rfl⟩)
      clear KW ER XW XB M1 l0 z0
      generalize w9.drewN nq = w10 at *
      go_upto_region 28 with (fail)
      refine ⟨⟨k + 1,o0,o1,by omega,by go_num,Lib.hid ⟨i1,i2,_,_,_,_,M2.out⟩⟩,by simp [intOf];omega⟩
    ·rw [hkk] at hkc
     by_cases hc : (o1 : Int) < x.uni
     ·have N:=Lib.hid (TW.call1 (fun R h=>ids_open1 h hc (by have:=PR.out;omega) (by have:=PR.out;omega)))
      go_upto_region 21 with (go_at_call 18;refine N.out.mono ?_;rintro e w9 ⟨rfl,hM⟩;have M1:=Lib.hid hM;clear hM N)
      have z0 : w9.cell? ⟨t14,1,none⟩ = some (.int .i64 o1):=at_whole' (M1.out.row (x:=(t14,.cells #[.int .i64 o0,.int .i64 o1] 45 (0,0))) (by simp)) rfl
      have l0 : w9.cell? ⟨t15,1,none⟩ = some (.int .i64 x.uni):=at_whole' (M1.out.row (x:=(t15,.cells #[.int .i64 x.bidi,.int .i64 x.uni] 45 (0,0))) (by simp)) rfl
      have hcd : decide ((o1 : Int) < x.uni) = true:=decide_eq_true hc
      have e1 : IntKind.i64.wrap (4 * (o1 : Int)) = 4 * o1:=by rw [IntWalk.i64_in _ (by have:=PR.out;omega)]
      have e4 : IntKind.i64.wrap (4 * (o1 : Int) + 2) = 4 * o1 + 2:=by rw [IntWalk.i64_in _ (by have:=PR.out;omega)]
      have e2 : IntKind.i64.wrap (4 * (o1 : Int) + 2 + (lo cl : Int)) = 2 * (2 * (o1 : Int) + 1) + (lo cl : Int):=by rw [IntWalk.i64_in _ (by have:=PR.out;omega)];omega
      have e3 : IntKind.i64.wrap ((o1 : Int) + 1) = ((o1 + 1 : Nat) : Int):=by rw [IntWalk.i64_in _ (by have:=PR.out;omega)];omega
      go_quiet (fail)
      have M2:=Lib.hid (M1.out.same (w':=w9.drewN nq) ⟨rfl,rfl,rfl,Nat.le_refl _,fun _ _=>rfl⟩)
      have z0 : (w9.drewN nq).cell? ⟨t14,1,none⟩ = some (.int .i64 o1):=z0
      clear KW ER XW XB M1 l0
      generalize w9.drewN nq = w10 at *
      have f0 : w10.frozen? ⟨t14,1,none⟩ = false:=frozen_whole (M2.out.row (x:=(t14,.cells #[.int .i64 o0,.int .i64 o1] 45 (0,0))) (by simp)) 1
      have M3:=Lib.hid (M2.out.turn (R':=[(t15,.cells #[.int .i64 x.bidi,.int .i64 x.uni] 45 (0,0)),(t14,.cells #[.int .i64 o0,.int .i64 ((o1 + 1 : Nat) : Int)] 45 (0,0))]) (g:=t14) (cs:=#[.int .i64 o0,.int .i64 o1]) (T:=45) (by simp) 1 (.int .i64 ((o1 + 1 : Nat) : Int)) (fun y hy=>by
       rcases List.mem_cons.mp hy with rfl | hy
       ·exact .inr ⟨by simp,by have:=HNE.out;simp only;omega⟩
       ·obtain rfl:=List.mem_singleton.mp hy
        exact .inl rfl))
      have N:=Lib.hid (M3.out.call1 (fun R h=>ids_fin (q:=2 * o1 + 1) (by have:=PR.out;omega) (inO_add1 o0 o1) h))
      have cn : (o0 : Int) ≤ x.bidi ∧ (o1 : Int) ≤ x.uni:=⟨i1,i2⟩
      have cm : ((o1 + 1 : Nat) : Int) ≤ x.uni:=by omega
      clear HNE M2
      go_upto_region 28 with (go_at_call 23;refine N.out.mono ?_;rintro e w11 ⟨rfl,hM⟩;have M4:=Lib.hid hM;clear hM N)
      refine ⟨⟨k + 1,o0,o1 + 1,by omega,by go_num,Lib.hid ⟨cn.1,cm,_,_,_,_,M4.out⟩⟩,by simp [intOf];omega⟩
     ·have N:=Lib.hid (TW.call1 (fun R h=>ids_no1 h (by omega)))
      go_upto_region 21 with (go_at_call 18;refine N.out.mono ?_;rintro e w9 ⟨rfl,hM⟩;have M1:=Lib.hid hM;clear hM N)
      have z0 : w9.cell? ⟨t14,1,none⟩ = some (.int .i64 o1):=at_whole' (M1.out.row (x:=(t14,.cells #[.int .i64 o0,.int .i64 o1] 45 (0,0))) (by simp)) rfl
      have l0 : w9.cell? ⟨t15,1,none⟩ = some (.int .i64 x.uni):=at_whole' (M1.out.row (x:=(t15,.cells #[.int .i64 x.bidi,.int .i64 x.uni] 45 (0,0))) (by simp)) rfl
      have hcd : decide ((o1 : Int) < x.uni) = false:=decide_eq_false (by omega)
      go_quiet (fail)
      have M2:=Lib.hid (M1.out.same (w':=w9.drewN nq) ⟨rfl,rfl,rfl,Nat.le_refl _,fun _ _=>rfl⟩)
      clear KW ER XW XB M1 l0 z0
      generalize w9.drewN nq = w10 at *
      go_upto_region 28 with (fail)
      refine ⟨⟨k + 1,o0,o1,by omega,by go_num,Lib.hid ⟨i1,i2,_,_,_,_,M2.out⟩⟩,by simp [intOf];omega⟩
   ·have h4 : o0 ≤ 4 ∧ o1 ≤ 4:=by have:=PR.out;omega
    have H4:=Lib.hid h4
    have OI:=Lib.hid (And.intro i1 i2)
    have PF:=Lib.hid (show PfOk x from PR.out)
    have FR:=Lib.hid (TW.frames (iS_good h4.1 h4.2 (by have:=PR.out;omega) (by have:=PR.out;omega) (by have:=PR.out;omega) (by have:=PR.out;omega)) 2000 (by decide) (by decide))
    have hor : (¬ ((k : Int) < len)) ∨ (((k : Int) < len) ∧ ¬ ((k : Int) < 20)):=by omega
    clear KW HNE hkl
    rcases hor with hq1 | ⟨hq1,hq2⟩
    all_goals (
     go_upto_region 30 with (go_at_call 21;refine FR.out.mono ?_;rintro e w9 ⟨v,fs,p',R',rfl,hF,_,hfl,hR,hM⟩;have F1:=Lib.hid hF;have F2:=Lib.hid hR;have FL:=Lib.hid hfl;have M1:=Lib.hid hM;clear hF hR hM hfl FR)
     obtain ⟨pre,e1,_,e3⟩:=ids_frames ⟨by have:=PF.out.2.2.1;omega,by have:=PF.out.2.2.1;omega⟩ ⟨by have:=PF.out.2.2.2;omega,by have:=PF.out.2.2.2;omega⟩ F1.out
     have FS:=Lib.hid (And.intro e1 e3)
     have BK:=Lib.hid (BkL.start e1 M1.out)
     obtain ⟨fa,fc,ev⟩:=F2.out.slice
     subst ev
     obtain ⟨n,hn⟩ : ∃ n,fs.length = n:=⟨_,rfl⟩
     have FN:=Lib.hid hn
     have wn : IntKind.i64.wrap ((n : Int) - 1) = (n : Int) - 1:=by rw [IntWalk.i64_in _ (by have:=FL.out;omega)]
     rw [hn] at BK ⊢
     clear M1 F1 e1 e3
     go_wp2
     go_loopw [21] (fun i wr=>∃ (m : Nat) (z : Int),m ≤ n ∧ i = .int .i64 z ∧ z = (m : Int) - 1 ∧ Hid (BkL W wr b a cl x o0 o1 p' pre.length m (R' ++ [(t15,.cells #[.int .i64 x.bidi,.int .i64 x.uni] 45 (0,0)),(t14,.cells #[.int .i64 o0,.int .i64 o1] 45 (0,0))]))) (fun i _=>(intOf i + 1).toNat)
     case atStart=>exact ⟨n,_,Nat.le_refl _,rfl,rfl,BK⟩
     case round=>
      obtain ⟨m,z,hm,rfl,hz,HB⟩:=hrel
      cases m with
      | succ j=>
       obtain rfl : z = (j : Int):=by omega
       clear hz
       have hj : j < fs.length:=by have:=FN.out;omega
       obtain ⟨g,fcap,o,ef,eR,hcell⟩:=F2.out.cell (by omega)
       simp only [Value.slice.injEq] at ef
       obtain ⟨rfl,_,rfl⟩:=ef
       subst eR
       have fg : fs[j]? = some fs[j]:=List.getElem?_eq_getElem hj
       obtain ⟨fr,hfr⟩ : ∃ fr,fs[j] = fr:=⟨_,rfl⟩
       rw [hfr] at fg
       have RG:=Lib.hid (frs_range fg (hcell wr (HB.out.row (y:=(g,o)) (by simp))))
       have N:=Lib.hid (HB.out.step FS.out.1 FS.out.2 OI.out.1 OI.out.2 PF.out ER.out.1 ER.out.2 fg)
       have wj : IntKind.i64.wrap ((j : Int) - 1) = (j : Int) - 1:=by rw [IntWalk.i64_in _ (by have:=FL.out;omega)]
       have hjn : (j : Int) < n:=by omega
       have hj0 : (0 : Int) ≤ j:=by omega
       clear HB hcell fg hfr hj
       go_upto_region 34 with (first | (refine wpList_load_fr rfl _ rfl fr g (j * 13) (by rfl) RG.out ?_) | (go_at_call 24;refine N.out.mono ?_;rintro e w10 ⟨rfl,hB⟩;have B2:=Lib.hid hB;clear hB N RG))
       refine ⟨⟨j,(j : Int) - 1,by omega,by go_num,rfl,B2⟩,by simp [intOf]⟩
      | zero=>
       obtain rfl : z = -1:=by omega
       clear hz
       have AC:=Lib.hid (AcL.start HB.out (R':=[(t14,.cells #[.int .i64 o0,.int .i64 o1] 45 (0,0))]) H4.out.1 H4.out.2 (fun y hy=>by simp at hy ⊢;exact .inr (.inr hy)))
       clear HB BK
       go_wp2
       go_loopw [22,23] (fun s i wr=>∃ (k : Nat) (z : Int),k ≤ o0 + o1 ∧ s = .int .i64 z ∧ i = .int .i64 k ∧ Hid (AcL W wr b a cl x o0 o1 p' k z [(t14,.cells #[.int .i64 o0,.int .i64 o1] 45 (0,0))])) (fun _ i _=>o0 + o1 - (intOf i).toNat)
       case atStart=>exact ⟨0,_,Nat.zero_le _,rfl,rfl,AC⟩
       case round=>
        obtain ⟨k,z,hk,rfl,rfl,HA⟩:=hrel
        have yr:=HA.out.row (y:=(t14,.cells #[.int .i64 o0,.int .i64 o1] 45 (0,0))) (by simp)
        have y0 : wr.cell? ⟨t14,0,none⟩ = some (.int .i64 o0):=at_whole' yr rfl
        have y1 : wr.cell? ⟨t14,1,none⟩ = some (.int .i64 o1):=at_whole' yr rfl
        have wo : IntKind.i64.wrap ((o0 : Int) + o1) = (o0 : Int) + o1:=by rw [IntWalk.i64_in _ (by have:=H4.out;omega)]
        clear yr
        by_cases hlt : k < o0 + o1
        ·obtain ⟨y,hy1,hy2,hy3,hy4,N0⟩:=HA.out.step H4.out.1 H4.out.2 hlt
         have N:=Lib.hid N0
         have hl2 : ((k : Int) < (o0 : Int) + o1):=by omega
         have wk : IntKind.i64.wrap ((k : Int) + 1) = ((k + 1 : Nat) : Int):=by rw [IntWalk.i64_in _ (by have:=H4.out;omega)];omega
         clear HA N0
         go_upto_region 41 with (go_at_call 25;refine N.out.mono ?_;rintro e w12 ⟨rfl,hB⟩;have B3:=Lib.hid hB;clear hB N)
         refine ⟨⟨k + 1,by omega,by go_num,B3⟩,by simp [intOf];omega⟩
        ·obtain rfl : k = o0 + o1:=by omega
         have N:=Lib.hid (HA.out.done H4.out.1 H4.out.2)
         have hl2 : ¬ (((o0 + o1 : Nat) : Int) < (o0 : Int) + o1):=by omega
         clear HA
         go_wp2_with (go_at_call 25;refine N.out.mono ?_;rintro e w12 ⟨rfl,hB⟩;have B3:=Lib.hid hB;clear hB N)
         go_ret
         exact ⟨rfl,btr2 XB.out (btr2 B5.out B3.out.below)⟩)
end
end Go.Proofs.YthckbmcmdcemkaaGreatDoor.stm
