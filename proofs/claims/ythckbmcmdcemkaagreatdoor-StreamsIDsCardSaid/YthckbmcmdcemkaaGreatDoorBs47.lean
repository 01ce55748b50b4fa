/- Texts of this claim, one behind the other: Wh Vt Wj Wk Wm. -/
import Derived.Test.YthckbmcmdcemkaaGreatDoorBs40
import Derived.Test.YthckbmcmdcemkaaGreatDoorBs38
import Derived.Test.YthckbmcmdcemkaaGreatDoorBs41
import Derived.Test.YthckbmcmdcemkaaGreatDoorBs46
import Derived.Deep.MidRow
import Derived.Test.YthckbmcmdcemkaaGreatDoorBs26
set_option maxRecDepth 100000
set_option maxHeartbeats 16000000
set_option linter.unusedSimpArgs false
set_option linter.unusedVariables false
namespace Go.Proofs.YthckbmcmdcemkaaGreatDoor.stm
section
open Go.RowKit Go.Maps
theorem Receive_sbl (sb : Nat) (u : Bool) (m : Int) (hm : 0 ≤ m ∧ m ≤ 4611686018427387903) (w : World) : Calls Tryz.prog 24 #[.pointer (some ⟨sb,0,none⟩),.agg #[.int .i64 22,.int .i64 0,.int .i64 0,.string { data:=#[] },.bool false,.int .i64 m,.int .i64 0,.bool u,.int .i64 0,.slice none 0 0,.int .i64 0,.int .i64 0,.string { data:=#[] }]] w fun e w'=>e = .returned (.int .i64 0) ∧ Below w.heap.size w w':=by
 have X:=Lib.hid (Go.Proofs.YthckbmcmdcemkaaGreatDoor.box1 w (.cells #[.int .i64 22,.int .i64 0,.int .i64 0,.string { data:=#[] },.bool false,.int .i64 m,.int .i64 0,.bool u,.int .i64 0,.slice none 0 0,.int .i64 0,.int .i64 0,.string { data:=#[] }] 38))
 have VA:=Lib.hid (fun wx=>(show Calls Tryz.prog 47 #[.agg #[.int .i64 22,.int .i64 0,.int .i64 0,.string { data:=#[] },.bool false,.int .i64 m,.int .i64 0,.bool u,.int .i64 0,.slice none 0 0,.int .i64 0,.int .i64 0,.string { data:=#[] }]] wx (fun e w'=>e = .returned (.bool true) ∧ Below wx.heap.size wx w') from frm.valid_any (fSBl u m) wx (v_sBl hm)))
 go_enter Tryz.func24,Tryz.ntmps24
 go_upto_region 3 with (fail)
 obtain ⟨X1,X2⟩:=X.out
 obtain ⟨b,hb⟩ : ∃ b,w.heap.size = b:=⟨_,rfl⟩
 rw [hb] at X1 ⊢
 have XB:=Lib.hid X2
 rw [hb] at XB
 clear X X2
 generalize World.alloc _ _ = W at *
 have HB:=Lib.hid hb
 clear hb
 have X1':=Lib.hid X1
 have q0 : W.cell? ⟨b,0,none⟩ = some (.int .i64 22):=at_whole' X1 rfl
 have q1 : W.cell? ⟨b,1,none⟩ = some (.int .i64 0):=at_whole' X1 rfl
 have q2 : W.cell? ⟨b,2,none⟩ = some (.int .i64 0):=at_whole' X1 rfl
 have q3 : W.cell? ⟨b,3,none⟩ = some (.string { data:=#[] }):=at_whole' X1 rfl
 have q4 : W.cell? ⟨b,4,none⟩ = some (.bool false):=at_whole' X1 rfl
 have q5 : W.cell? ⟨b,5,none⟩ = some (.int .i64 m):=at_whole' X1 rfl
 have q6 : W.cell? ⟨b,6,none⟩ = some (.int .i64 0):=at_whole' X1 rfl
 have q7 : W.cell? ⟨b,7,none⟩ = some (.bool u):=at_whole' X1 rfl
 have q8 : W.cell? ⟨b,8,none⟩ = some (.int .i64 0):=at_whole' X1 rfl
 have q9 : W.cell? ⟨b,9,none⟩ = some (.slice none 0 0):=at_whole' X1 rfl
 have q10 : W.cell? ⟨b,10,none⟩ = some (.int .i64 0):=at_whole' X1 rfl
 have q11 : W.cell? ⟨b,11,none⟩ = some (.int .i64 0):=at_whole' X1 rfl
 have q12 : W.cell? ⟨b,12,none⟩ = some (.string { data:=#[] }):=at_whole' X1 rfl
 clear X1
 go_upto_region 5 with (go_at_call 47;refine (VA.out _).mono ?_;rintro e w1 ⟨rfl,hb⟩;have B1:=Lib.hid hb;clear hb q0 q1 q2 q3 q4 q5 q6 q7 q8 q9 q10 q11 q12)
 have q0 : w1.cell? ⟨b,0,none⟩ = some (.int .i64 22):=at_whole' (heap_below B1.out X1'.out) rfl
 go_wp2
 go_ret
 have k1:=XB.out.1
 rw [← HB.out] at k1
 exact ⟨rfl,k1.trans (B1.out.mono k1.size)⟩
theorem one24 (a b c d e f : Int) : (#[Value.int .i64 a,.int .i64 b,.int .i64 c,.int .i64 d,.int .i64 e,.int .i64 f] : Array Value).all (·.oneCell') = true:=by simp [Value.oneCell']
theorem size24e : (Tryz.prog.info? 24).map (·.size) = some 6:=by kernel_rfl
def pfP (d s b u : Int) : Pms:=⟨1 + d.tmod 1000,1 + s.tmod 500,1 + b.tmod 4,1 + u.tmod 4,3,1000⟩
theorem pfP_rng {d s b u : Int} (hd : 0 ≤ d) (hs : 0 ≤ s) (hb : 0 ≤ b) (hu : 0 ≤ u) : (1 ≤ (pfP d s b u).data ∧ (pfP d s b u).data ≤ 1000) ∧ (1 ≤ (pfP d s b u).sdata ∧ (pfP d s b u).sdata ≤ 500) ∧ (1 ≤ (pfP d s b u).bidi ∧ (pfP d s b u).bidi ≤ 4) ∧ (1 ≤ (pfP d s b u).uni ∧ (pfP d s b u).uni ≤ 4):=by
 have h1:=Int.tmod_nonneg 1000 hd
 have h2:=Int.tmod_nonneg 500 hs
 have h3:=Int.tmod_nonneg 4 hb
 have h4:=Int.tmod_nonneg 4 hu
 have k1:=Int.tmod_lt_of_pos d (show (0 : Int) < 1000 by decide)
 have k2:=Int.tmod_lt_of_pos s (show (0 : Int) < 500 by decide)
 have k3:=Int.tmod_lt_of_pos b (show (0 : Int) < 4 by decide)
 have k4:=Int.tmod_lt_of_pos u (show (0 : Int) < 4 by decide)
 unfold pfP
 dsimp only
 omega
theorem paramsFrom_any (d s b u : Int) (hd : 0 ≤ d ∧ d ≤ 65535) (hs : 0 ≤ s ∧ s ≤ 65535) (hb : 0 ≤ b ∧ b ≤ 255) (hu : 0 ≤ u ∧ u ≤ 255) (w : World) :
  Calls Tryz.prog 22 #[.agg #[.int .u16 d,.int .u16 s,.int .u8 b,.int .u8 u]] w fun e w'=>e = .returned (.agg (pfP d s b u).cs) ∧ Below w.heap.size w w':=by
 have X:=Lib.hid (box2 w (.cells #[.int .u16 d,.int .u16 s,.int .u8 b,.int .u8 u] 42) (.cells #[.int .i64 0,.int .i64 0,.int .i64 0,.int .i64 0,.int .i64 0,.int .i64 0] 24))
 have wd : wrap64 d = d:=by unfold wrap64;omega
 have ws : wrap64 s = s:=by unfold wrap64;omega
 have wb : wrap64 b = b:=by unfold wrap64;omega
 have wu : wrap64 u = u:=by unfold wrap64;omega
 obtain ⟨⟨a1,a2⟩,⟨a3,a4⟩,⟨a5,a6⟩,a7,a8⟩:=pfP_rng hd.1 hs.1 hb.1 hu.1
 obtain ⟨P,hP⟩ : ∃ P,pfP d s b u = P:=⟨_,rfl⟩
 have e1 : 1 + d.tmod 1000 = P.data:=by rw [← hP];rfl
 have e2 : 1 + s.tmod 500 = P.sdata:=by rw [← hP];rfl
 have e3 : 1 + b.tmod 4 = P.bidi:=by rw [← hP];rfl
 have e4 : 1 + u.tmod 4 = P.uni:=by rw [← hP];rfl
 have e5 : P.ad = 3 ∧ P.idle = 1000:=by rw [← hP];exact ⟨rfl,rfl⟩
 have hcs : P.cs = #[.int .i64 P.data,.int .i64 P.sdata,.int .i64 P.bidi,.int .i64 P.uni,.int .i64 3,.int .i64 1000]:=by unfold Pms.cs;rw [e5.1,e5.2]
 rw [hP] at a1 a2 a3 a4 a5 a6 a7 a8 ⊢
 rw [hcs]
 clear hcs e5
 go_enter Tryz.func22,Tryz.ntmps22
 go_upto_region 1 with (fail)
 obtain ⟨X1,X2,X3,X4⟩:=X.out
 obtain ⟨c,hc⟩ : ∃ c,w.heap.size = c:=⟨_,rfl⟩
 have hne : c ≠ c + 1:=by omega
 rw [hc] at X1 X2 X3 X4 ⊢
 have XB:=Lib.hid X3
 have HC:=Lib.hid hc
 clear X X3 X4 hc
 generalize World.alloc _ _ = W at *
 have q0 : W.cell? ⟨c,0,none⟩ = some (.int .u16 d):=at_whole' X1 rfl
 have q1 : W.cell? ⟨c,1,none⟩ = some (.int .u16 s):=at_whole' X1 rfl
 have q2 : W.cell? ⟨c,2,none⟩ = some (.int .u8 b):=at_whole' X1 rfl
 have q3 : W.cell? ⟨c,3,none⟩ = some (.int .u8 u):=at_whole' X1 rfl
 have r0 : W.cell? ⟨c + 1,0,none⟩ = some (.int .i64 0):=at_whole' X2 rfl
 have f0:=frozen_whole X2
 have w1 : IntKind.i64.wrap (1 + d.tmod 1000) = P.data:=by rw [IntWalk.i64_in _ (by omega)];exact e1
 have w2 : IntKind.i64.wrap (1 + s.tmod 500) = P.sdata:=by rw [IntWalk.i64_in _ (by omega)];exact e2
 have w3 : IntKind.i64.wrap (1 + b.tmod 4) = P.bidi:=by rw [IntWalk.i64_in _ (by omega)];exact e3
 have w4 : IntKind.i64.wrap (1 + u.tmod 4) = P.uni:=by rw [IntWalk.i64_in _ (by omega)];exact e4
 have Y:=Lib.hid X2
 clear e1 e2 e3 e4 X1 X2 a1 a2 a3 a4 a5 a6 a7 a8 hP hd hs hb hu
 go_wp2_with (refine wpList_store_row rfl 24 _ _ rfl (c + 1) #[.int .i64 P.data,.int .i64 P.sdata,.int .i64 P.bidi,.int .i64 P.uni,.int .i64 3,.int .i64 1000] rfl rfl 24 _ Y.out size24e rfl (one24 _ _ _ _ _ _) ?_)
 refine bodyPost_ret (v:=.agg #[.int .i64 P.data,.int .i64 P.sdata,.int .i64 P.bidi,.int .i64 P.uni,.int .i64 3,.int .i64 1000]) (results_cell_row rfl _ _ (c + 1) 24 _ (0,0) _ rfl (setRow_heap _ _ _ _ 24 _ Y.out) Tryz.underlying24 rfl size24e) rfl ⟨rfl,?_⟩
 have hg : W.grownBy (W.setRow (c + 1) #[.int .i64 P.data,.int .i64 P.sdata,.int .i64 P.bidi,.int .i64 P.uni,.int .i64 3,.int .i64 1000]) (some (c + 1)):=⟨rfl,rfl,rfl,by simp,fun k _ hk=>setRow_other W (c + 1) k _ (fun e=>hk (by rw [e]))⟩
 have k1:=XB.out
 rw [← HC.out] at k1 hg ⊢
 exact below_grown k1 hg (by omega)
end
section
open Go.RowKit Go.Maps
def HeldS (b : SetA) (q : SetP) (L : List (Nat × Obj)) : Prop:=∀ H : Nat → Option Obj,(∀ x ∈ L,H x.1 = some x.2) → ∃ t : SetS,SetIn H b t ∧ t.pl = q ∧ ∀ k,t.foot b k → ∃ o,(k,o) ∈ L
def Two (W w : World) (a : SetA) (p : SetP) (b : SetA) (q : SetP) (R : List (Nat × Obj)) : Prop:=∃ L,HeldS b q L ∧ (∀ x ∈ L,∀ y ∈ R,x.1 ≠ y.1) ∧ Mn W w a p (L ++ R)
section
variable {W w w' : World} {H H' : Nat → Option Obj} {a b : SetA} {s : SetS} {p p' q : SetP} {R L : List (Nat × Obj)}
theorem SetIn.list (S : SetIn H a s) (hm : Mem W w H) : ∃ L : List (Nat × Obj),(∀ x ∈ L,H x.1 = some x.2 ∧ s.foot a x.1) ∧ ∀ k,s.foot a k → ∃ o,(k,o) ∈ L:=by
 classical
 refine ⟨(List.range w.heap.size).filterMap fun k=>if s.foot a k then (H k).map (fun o=>(k,o)) else none,fun x hx=>?_,fun k hk=>?_⟩
 ·obtain ⟨k,_,e⟩:=List.mem_filterMap.mp hx
  split at e
  ·rename_i c
   obtain ⟨o,h1,rfl⟩:=Option.map_eq_some_iff.mp e
   exact ⟨h1,c⟩
  ·cases e
 ·obtain ⟨o,ho⟩:=S.dom hk
  exact ⟨o,List.mem_filterMap.mpr ⟨k,List.mem_range.mpr (hm.lt ho),by rw [if_pos hk,ho];rfl⟩⟩
theorem HeldS.of (S : SetIn H a s) (h1 : ∀ x ∈ L,H x.1 = some x.2 ∧ s.foot a x.1) (h2 : ∀ k,s.foot a k → ∃ o,(k,o) ∈ L) : HeldS a s.pl L:=fun H' h'=>
 ⟨s,S.keep (fun k o hk ho=>by
  obtain ⟨o',ho'⟩:=h2 k hk
  have e:=(h1 _ ho').1
  rw [show H k = some o' from e] at ho
  injection ho with ho
  subst ho
  exact h' _ ho'),rfl,h2⟩
theorem Two.swap (h : Two W w a p b q R) : Two W w b q a p R:=by
 obtain ⟨L,hL,hd,H,s,hm,S,rfl,hR⟩:=h
 obtain ⟨t,T,rfl,ht⟩:=hL H (fun x hx=>(hR x (List.mem_append_left _ hx)).1)
 obtain ⟨L',h1,h2⟩:=S.list hm
 refine ⟨L',HeldS.of S h1 h2,fun x hx y hy e=>(hR y (List.mem_append_right _ hy)).2 (e ▸ (h1 x hx).2),H,t,hm,T,rfl,fun x hx=>?_⟩
 rcases List.mem_append.mp hx with hx | hx
 ·refine ⟨(h1 x hx).1,fun hf=>?_⟩
  obtain ⟨o,ho⟩:=ht _ hf
  exact (hR _ (List.mem_append_left _ ho)).2 (h1 x hx).2
 ·refine ⟨(hR x (List.mem_append_right _ hx)).1,fun hf=>?_⟩
  obtain ⟨o,ho⟩:=ht _ hf
  exact hd _ ho x hx rfl
theorem Two.same (h : Two W w a p b q R) (hb : Below w.heap.size w w') : Two W w' a p b q R:=by
 obtain ⟨L,hL,hd,h⟩:=h
 exact ⟨L,hL,hd,h.same hb⟩
theorem Two.below (h : Two W w a p b q R) : Below W.heap.size W w:=by
 obtain ⟨L,hL,hd,h⟩:=h
 exact h.below
theorem Two.row (h : Two W w a p b q R) {x : Nat × Obj} (hx : x ∈ R) : w.heap[x.1]? = some x.2:=by
 obtain ⟨L,hL,hd,h⟩:=h
 exact h.row (List.mem_append_right _ hx)
theorem Mn.sub (h : Mn W w a p R) {R' : List (Nat × Obj)} (hs : ∀ x ∈ R',x ∈ R) : Mn W w a p R':=by
 obtain ⟨H,s,h1,h2,h3,h4⟩:=h
 exact ⟨H,s,h1,h2,h3,fun x hx=>h4 x (hs x hx)⟩
theorem Mn.lt (h : Mn W w a p R) {x : Nat × Obj} (hx : x ∈ R) : x.1 < w.heap.size:=by
 obtain ⟨H,s,h1,h2,h3,h4⟩:=h
 exact h1.lt (h4 x hx).1
theorem Two.sub (h : Two W w a p b q R) {R' : List (Nat × Obj)} (hs : ∀ x ∈ R',x ∈ R) : Two W w a p b q R':=by
 obtain ⟨L,hL,hd,h⟩:=h
 refine ⟨L,hL,fun x hx y hy=>hd x hx y (hs y hy),h.sub (fun x hx=>?_)⟩
 rcases List.mem_append.mp hx with hx | hx
 ·exact List.mem_append_left _ hx
 ·exact List.mem_append_right _ (hs x hx)
theorem Two.lay (h : Two W w a p b q R) (hb : Below w.heap.size w w') {c : Nat} {o : Obj} (hc : w.heap.size ≤ c) (ho : w'.heap[c]? = some o) : Two W w' a p b q ((c,o) :: R):=by
 obtain ⟨L,hL,hd,h⟩:=h
 have hlt : ∀ x ∈ L,x.1 < w.heap.size:=fun x hx=>h.lt (List.mem_append_left _ hx)
 refine ⟨L,hL,fun x hx y hy=>?_,(h.lay hb hc ho).sub (fun x hx=>?_)⟩
 ·rcases List.mem_cons.mp hy with rfl | hy
  ·have:=hlt x hx
   intro e
   rw [e] at this
   have : c < w.heap.size:=this
   omega
  ·exact hd x hx y hy
 ·rcases List.mem_append.mp hx with hx | hx
  ·exact List.mem_cons_of_mem _ (List.mem_append_left _ hx)
  ·rcases List.mem_cons.mp hx with rfl | hx
   ·exact List.mem_cons_self
   ·exact List.mem_cons_of_mem _ (List.mem_append_right _ hx)
theorem Two.call {f : FuncId} {args : Array Value} {Q : Ending → SetP → Prop} (h : Two W w a p b q R) (hc : ∀ R,Mn W w a p R → Calls Tryz.prog f args w fun e w'=>∃ p',Q e p' ∧ Mn W w' a p' R) :
  Calls Tryz.prog f args w fun e w'=>∃ p',Q e p' ∧ Two W w' a p' b q R:=by
 obtain ⟨L,hL,hd,h⟩:=h
 refine (hc _ h).mono fun e w' hh=>?_
 obtain ⟨p',h1,h2⟩:=hh
 exact ⟨p',h1,L,hL,hd,h2⟩
theorem Two.call1 {f : FuncId} {args : Array Value} {E : Ending} (h : Two W w a p b q R) (hc : ∀ R,Mn W w a p R → Calls Tryz.prog f args w fun e w'=>e = E ∧ Mn W w' a p' R) :
  Calls Tryz.prog f args w fun e w'=>e = E ∧ Two W w' a p' b q R:=by
 obtain ⟨L,hL,hd,h⟩:=h
 refine (hc _ h).mono fun e w' hh=>?_
 exact ⟨hh.1,L,hL,hd,hh.2⟩
theorem Mn.join (h : Mn W w a p R) (k : Mn w w' b q []) : Two W w' a p b q R:=by
 obtain ⟨H,s,hm,S,rfl,hR⟩:=h
 obtain ⟨H2,t,hm2,T,rfl,_⟩:=k
 obtain ⟨L,h1,h2⟩:=T.list hm2
 have hb:=hm2.below
 have far2 : ∀ k o,H2 k = some o → w.heap.size ≤ k:=fun k o e=>(hm2.far k o e).2
 refine ⟨L,HeldS.of T h1 h2,fun x hx y hy e=>?_,fun k=>if k < w.heap.size then H k else H2 k,s,⟨hm.below.trans (hb.mono hm.below.size),fun k o e=>?_⟩,S.keep (fun k o _ ho=>?_),rfl,fun x hx=>?_⟩
 ·have h3:=far2 _ _ (h1 x hx).1
  have h4:=hm.lt (hR y hy).1
  omega
 ·split at e
  ·exact (hm.same hb).far k o e
  ·have:=hm2.far k o e
   exact ⟨this.1,Nat.le_trans hm.below.size this.2⟩
 ·show (if _ < w.heap.size then _ else _) = _
  rw [if_pos (hm.lt ho)];exact ho
 ·rcases List.mem_append.mp hx with hx | hx
  ·have h3:=far2 _ _ (h1 x hx).1
   refine ⟨by show (if x.1 < w.heap.size then H x.1 else H2 x.1) = _;rw [if_neg (by omega)];exact (h1 x hx).1,fun hf=>?_⟩
   obtain ⟨o,ho⟩:=S.dom hf
   have:=hm.lt ho
   omega
  ·have h3:=hm.lt (hR x hx).1
   exact ⟨by show (if x.1 < w.heap.size then H x.1 else H2 x.1) = _;rw [if_pos h3];exact (hR x hx).1,(hR x hx).2⟩
theorem new_beside (h : Mn W w a p R) (cl : Bool) (loc peer : Pms) (h1 : pmOk loc = true) (h2 : pmOk peer = true) (h3 : loc.sdata ≤ 8192) :
  Calls Tryz.prog 17 #[.bool cl,.agg loc.cs,.agg peer.cs] w fun e w'=>∃ b : SetA,e = .returned (.tuple #[ptr b.sb,.int .i64 0]) ∧ Two W w' a p b (newP cl loc peer) R:=by
 refine (mn_new (Below.refl w.heap.size w) cl loc peer h1 h2 h3).mono fun e w' hh=>?_
 obtain ⟨b,rfl,hb⟩:=hh
 exact ⟨b,rfl,h.join hb⟩
end
end
section
open Go.RowKit Go.Maps
section
variable {W w w' : World} {a b : SetA} {p q : SetP} {R R' : List (Nat × Obj)}
/-- Frames: its row lies beside what is kept -/
theorem mn_frames_off (h : Mn W w a p R) (hg : FGood p) (most : Int) (hl0 : -80000 ≤ most) (hl1 : most ≤ 80000) :
  Calls Tryz.prog 21 #[ptr a.sb,.int .i64 most] w fun e w'=>∃ v fs p' R',e = .returned v ∧ FramesP p most p' fs ∧ FGood p' ∧ fs.length ≤ 80000 ∧ FrRow v fs R' ∧ (∀ x ∈ R',∀ y ∈ R,y.1 ≠ x.1) ∧ Mn W w' a p' (R' ++ R):=by
 obtain ⟨H,s,hm,hs,rfl,hr⟩:=h
 refine (Frames_any hm hs hg most hl0 hl1).mono fun e w' hh=>?_
 obtain ⟨v,fs,H',s',rfl,h1,h2,h3,S,hv,hd,T⟩:=hh
 have old : ∀ x ∈ R,H' x.1 = some x.2 ∧ ¬ s'.foot a x.1:=fun x hx=>⟨T.kp _ _ (hr x hx).1 (hr x hx).2,fun c=>(T.nw _ (.inl c)).elim (hr x hx).2 (fun e=>by rw [(hr x hx).1] at e;cases e)⟩
 rcases hv.2 with ⟨rfl,e0⟩ | ⟨g,cap,cur,rfl,e1,_,_,_,e2⟩
 ·have : fs = []:=List.length_eq_zero_iff.mp e0
  exact ⟨_,fs,_,[],rfl,h1,h2,h3,.inl ⟨rfl,this,rfl⟩,fun x hx=>by simp at hx,H',s',T.mem,S,rfl,old⟩
 ·refine ⟨_,fs,_,[(g,.cells cur 38 (0,0))],rfl,h1,h2,h3,.inr ⟨g,cap,cur,rfl,rfl,e2⟩,fun x hx y hy e=>?_,H',s',T.mem,S,rfl,fun x hx=>?_⟩
  ·rw [List.mem_singleton] at hx
   subst hx
   rcases T.nw g (.inr rfl) with c | c
   ·exact (hr y hy).2 (e ▸ c)
   ·have:=(hr y hy).1
    rw [e,c] at this
    cases this
  rcases List.mem_append.mp hx with hx | hx
  ·rw [List.mem_singleton] at hx
   subst hx
   exact ⟨e1,hd g rfl⟩
  ·exact old x hx
theorem Two.frames (h : Two W w a p b q R) (hg : FGood p) (most : Int) (hl0 : -80000 ≤ most) (hl1 : most ≤ 80000) :
  Calls Tryz.prog 21 #[ptr a.sb,.int .i64 most] w fun e w'=>∃ v fs p' R',e = .returned v ∧ FramesP p most p' fs ∧ FGood p' ∧ fs.length ≤ 80000 ∧ FrRow v fs R' ∧ Two W w' a p' b q (R' ++ R):=by
 obtain ⟨L,hL,hd,h⟩:=h
 refine (mn_frames_off h hg most hl0 hl1).mono fun e w' hh=>?_
 obtain ⟨v,fs,p',R',he,h1,h2,h3,h4,h5,h6⟩:=hh
 refine ⟨v,fs,p',R',he,h1,h2,h3,h4,L,hL,fun x hx y hy=>?_,h6.sub fun x hx=>?_⟩
 ·rcases List.mem_append.mp hy with hy | hy
  ·exact h5 y hy x (List.mem_append_left _ hx)
  ·exact hd x hx y hy
 ·simp only [List.mem_append] at hx ⊢
  rcases hx with h | h | h
  ·exact .inr (.inl h)
  ·exact .inl h
  ·exact .inr (.inr h)
end
end
section
open Go.RowKit Go.Maps
/-- what the peer of IDs has received: the frames from the m-th on -/
def RcvS (o0 o1 m c0 c1 : Nat) (f : Nat → Bool) : Prop:=c0 ≤ o0 ∧ c1 ≤ o1 ∧ (∀ q,f q = true → inO c0 c1 q = true ∧ ∃ t,m ≤ t ∧ (slotL o0 o1)[t]? = some q) ∧ ∀ t q,m ≤ t → (slotL o0 o1)[t]? = some q → inO c0 c1 q = true
theorem slotL_at {o0 o1 t q : Nat} (h : (slotL o0 o1)[t]? = some q) : q < 8 ∧ inO o0 o1 q = true:=by
 have:=List.mem_of_getElem? h
 unfold slotL at this
 rw [List.mem_filter,List.mem_range] at this
 exact this
theorem slotL_of {o0 o1 q : Nat} (h : q < 8) (hP : inO o0 o1 q = true) : ∃ t : Nat,(slotL o0 o1)[t]? = some q:=by
 have : q ∈ slotL o0 o1:=by unfold slotL;rw [List.mem_filter,List.mem_range];exact ⟨h,hP⟩
 exact List.mem_iff_getElem?.mp this
theorem slotL_inj {o0 o1 s t q : Nat} (h : (slotL o0 o1)[t]? = some q) (h' : (slotL o0 o1)[s]? = some q) : s = t:=by
 have hn : (slotL o0 o1).Nodup:=List.nodup_range.filter _
 obtain ⟨h2,_⟩:=List.getElem?_eq_some_iff.mp h'
 exact (List.getElem?_inj h2 hn).mp (h'.trans h.symm)
theorem RcvS.start (o0 o1 m : Nat) (hm : (slotL o0 o1).length ≤ m) : RcvS o0 o1 m 0 0 nof:=
 ⟨Nat.zero_le _,Nat.zero_le _,fun q h=>by simp [nof] at h,fun t q ht h=>by rw [List.getElem?_eq_none (by omega)] at h;cases h⟩
theorem RcvS.last {o0 o1 c0 c1 : Nat} {f : Nat → Bool} (h : RcvS o0 o1 0 c0 c1 f) (h0 : o0 ≤ 4) (h1 : o1 ≤ 4) : c0 = o0 ∧ c1 = o1:=by
 obtain ⟨a,b,_,d⟩:=h
 constructor
 ·by_cases e : c0 < o0
  ·obtain ⟨t,ht⟩:=slotL_of (o0:=o0) (o1:=o1) (q:=2 * (o0 - 1)) (by omega) (by unfold inO;rw [if_pos (by omega)];exact decide_eq_true (by omega))
   have:=d t _ (Nat.zero_le _) ht
   unfold inO at this
   rw [if_pos (by omega)] at this
   have:=of_decide_eq_true this
   omega
  ·omega
 ·by_cases e : c1 < o1
  ·obtain ⟨t,ht⟩:=slotL_of (o0:=o0) (o1:=o1) (q:=2 * (o1 - 1) + 1) (by omega) (by unfold inO;rw [if_neg (by omega)];exact decide_eq_true (by omega))
   have:=d t _ (Nat.zero_le _) ht
   unfold inO at this
   rw [if_neg (by omega)] at this
   have:=of_decide_eq_true this
   omega
  ·omega
theorem inO_mono {a b c d q : Nat} (h1 : a ≤ c) (h2 : b ≤ d) (h : inO a b q = true) : inO c d q = true:=by
 unfold inO at h ⊢
 have:=of_decide_eq_true h
 refine decide_eq_true ?_
 split <;> simp_all <;> omega
theorem RcvS.step {o0 o1 m c0 c1 b0 b1 q : Nat} {f : Nat → Bool} (h : RcvS o0 o1 (m + 1) c0 c1 f) (hq : (slotL o0 o1)[m]? = some q) (h0 : c0 ≤ b0) (h1 : c1 ≤ b1) (hb0 : b0 ≤ o0) (hb1 : b1 ≤ o1) (hP : inO b0 b1 q = true) : RcvS o0 o1 m b0 b1 (setF f q):=by
 obtain ⟨a,b,c,d⟩:=h
 refine ⟨hb0,hb1,fun k hk=>?_,fun t k ht hk=>?_⟩
 ·unfold setF at hk
  by_cases e : k = q
  ·subst e;exact ⟨hP,m,Nat.le_refl _,hq⟩
  ·rw [if_neg e] at hk
   obtain ⟨u,t,ht,v⟩:=c k hk
   exact ⟨inO_mono h0 h1 u,t,by omega,v⟩
 ·by_cases e : t = m
  ·subst e;rw [hq] at hk;cases hk;exact hP
  ·exact inO_mono h0 h1 (d t k (by omega) hk)
section
variable {W w : World} {a : SetA} {R : List (Nat × Obj)} {cl : Bool} {x : Pms}
theorem rcv_step {o0 o1 m c0 c1 q : Nat} {f : Nat → Bool} (h : RcvS o0 o1 (m + 1) c0 c1 f) (hq : (slotL o0 o1)[m]? = some q) (ho0 : (o0 : Int) ≤ x.bidi) (ho1 : (o1 : Int) ≤ x.uni) (hsd : 0 ≤ x.sdata ∧ x.sdata ≤ 1000) (hd : 0 ≤ x.data ∧ x.data ≤ 1000) (hb : 0 ≤ x.bidi ∧ x.bidi ≤ 4) (hu : 0 ≤ x.uni ∧ x.uni ≤ 4) {a0 a1 a2 a3 : Addr} (hE : rea.Errs W a0 a1 a2 a3) (hA : rea.Apt W a0 a1) (hM : Mn W w a (rS cl x c0 c1 f nof) R) :
  Calls Tryz.prog 24 #[ptr a.sb,(fE cl q).val] w fun e w'=>∃ p',(e = .returned (.int .i64 0) ∧ ∃ d0 d1 f',RcvS o0 o1 m d0 d1 f' ∧ p' = rS cl x d0 d1 f' nof) ∧ Mn W w' a p' R:=by
 obtain ⟨q8,qO⟩:=slotL_at hq
 have hf : f q = false:=by
  refine Bool.eq_false_iff.mpr fun e=>?_
  obtain ⟨_,t,ht,v⟩:=h.2.2.1 q e
  have:=slotL_inj hq v
  omega
 have hc0 : c0 ≤ 4:=by have:=h.1;omega
 have hc1 : c1 ≤ 4:=by have:=h.2.1;omega
 obtain ⟨j,e | e⟩ : ∃ j,q = 2 * j ∨ q = 2 * j + 1:=⟨q / 2,by omega⟩
 ·subst e
  have hj : j < o0:=by unfold inO at qO;rw [if_pos (by omega)] at qO;have:=of_decide_eq_true qO;omega
  have CN:=ids_cn0 (W:=W) (a:=a) (cl:=cl) (x:=x) (a0:=c0) (a1:=c1) (f:=f) (g:=nof) (j:=j) (by omega) (by omega) hc0 (fun i hi=>⟨by
   refine Bool.eq_false_iff.mpr fun e=>?_
   obtain ⟨u,_⟩:=h.2.2.1 (2 * i) e
   unfold inO at u
   rw [if_pos (by omega)] at u
   have:=of_decide_eq_true u
   omega,rfl⟩) hsd hb.2
  have hP : inO (c0 + (j + 1 - c0)) c1 (2 * j) = true:=by unfold inO;rw [if_pos (by omega)];exact decide_eq_true (by omega)
  refine (ids_recv q8 CN hP hf (by omega) hc1 hsd hd hb hu hM hE hA).mono fun e w' hh=>⟨_,⟨hh.1,_,_,_,h.step hq (by omega) (Nat.le_refl _) (by have:=h.1;omega) h.2.1 hP,rfl⟩,hh.2⟩
 ·subst e
  have hj : j < o1:=by unfold inO at qO;rw [if_neg (by omega)] at qO;have:=of_decide_eq_true qO;omega
  have CN:=ids_cn1 (W:=W) (a:=a) (cl:=cl) (x:=x) (a0:=c0) (a1:=c1) (f:=f) (g:=nof) (j:=j) (by omega) (by omega) hc1 (fun i hi=>⟨by
   refine Bool.eq_false_iff.mpr fun e=>?_
   obtain ⟨u,_⟩:=h.2.2.1 (2 * i + 1) e
   unfold inO at u
   rw [if_neg (by omega)] at u
   have:=of_decide_eq_true u
   omega,rfl⟩) hsd hu.2
  have hP : inO c0 (c1 + (j + 1 - c1)) (2 * j + 1) = true:=by unfold inO;rw [if_neg (by omega)];exact decide_eq_true (by omega)
  refine (ids_recv q8 CN hP hf hc0 (by omega) hsd hd hb hu hM hE hA).mono fun e w' hh=>⟨_,⟨hh.1,_,_,_,h.step hq (Nat.le_refl _) (by omega) h.1 (by have:=h.2.1;omega) hP,rfl⟩,hh.2⟩
end
end
section
open Go.RowKit Go.Maps
theorem size38l (f : Fr) : (Tryz.prog.info? 38).map (·.size) = some f.cells.toList.length:=frm.size38e
theorem wpList_load_fr {ops : Array Oper} {rest : List Oper} {o : Oper} {a : Act} {w : World} {Q : Exit → Act → World → Prop} (hgd : o.guard = none) (x : Operand) (ho : o.op = .load 38 x) (f : Fr)
  (g k : Nat) (hx : a.eval x = .pointer (some ⟨g,k,none⟩)) (hc : w.rangeAt g k f.cells.toList)
  (h : wpList Tryz.prog ops Q rest (a.put o.dst f.val) w) : wpList Tryz.prog ops Q (o :: rest) a w:=
 wpList_load_mid hgd 38 x ho g k hx f.cells.toList _ hc Tryz.underlying38 rfl (size38l f) (by rw [Array.toArray_toList];exact h)
theorem frs_range {fs : List Fr} {n : Nat} {f : Fr} (h : fs[n]? = some f) {w : World} {g : Nat} (hc : ∀ (k : Nat) u,(frs fs)[k]? = some u → w.cell? ⟨g,k,none⟩ = some u) : w.rangeAt g (n * 13) f.cells.toList:=by
 intro j v hv
 obtain ⟨hn,rfl⟩:=List.getElem?_eq_some_iff.mp h
 have hj : j < 13:=(List.getElem?_eq_some_iff.mp hv).1
 refine hc _ _ ?_
 rw [Nat.mul_comm,frs_get fs n hn j hj]
 simpa using hv
theorem FrRow.slice {v : Value} {fs : List Fr} {R : List (Nat × Obj)} (h : FrRow v fs R) : ∃ ka cap,v = .slice ka fs.length cap:=by
 rcases h with ⟨rfl,rfl,_⟩ | ⟨g,cap,cur,rfl,_⟩
 ·exact ⟨none,0,rfl⟩
 ·exact ⟨_,cap,rfl⟩
theorem nSl_all {o0 o1 : Nat} (h0 : o0 ≤ 4) (h1 : o1 ≤ 4) : nSl (inO o0 o1) 8 = o0 + o1:=by
 have : ∀ a,a < 5 → ∀ b,b < 5 → nSl (inO a b) 8 = a + b:=by decide
 exact this o0 (by omega) o1 (by omega)
theorem nof_bel : nof = bel 0:=by
 funext k
 exact (decide_eq_false (Nat.not_lt_zero k)).symm
def PfOk (x : Pms) : Prop:=(1 ≤ x.data ∧ x.data ≤ 1000) ∧ (1 ≤ x.sdata ∧ x.sdata ≤ 500) ∧ (1 ≤ x.bidi ∧ x.bidi ≤ 4) ∧ (1 ≤ x.uni ∧ x.uni ≤ 4)
section
variable {W w : World} {a b : SetA} {R : List (Nat × Obj)} {cl : Bool} {x : Pms} {pA : SetP} {o0 o1 : Nat}
theorem ids_back {n c0 c1 : Nat} {f : Nat → Bool} {fs pre : List Fr} (hfs : fs = pre ++ (slotL o0 o1).map (fE cl)) (hpre : ∀ g ∈ pre,∃ u m,g = fSBl u m ∧ 0 ≤ m ∧ m ≤ 4) (h : RcvS o0 o1 (n + 1 - pre.length) c0 c1 f)
  (ho0 : (o0 : Int) ≤ x.bidi) (ho1 : (o1 : Int) ≤ x.uni) (hx : PfOk x) {a0 a1 a2 a3 : Addr} (hE : rea.Errs W a0 a1 a2 a3) (hA : rea.Apt W a0 a1) (hM : Mn W w b (rS cl x c0 c1 f nof) R) {g : Fr} (hg : fs[n]? = some g) :
  Calls Tryz.prog 24 #[ptr b.sb,g.val] w fun e w'=>∃ p',(e = .returned (.int .i64 0) ∧ ∃ d0 d1 f',RcvS o0 o1 (n - pre.length) d0 d1 f' ∧ p' = rS cl x d0 d1 f' nof) ∧ Mn W w' b p' R:=by
 obtain ⟨h1,h2,h3,h4⟩:=hx
 by_cases c : n < pre.length
 ·rw [hfs,List.getElem?_append_left c] at hg
  obtain ⟨u,m,rfl,m0,m4⟩:=hpre g (List.mem_of_getElem? hg)
  have h' : RcvS o0 o1 (n - pre.length) c0 c1 f:=by
   rw [show n - pre.length = n + 1 - pre.length by omega];exact h
  exact (Receive_sbl b.sb u m ⟨m0,by omega⟩ w).mono fun e w' hh=>⟨_,⟨hh.1,c0,c1,f,h',rfl⟩,hM.same hh.2⟩
 ·rw [hfs,List.getElem?_append_right (by omega),List.getElem?_map] at hg
  obtain ⟨q,hq,rfl⟩:=Option.map_eq_some_iff.mp hg
  rw [show n + 1 - pre.length = (n - pre.length) + 1 by omega] at h
  exact rcv_step h hq ho0 ho1 (by omega) (by omega) (by omega) (by omega) hE hA hM
def BkL (W w : World) (b a : SetA) (cl : Bool) (x : Pms) (o0 o1 : Nat) (pA : SetP) (P m : Nat) (R : List (Nat × Obj)) : Prop:=∃ c0 c1 f,RcvS o0 o1 (m - P) c0 c1 f ∧ Two W w b (rS cl x c0 c1 f nof) a pA R
theorem BkL.start {fs pre : List Fr} (hfs : fs = pre ++ (slotL o0 o1).map (fE cl)) (h : Two W w a pA b (rS cl x 0 0 nof nof) R) : BkL W w b a cl x o0 o1 pA pre.length fs.length R:=
 ⟨0,0,nof,RcvS.start _ _ _ (by rw [hfs,List.length_append,List.length_map];omega),h.swap⟩
theorem BkL.step {n : Nat} {fs pre : List Fr} (h : BkL W w b a cl x o0 o1 pA pre.length (n + 1) R) (hfs : fs = pre ++ (slotL o0 o1).map (fE cl)) (hpre : ∀ g ∈ pre,∃ u m,g = fSBl u m ∧ 0 ≤ m ∧ m ≤ 4)
  (ho0 : (o0 : Int) ≤ x.bidi) (ho1 : (o1 : Int) ≤ x.uni) (hx : PfOk x) {a0 a1 a2 a3 : Addr} (hE : rea.Errs W a0 a1 a2 a3) (hA : rea.Apt W a0 a1) {g : Fr} (hg : fs[n]? = some g) :
  Calls Tryz.prog 24 #[ptr b.sb,g.val] w fun e w'=>e = .returned (.int .i64 0) ∧ BkL W w' b a cl x o0 o1 pA pre.length n R:=by
 obtain ⟨c0,c1,f,h1,TW⟩:=h
 refine (TW.call (Q:=fun e p'=>e = .returned (.int .i64 0) ∧ ∃ d0 d1 f',RcvS o0 o1 (n - pre.length) d0 d1 f' ∧ p' = rS cl x d0 d1 f' nof) (fun R hM=>ids_back hfs hpre h1 ho0 ho1 hx hE hA hM hg)).mono fun e w' hh=>?_
 obtain ⟨p',⟨rfl,d0,d1,f',h2,rfl⟩,h3⟩:=hh
 exact ⟨rfl,d0,d1,f',h2,h3⟩
theorem BkL.row {m P : Nat} (h : BkL W w b a cl x o0 o1 pA P m R) {y : Nat × Obj} (hy : y ∈ R) : w.heap[y.1]? = some y.2:=by
 obtain ⟨_,_,_,_,TW⟩:=h
 exact TW.row hy
def AcL (W w : World) (b a : SetA) (cl : Bool) (x : Pms) (o0 o1 : Nat) (pA : SetP) (k : Nat) (z : Int) (R : List (Nat × Obj)) : Prop:=∃ f t,nSl (inO o0 o1) t = k ∧ t ≤ 8 ∧ -1 ≤ z ∧ z < 2 * (t : Int) + lo cl ∧ Two W w b (rS cl x o0 o1 f (bel t)) a pA R
theorem AcL.start {P : Nat} {R' : List (Nat × Obj)} (h : BkL W w b a cl x o0 o1 pA P 0 R) (h0 : o0 ≤ 4) (h1 : o1 ≤ 4) (hs : ∀ y ∈ R',y ∈ R) : AcL W w b a cl x o0 o1 pA 0 (-1) R':=by
 obtain ⟨c0,c1,f,h2,TW⟩:=h
 rw [Nat.zero_sub] at h2
 obtain ⟨rfl,rfl⟩:=h2.last h0 h1
 rw [nof_bel] at TW
 exact ⟨f,0,rfl,Nat.zero_le _,Int.le_refl _,by omega,TW.sub hs⟩
theorem AcL.step {k : Nat} {z : Int} (h : AcL W w b a cl x o0 o1 pA k z R) (h0 : o0 ≤ 4) (h1 : o1 ≤ 4) (hk : k < o0 + o1) :
  ∃ y : Int,z < y ∧ 0 ≤ y ∧ y ≤ 15 ∧ y.tmod 2 = (lo cl : Int) ∧ Calls Tryz.prog 25 #[ptr b.sb] w fun e w'=>e = .returned (.tuple #[.int .i64 y,.bool true]) ∧ AcL W w' b a cl x o0 o1 pA (k + 1) y R:=by
 obtain ⟨f,t,ht,h8,z0,z1,TW⟩:=h
 have hall:=nSl_all h0 h1
 have hlo : lo cl ≤ 1:=by unfold lo;split <;> omega
 obtain ⟨q,q1,q2,q3,q4,q5⟩:=nSl_next (inO o0 o1) 8 (8 - t) t (by omega) (by omega)
 refine ⟨((2 * q + lo cl : Nat) : Int),by omega,by omega,by omega,?_,(TW.call1 (fun R h=>ids_accept q2 q3 q1 q4 h)).mono fun e w' hh=>⟨hh.1,f,q + 1,by omega,by omega,by omega,by omega,hh.2⟩⟩
 rw [Int.tmod_eq_emod_of_nonneg (by omega)]
 omega
theorem AcL.done {z : Int} (h : AcL W w b a cl x o0 o1 pA (o0 + o1) z R) (h0 : o0 ≤ 4) (h1 : o1 ≤ 4) :
  Calls Tryz.prog 25 #[ptr b.sb] w fun e w'=>e = .returned (.tuple #[.int .i64 0,.bool false]) ∧ AcL W w' b a cl x o0 o1 pA (o0 + o1) z R:=by
 obtain ⟨f,t,ht,h8,z0,z1,TW⟩:=h
 have hall:=nSl_all h0 h1
 have hn:=nSl_none (inO o0 o1) 8 (8 - t) t (by omega) (by omega)
 exact (TW.call1 (fun R h=>ids_done hn h)).mono fun e w' hh=>⟨hh.1,f,t,ht,h8,z0,z1,hh.2⟩
theorem AcL.row {k : Nat} {z : Int} (h : AcL W w b a cl x o0 o1 pA k z R) {y : Nat × Obj} (hy : y ∈ R) : w.heap[y.1]? = some y.2:=by
 obtain ⟨_,_,_,_,_,_,TW⟩:=h
 exact TW.row hy
theorem AcL.below {k : Nat} {z : Int} (h : AcL W w b a cl x o0 o1 pA k z R) : Below W.heap.size W w:=by
 obtain ⟨_,_,_,_,_,_,TW⟩:=h
 exact TW.below
end
end
end Go.Proofs.YthckbmcmdcemkaaGreatDoor.stm
