/- Texts of this claim, one behind the other: Tf Ua Ub Uc. -/
import Derived.Test.YthckbmcmdcemkaaGreatDoorBs42
import Derived.Test.YthckbmcmdcemkaaGreatDoorBs27
import Derived.Test.YthckbmcmdcemkaaGreatDoorBs39
set_option maxRecDepth 100000
set_option maxHeartbeats 16000000
set_option linter.unusedSimpArgs false
set_option linter.unusedVariables false
namespace Go.Proofs.YthckbmcmdcemkaaGreatDoor.stm
section
open Go.RowKit Go.Maps
theorem bf1 (w : World) (c0 c1 c2 c3 c4 c5 c6 c7 c8 c9 c10 c11 c12 : Value) : (Instr.buildSlice 34 1 #[(0,.agg #[c0,c1,c2,c3,c4,c5,c6,c7,c8,c9,c10,c11,c12])]).run Tryz.prog w = .ok (.slice (some ⟨w.heap.size,0,none⟩) 1 1) (w.alloc (.cells #[c0,c1,c2,c3,c4,c5,c6,c7,c8,c9,c10,c11,c12] 38)):=by
 simp [Instr.buildSlice,go_sem]
 try rfl
theorem bf2 (w : World) (c0 c1 c2 c3 c4 c5 c6 c7 c8 c9 c10 c11 c12 d0 d1 d2 d3 d4 d5 d6 d7 d8 d9 d10 d11 d12 : Value) : (Instr.buildSlice 34 2 #[(0,.agg #[c0,c1,c2,c3,c4,c5,c6,c7,c8,c9,c10,c11,c12]),(1,.agg #[d0,d1,d2,d3,d4,d5,d6,d7,d8,d9,d10,d11,d12])]).run Tryz.prog w = .ok (.slice (some ⟨w.heap.size,0,none⟩) 2 2) (w.alloc (.cells #[c0,c1,c2,c3,c4,c5,c6,c7,c8,c9,c10,c11,c12,d0,d1,d2,d3,d4,d5,d6,d7,d8,d9,d10,d11,d12] 38)):=by
 simp [Instr.buildSlice,go_sem]
 try rfl
theorem box1 (w : World) (o : Obj) : (w.alloc o).heap[w.heap.size]? = some o ∧ Below w.heap.size w (w.alloc o):=⟨heap_alloc_new w o,bz0.alloc (Nat.le_refl _) o⟩
def pB : Pms:=⟨-1,0,0,0,0,0⟩
def pL : Pms:=⟨0,8193,0,0,0,0⟩
theorem New1 {W w : World} (hb : Below W.heap.size W w) : Calls Tryz.prog 17 #[.bool true,.agg #[.int .i64 100,.int .i64 50,.int .i64 1,.int .i64 1,.int .i64 0,.int .i64 0],.agg #[.int .i64 100,.int .i64 50,.int .i64 1,.int .i64 1,.int .i64 0,.int .i64 0]] w fun e w'=>∃ a : SetA,e = .returned (.tuple #[.pointer (some ⟨a.sb,0,none⟩),.int .i64 0]) ∧ Mn W w' a s0 []:=
 mn_new hb true sP sP (by decide) (by decide) (by decide)
theorem New2 (w : World) : Calls Tryz.prog 17 #[.bool true,.agg #[.int .i64 (-1),.int .i64 0,.int .i64 0,.int .i64 0,.int .i64 0,.int .i64 0],.agg #[.int .i64 100,.int .i64 50,.int .i64 1,.int .i64 1,.int .i64 0,.int .i64 0]] w fun e w'=>e = .returned (.tuple #[.pointer none,.int .i64 200]) ∧ Below w.heap.size w w':=
 New_no true pB sP (.inl (by decide)) w
theorem New3 (w : World) : Calls Tryz.prog 17 #[.bool true,.agg #[.int .i64 0,.int .i64 8193,.int .i64 0,.int .i64 0,.int .i64 0,.int .i64 0],.agg #[.int .i64 100,.int .i64 50,.int .i64 1,.int .i64 1,.int .i64 0,.int .i64 0]] w fun e w'=>e = .returned (.tuple #[.pointer none,.int .i64 200]) ∧ Below w.heap.size w w':=
 New_no true pL sP (.inr (.inr (by decide))) w
theorem same_lit {row : List Fr} {n : Nat} (hn : row.length = n) (h0 : 0 < n) (hn2 : n ≤ 100000) (hr : ∀ f ∈ row,f.ranges = .slice none 0 0) {cs : Array Value} (hcs : cs.toList = frs row) {g cap : Nat} {o : Obj}
  (hk : ∀ w : World,w.heap[g]? = some o → ∀ (k : Nat) u,(frs row)[k]? = some u → w.cell? ⟨g,k,none⟩ = some u) {wx : World} (ho : wx.heap[g]? = some o) :
  Calls Tryz.prog 54 #[.slice (some ⟨g,0,none⟩) n cap,.slice (some ⟨wx.heap.size,0,none⟩) n n] (wx.alloc (.cells cs 38)) fun e w'=>e = .returned (.bool true) ∧ Below wx.heap.size wx w':=by
 subst hn
 have hB:=(Below.refl wx.heap.size wx).alloc (Nat.le_refl _) (.cells cs 38)
 refine (sameFrames_any row hr g wx.heap.size cap _ _ hn2 h0 (hk _ (heap_below hB ho)) (fun k u hu=>at_whole' (heap_alloc_new wx _) (by rw [← hcs] at hu;simpa using hu))).mono fun e w' hh=>⟨hh.1,btr2 hB hh.2⟩
section
variable {W w : World} {a : SetA} {R : List (Nat × Obj)}
def FrO (W w' : World) (a : SetA) (p : SetP) (row : List Fr) (R : List (Nat × Obj)) (n : Nat) (e : Ending) : Prop:=∃ g cap o,e = .returned (.slice (some ⟨g,0,none⟩) n cap) ∧ (∀ w : World,w.heap[g]? = some o → ∀ (k : Nat) u,(frs row)[k]? = some u → w.cell? ⟨g,k,none⟩ = some u) ∧ Mn W w' a p ((g,o) :: R)
theorem c_fr {s s' : SetP} {row : List Fr} (hg : FGood s) (hr : frmG 10 s 100 = some (s',row)) (n : Nat) (hn : row.length = n) (h0 : 0 < n) (h : Mn W w a s R) : Calls Tryz.prog 21 #[.pointer (some ⟨a.sb,0,none⟩),.int .i64 100] w fun e w'=>FrO W w' a s' row R n e:=by
 subst hn
 exact c_frames hg hr h0 h
theorem c_stop' (h : Mn W w a s6 R) : Calls Tryz.prog 24 #[.pointer (some ⟨a.sb,0,none⟩),.agg #[.int .i64 5,.int .i64 0,.int .i64 0,.string { data:=#[] },.bool false,.int .i64 0,.int .i64 7,.bool false,.int .i64 0,.slice none 0 0,.int .i64 0,.int .i64 0,.string { data:=#[] }]] w fun e w'=>e = .returned (.int .i64 0) ∧ Mn W w' a s7 R:=c_stop h
theorem c_hello' {a0 a1 a2 a3 : Addr} (h : Mn W w a s9 R) (hE : rea.Errs W a0 a1 a2 a3) (hA : rea.Apt W a0 a1) : Calls Tryz.prog 24 #[.pointer (some ⟨a.sb,0,none⟩),.agg #[.int .i64 8,.int .i64 3,.int .i64 0,.string { data:=#[104,101,108,108,111] },.bool true,.int .i64 0,.int .i64 0,.bool false,.int .i64 0,.slice none 0 0,.int .i64 0,.int .i64 0,.string { data:=#[] }]] w fun e w'=>e = .returned (.int .i64 0) ∧ Mn W w' a t1 R:=c_hello h hE hA
theorem rg1 : ∀ f ∈ row1,f.ranges = .slice none 0 0:=fun f hf=>by
 simp only [row1,List.mem_cons,List.not_mem_nil,or_false] at hf
 rcases hf with rfl | rfl <;> rfl
theorem rg2 : ∀ f ∈ row2,f.ranges = .slice none 0 0:=fun f hf=>by
 simp only [row2,List.mem_cons,List.not_mem_nil,or_false] at hf
 subst hf;rfl
theorem rg3 : ∀ f ∈ row3,f.ranges = .slice none 0 0:=fun f hf=>by
 simp only [row3,List.mem_cons,List.not_mem_nil,or_false] at hf
 subst hf;rfl
theorem c_nil (w : World) : Calls Tryz.prog 24 #[.pointer none,.agg #[.int .i64 0,.int .i64 0,.int .i64 0,.string { data:=#[] },.bool false,.int .i64 0,.int .i64 0,.bool false,.int .i64 0,.slice none 0 0,.int .i64 0,.int .i64 0,.string { data:=#[] }]] w fun e w'=>e = .returned (.int .i64 1) ∧ Below w.heap.size w w':=Receive_nil ⟨0,0,0,⟨#[]⟩,false,0,0,false,0,.slice none 0 0,0,0,⟨#[]⟩⟩ w
end
theorem sane_any {w : World} {a0 a1 a2 a3 : Addr} (hE : rea.Errs w a0 a1 a2 a3) (hA : rea.Apt w a0 a1) : Calls Tryz.prog 16 #[] w fun e w'=>e = .returned (.bool true) ∧ Below w.heap.size w w':=by
 have X:=Lib.hid (box1 w (.cells #[.int .i64 100,.int .i64 50,.int .i64 1,.int .i64 1,.int .i64 0,.int .i64 0] 24))
 have ER:=Lib.hid (And.intro (hE.below X.out.2) (hA.below X.out.2))
 clear hE hA
 go_enter Tryz.func16,Tryz.ntmps16
 go_upto_region 2 with (fail)
 obtain ⟨X1,X2⟩:=X.out
 have XB:=Lib.hid X2
 obtain ⟨b,hb⟩ : ∃ b,w.heap.size = b:=⟨_,rfl⟩
 rw [hb] at X1 ⊢
 clear X hb X2
 generalize World.alloc _ _ = W at *
 have OLD : Hid (∀ wx : World,Below W.heap.size W wx → wx.cell? ⟨b,0,none⟩ = some (.int .i64 100) ∧ wx.cell? ⟨b,1,none⟩ = some (.int .i64 50) ∧ wx.cell? ⟨b,2,none⟩ = some (.int .i64 1) ∧ wx.cell? ⟨b,3,none⟩ = some (.int .i64 1) ∧ wx.cell? ⟨b,4,none⟩ = some (.int .i64 0) ∧ wx.cell? ⟨b,5,none⟩ = some (.int .i64 0)):=Lib.hid (fun wx hb=>by
  have e0:=heap_below hb X1
  exact ⟨at_whole' e0 rfl,at_whole' e0 rfl,at_whole' e0 rfl,at_whole' e0 rfl,at_whole' e0 rfl,at_whole' e0 rfl⟩)
 clear X1
 have N1:=Lib.hid (fun (wx : World) (hb : Below W.heap.size W wx)=>New1 hb)
 have N2:=Lib.hid New2
 have N3:=Lib.hid New3
 obtain ⟨q0,q1,q2,q3,q4,q5⟩:=OLD.out W bz0
 go_upto_region 3 with (go_at_call 17;refine (N1.out _ bz0).mono ?_;rintro e w1 ⟨a,rfl,hM⟩;have M1:=Lib.hid hM;clear hM q0 q1 q2 q3 q4 q5)
 obtain ⟨q0,q1,q2,q3,q4,q5⟩:=OLD.out _ M1.out.below
 go_upto_region 4 with (go_at_call 17;refine (N2.out _).mono ?_;rintro e w2 ⟨rfl,hb⟩;have M2:=Lib.hid (M1.out.same hb);clear hb q0 q1 q2 q3 q4 q5)
 clear M1
 obtain ⟨q0,q1,q2,q3,q4,q5⟩:=OLD.out _ M2.out.below
 go_upto_region 7 with (go_at_call 17;refine (N3.out _).mono ?_;rintro e w3 ⟨rfl,hb⟩;have M3:=Lib.hid (M2.out.same hb);clear hb q0 q1 q2 q3 q4 q5)
 clear M2 N1 N2 N3
 go_upto_region 8 with (go_at_call 18;refine (c_open1 M3.out).mono ?_;rintro e w4 ⟨rfl,hM⟩;have M4:=Lib.hid hM;clear hM M3)
 go_upto_region 9 with (go_at_call 18;refine (c_open2 M4.out).mono ?_;rintro e w5 ⟨rfl,hM⟩;have M5:=Lib.hid hM;clear hM M4)
 go_upto_region 10 with (go_at_call 19;refine (c_write M5.out).mono ?_;rintro e w6 ⟨rfl,hM⟩;have M6:=Lib.hid hM;clear hM M5)
 go_upto_region 11 with (go_at_call 21;refine (c_fr g3 fr4 2 rfl (by decide) M6.out).mono ?_;rintro e w7 ⟨ga,ca,oa,rfl,hk,hM⟩;have M7:=Lib.hid hM;have K1:=Lib.hid hk;clear hM hk M6)
 go_upto_region 12 with (go_at_call 23;refine (c_finish M7.out).mono ?_;rintro e w8 ⟨rfl,hM⟩;have M8:=Lib.hid hM;clear hM M7)
 go_upto_region 13 with (go_at_call 21;refine (c_fr g5 fr6 1 rfl (by decide) M8.out).mono ?_;rintro e w9 ⟨gb,cb,ob,rfl,hk,hM⟩;have M9:=Lib.hid hM;have K2:=Lib.hid hk;clear hM hk M8)
 go_upto_region 14 with (go_at_call 24;refine (c_stop' M9.out).mono ?_;rintro e w10 ⟨rfl,hM⟩;have M10:=Lib.hid hM;clear hM M9)
 go_upto_region 15 with (go_at_call 19;refine (c_write2 M10.out).mono ?_;rintro e w11 ⟨rfl,hM⟩;have M11:=Lib.hid hM;clear hM M10)
 go_upto_region 16 with (go_at_call 21;refine (c_fr g8 fr9 1 rfl (by decide) M11.out).mono ?_;rintro e w12 ⟨gc,cc,oc,rfl,hk,hM⟩;have M12:=Lib.hid hM;have K3:=Lib.hid hk;clear hM hk M11)
 have bb1:=bf1
 have bb2:=bf2
 have SF1:=Lib.hid (same_lit (row:=row1) (n:=2) rfl (by decide) (by decide) rg1 (cs:=#[.int .i64 22,.int .i64 0,.int .i64 0,.string { data:=#[] },.bool false,.int .i64 1,.int .i64 0,.bool false,.int .i64 0,.slice none 0 0,.int .i64 0,.int .i64 0,.string { data:=#[] },.int .i64 8,.int .i64 0,.int .i64 0,.string { data:=#[97,98,99] },.bool false,.int .i64 0,.int .i64 0,.bool false,.int .i64 0,.slice none 0 0,.int .i64 0,.int .i64 0,.string { data:=#[] }]) rfl (cap:=ca) K1.out (M12.out.row (x:=(ga,oa)) (by simp)))
 have SF2:=Lib.hid (fun (wx : World) (h : Mn W wx a s9 [(gc,oc),(gb,ob),(ga,oa)])=>same_lit (row:=row2) (n:=1) rfl (by decide) (by decide) rg2 (cs:=#[.int .i64 8,.int .i64 0,.int .i64 3,.string { data:=#[] },.bool true,.int .i64 0,.int .i64 0,.bool false,.int .i64 0,.slice none 0 0,.int .i64 0,.int .i64 0,.string { data:=#[] }]) rfl (cap:=cb) K2.out (h.row (x:=(gb,ob)) (by simp)))
 have SF3:=Lib.hid (fun (wx : World) (h : Mn W wx a s9 [(gc,oc),(gb,ob),(ga,oa)])=>same_lit (row:=row3) (n:=1) rfl (by decide) (by decide) rg3 (cs:=#[.int .i64 4,.int .i64 0,.int .i64 0,.string { data:=#[] },.bool false,.int .i64 3,.int .i64 7,.bool false,.int .i64 0,.slice none 0 0,.int .i64 0,.int .i64 0,.string { data:=#[] }]) rfl (cap:=cc) K3.out (h.row (x:=(gc,oc)) (by simp)))
 clear K1 K2 K3
 go_upto_region 17 with (fail)
 have Z1:=Lib.hid True.intro
 have Z2:=Lib.hid True.intro
 go_upto_region 19 with (first
  | (go_at_call 54;have Z0:=Z1.out;clear Z0 Z1;refine SF1.out.mono ?_;rintro e w13 ⟨rfl,hb⟩;have M13:=Lib.hid (M12.out.same hb);clear hb)
  | (go_at_call 54;have Z0:=Z2.out;clear Z0 Z2;refine (SF2.out _ M13.out).mono ?_;rintro e w14 ⟨rfl,hb⟩;have M14:=Lib.hid (M13.out.same hb);clear hb)
  | (go_at_call 54;refine (SF3.out _ M14.out).mono ?_;rintro e w15 ⟨rfl,hb⟩;have M15:=Lib.hid (M14.out.same hb);clear hb))
 clear SF1 SF2 SF3 M12 M13 M14 bb1 bb2
 go_upto_region 20 with (go_at_call 24;refine (c_hello' M15.out ER.out.1 ER.out.2).mono ?_;rintro e w16 ⟨rfl,hM⟩;have M16:=Lib.hid hM;clear hM M15)
 go_upto_region 21 with (go_at_call 25;refine (c_accept M16.out).mono ?_;rintro e w17 ⟨rfl,hM⟩;have M17:=Lib.hid hM;clear hM M16)
 go_upto_region 22 with (go_at_call 26;refine (c_read M17.out).mono ?_;rintro e w18 ⟨rfl,hb⟩;have M18:=Lib.hid (btr2 XB.out hb);clear hb M17)
 go_upto_region 24 with (go_at_call 18;refine (Open_nil _ _).mono ?_;rintro e w19 ⟨rfl,rfl⟩)
 go_wp2_with (go_at_call 24;refine (c_nil _).mono ?_;rintro e w20 ⟨rfl,hb⟩;have M20:=Lib.hid (btr2 M18.out hb);clear hb)
 go_ret
 exact ⟨rfl,M20.out⟩
end
section
open Go.RowKit Go.Maps
section
variable {W w w' : World} {a : SetA} {p p2 : SetP} {R : List (Nat × Obj)}
def rstEP (p : SetP) (i : InP) (m : Int) : Int:=if (rstK i && !(decide (m = rstS i))) || decide (m < i.cn) then 161 else if excP p i m then 150 else 0
def rstTP (p : SetP) (i : InP) (m : Int) (L : List Strm) : SetP:={ cntSP p i m L with wn:=(cntSP p i m L).wn.read (m - i.R.at_) }
theorem mn_reset (h : Mn W w a p R) (f : Fr) (hv : frm.FrV f) (hty : f.ty = 4) {x : Strm} {i : InP} {q1 q2 : List Strm} (hstr : f.str = x.id) (CN : CnOk W a p p2 x.id false) (hq : p2.ss = q1 ++ x :: q2) (hi : x.inp = some i) (hg0 : p2.g0.Ok) (hg1 : p2.g1.Ok)
  (hf : 0 ≤ f.max ∧ f.max ≤ 4611686018427387904) (hc : 0 ≤ i.cn ∧ i.cn ≤ maxOff) (ht : 0 ≤ p2.tot ∧ p2.tot ≤ maxOff) (hE : rstEP p2 i f.max = 0) (ho : i.opn = true) (hat : i.R.at_ ≤ 1125899906842624) :
  Calls Tryz.prog 24 #[ptr a.sb,f.val] w fun e w'=>e = .returned (.int .i64 0) ∧ Mn W w' a (stlP (rstTP p2 i f.max (q1 ++ { x with inp:=some (rstI i f.max f.code) } :: q2)) q1 q2 { x with inp:=some (rstI i f.max f.code) }) R:=by
 obtain ⟨H,s,hm,hs,rfl,hr⟩:=h
 refine (Receive_139 hs hm f hv (by rw [hty];decide) (by rw [hty];decide) (by rw [hty];rfl) (by rw [hty];rfl)
  (fun xb s2=>s2.pl = p2 ∧ fndP s2.ss x.id = ptr xb)
  (fun er s3 l1 l2 _ x3=>er = 0 ∧ s3.pl = rstTP p2 i f.max (q1 ++ { x with inp:=some (rstI i f.max f.code) } :: q2) ∧ l1.map (·.2) = q1 ∧ l2.map (·.2) = q2 ∧ x3 = { x with inp:=some (rstI i f.max f.code) })
  (fun w1 H1 hm1 hs1=>by rw [hstr];exact CN s w1 H1 rfl hm1 hs1) ?_).mono fun e w' hh=>?_
 ·rintro w2 H2 s2 xb ⟨rfl,hf2⟩ hm2 hs2
  obtain ⟨l1,xa,l2,hl,e1,e2⟩:=pl_split (l:=s2.ss) hq
  have hxb:=xb_of hs2 hl hf2
  subst hxb
  refine (onReset_yes hs2 hm2 hl hi f hf hc ht hE ho hat).mono fun e w3 hh=>?_
  obtain ⟨rfl,H3,xa',hx',T,S⟩:=hh
  refine ⟨0,H3,_,l1,l2,xa',_,rfl,T,S,rfl,hx',hg0,hg1,rfl,?_,e1,e2,rfl⟩
  unfold rstT rstTP cntS cntSP cntT cntTP SetS.pl
  simp only [pl_set q1 q2 l1 l2 _ _ e1 e2]
 ·obtain ⟨er,H4,s3,l1,l2,xa3,x3,rfl,⟨rfl,h1,rfl,rfl,rfl⟩,hl,T,S⟩:=hh
  exact ⟨rfl,Mn.to hr T S (by rw [pl_stl,h1])⟩
theorem mn_reset_no (h : Mn W w a p R) (f : Fr) (hv : frm.FrV f) (hty : f.ty = 4) {x : Strm} {i : InP} {q1 q2 : List Strm} (hstr : f.str = x.id) (CN : CnOk W a p p2 x.id false) (hq : p2.ss = q1 ++ x :: q2) (hi : x.inp = some i) (hg0 : p2.g0.Ok) (hg1 : p2.g1.Ok)
  (hf : 0 ≤ f.max ∧ f.max ≤ 4611686018427387904) (hc : 0 ≤ i.cn ∧ i.cn ≤ maxOff) (ht : 0 ≤ p2.tot ∧ p2.tot ≤ maxOff) (hno : rstEP p2 i f.max ≠ 0 ∨ i.opn = false) :
  Calls Tryz.prog 24 #[ptr a.sb,f.val] w fun e w'=>e = .returned (.int .i64 (rstEP p2 i f.max)) ∧ Mn W w' a (stlP p2 q1 q2 x) R:=by
 obtain ⟨H,s,hm,hs,rfl,hr⟩:=h
 refine (Receive_139 hs hm f hv (by rw [hty];decide) (by rw [hty];decide) (by rw [hty];rfl) (by rw [hty];rfl)
  (fun xb s2=>s2.pl = p2 ∧ fndP s2.ss x.id = ptr xb)
  (fun er s3 l1 l2 _ x3=>er = rstEP p2 i f.max ∧ s3.pl = p2 ∧ l1.map (·.2) = q1 ∧ l2.map (·.2) = q2 ∧ x3 = x)
  (fun w1 H1 hm1 hs1=>by rw [hstr];exact CN s w1 H1 rfl hm1 hs1) ?_).mono fun e w' hh=>?_
 ·rintro w2 H2 s2 xb ⟨rfl,hf2⟩ hm2 hs2
  obtain ⟨l1,xa,l2,hl,e1,e2⟩:=pl_split (l:=s2.ss) hq
  have hxb:=xb_of hs2 hl hf2
  subst hxb
  refine (onReset_no hs2 hm2 hl hi f hf hc ht hno).mono fun e w3 hh=>?_
  obtain ⟨rfl,H3,T,S⟩:=hh
  exact ⟨_,H3,s2,l1,l2,xa,x,rfl,T,S,hl,rfl,hg0,hg1,rfl,rfl,e1,e2,rfl⟩
 ·obtain ⟨er,H4,s3,l1,l2,xa3,x3,rfl,⟨rfl,h1,rfl,rfl,rfl⟩,hl,T,S⟩:=hh
  exact ⟨rfl,Mn.to hr T S (by rw [pl_stl,h1])⟩
def uP : Pms:=⟨1000,500,4,4,0,0⟩
def u0 : SetP:=newP false uP uP
def vX (i : InP) : Strm:=⟨2,none,some i,false⟩
def vS (i : InP) (wn : Rcr) (tot : Int) : SetP:={ u0 with ss:=[] ++ vX i :: [],g1:={ u0.g1 with acc:=1 },wn:=wn,tot:=tot }
def j0 : InP:=newIn 500
theorem cn_u0 : CnOk W a u0 (vS j0 u0.wn 0) 2 false:=
 cn_new1 2 (by decide) (by decide) (by decide) 0 rfl (by decide) (by decide) (by decide) (by decide) 500 rfl (by decide) (by decide) (fun e he=>by cases he) (by decide) (q1:=[]) (x:=vX j0) (q2:=[]) rfl rfl
theorem cn_vS (i : InP) (wn : Rcr) (tot : Int) : CnOk W a (vS i wn tot) (vS i wn tot) 2 false:=by
 have hf : ∀ e ∈ (vS i wn tot).ss,e.id % 4 = 2 % 4 → e.id / 4 < 1:=fun e he _=>by
  have : e = vX i:=by simpa [vS] using he
  rw [this];show 2 / 4 < 1;decide
 have hl : (vS i wn tot).ss.length + (2 / 4 + 1 - 1) ≤ 900000:=by show 1 + (2 / 4 + 1 - 1) ≤ 900000;decide
 exact cn_new1 (p:=vS i wn tot) 2 (by decide) (by decide) (by decide : isLoc false 2 = false) 1 rfl (by decide : ((2 : Nat) : Int) / 4 < u0.g1.gr + u0.g1.fg) (by decide : -9223372036854775808 ≤ u0.g1.gr + u0.g1.fg ∧ u0.g1.gr + u0.g1.fg ≤ 800000) (by decide : 0 ≤ u0.peer.sdata) (by decide : u0.peer.sdata ≤ 1073741824) 500 rfl (by decide) (by decide) hf hl (q1:=[]) (x:=vX i) (q2:=[]) rfl rfl
theorem gvS (i : InP) (wn : Rcr) (tot : Int) : (vS i wn tot).g0.Ok ∧ (vS i wn tot).g1.Ok:=⟨gB_ok (by decide : gB u0.g0 = true),gB_ok (by decide : gB { u0.g1 with acc:=1 } = true)⟩
theorem stl_vS (p : SetP) (i : InP) (h : dn i.recv = false) : stlP p [] [] (vX i) = { p with ss:=[] ++ vX i :: [] }:=by
 have hd : (vX i).done = false:=by simp [Strm.done,vX,h]
 unfold stlP
 rw [hd]
 simp
section
variable {i : InP} {wn : Rcr} {tot : Int} {a0 a1 a2 a3 : Addr}
theorem u_data (h : Mn W w a p R) (CN : CnOk W a p (vS i wn tot) 2 false) (f : Fr) (hv : frm.FrV f) (hty : f.ty = 8) (hstr : f.str = 2) (hf0 : 0 ≤ f.off) (hf1 : f.off + f.s.size ≤ 1099511627776) (hf2 : f.s.size ≤ 8192) (hc : 0 ≤ i.cn ∧ i.cn ≤ maxOff) (ht : 0 ≤ tot ∧ tot ≤ maxOff) (hat : i.R.at_ ≤ 1125899906842624)
  (hcw : i.cn ≤ i.wn.most) (htw : tot ≤ wn.most) (hroom : i.wn.most ≤ i.R.at_ + i.R.bs.length) (hE : rea.Errs W a0 a1 a2 a3) (hA : rea.Apt W a0 a1) (hwr : i.wasR = false) (hstp : i.stp = false) (hd : datEP (vS i wn tot) i f = 0) (hn : dn (datI i f).recv = false) :
  Calls Tryz.prog 24 #[ptr a.sb,f.val] w fun e w'=>e = .returned (.int .i64 0) ∧ Mn W w' a (vS (datI i f) (wn.recH (tot + (cntN i (datEnd f) - i.cn))) (tot + (cntN i (datEnd f) - i.cn))) R:=by
 refine (mn_data h f hv hty (x:=vX i) (i:=i) (q1:=[]) (q2:=[]) hstr CN rfl rfl (gvS i wn tot).1 (gvS i wn tot).2 hf0 hf1 hf2 hc ht hat hcw htw hroom hE hA hwr hd).mono fun e w' hh=>⟨hh.1,?_⟩
 have h2:=hh.2
 have e1 : datI2 i f = datI i f:=by unfold datI2;rw [hstp];rfl
 rw [e1] at h2
 rw [show ({ vX i with inp:=some (datI i f) } : Strm) = vX (datI i f) from rfl,stl_vS _ _ hn] at h2
 unfold datSP at h2
 rw [hstp] at h2
 exact h2
theorem u_data_no (h : Mn W w a p R) (CN : CnOk W a p (vS i wn tot) 2 false) (f : Fr) (hv : frm.FrV f) (hty : f.ty = 8) (hstr : f.str = 2) (hf0 : 0 ≤ f.off) (hf1 : f.off + f.s.size ≤ 1099511627776) (hf2 : f.s.size ≤ 8192) (hc : 0 ≤ i.cn ∧ i.cn ≤ maxOff) (ht : 0 ≤ tot ∧ tot ≤ maxOff) (hat : i.R.at_ ≤ 1125899906842624)
  (hE : rea.Errs W a0 a1 a2 a3) (hA : rea.Apt W a0 a1) (hno : i.wasR = true ∨ datEP (vS i wn tot) i f ≠ 0) (hn : dn i.recv = false) :
  Calls Tryz.prog 24 #[ptr a.sb,f.val] w fun e w'=>e = .returned (.int .i64 (datEP (vS i wn tot) i f)) ∧ Mn W w' a (vS i wn tot) R:=by
 refine (mn_data_no h f hv hty (x:=vX i) (i:=i) (q1:=[]) (q2:=[]) hstr CN rfl rfl (gvS i wn tot).1 (gvS i wn tot).2 hf0 hf1 hf2 hc ht hat hE hA hno).mono fun e w' hh=>⟨hh.1,?_⟩
 have h2:=hh.2
 rw [stl_vS _ _ hn] at h2
 exact h2
theorem u_reset (h : Mn W w a p R) (CN : CnOk W a p (vS i wn tot) 2 false) (f : Fr) (hv : frm.FrV f) (hty : f.ty = 4) (hstr : f.str = 2) (hf : 0 ≤ f.max ∧ f.max ≤ 4611686018427387904) (hc : 0 ≤ i.cn ∧ i.cn ≤ maxOff) (ht : 0 ≤ tot ∧ tot ≤ maxOff) (hE : rstEP (vS i wn tot) i f.max = 0) (ho : i.opn = true) (hat : i.R.at_ ≤ 1125899906842624) (hn : dn (rstI i f.max f.code).recv = false) :
  Calls Tryz.prog 24 #[ptr a.sb,f.val] w fun e w'=>e = .returned (.int .i64 0) ∧ Mn W w' a (vS (rstI i f.max f.code) ((wn.recH (tot + (cntN i f.max - i.cn))).read (f.max - i.R.at_)) (tot + (cntN i f.max - i.cn))) R:=by
 refine (mn_reset h f hv hty (x:=vX i) (i:=i) (q1:=[]) (q2:=[]) hstr CN rfl rfl (gvS i wn tot).1 (gvS i wn tot).2 hf hc ht hE ho hat).mono fun e w' hh=>⟨hh.1,?_⟩
 have h2:=hh.2
 rw [show ({ vX i with inp:=some (rstI i f.max f.code) } : Strm) = vX (rstI i f.max f.code) from rfl,stl_vS _ _ hn] at h2
 exact h2
theorem u_reset_no (h : Mn W w a p R) (CN : CnOk W a p (vS i wn tot) 2 false) (f : Fr) (hv : frm.FrV f) (hty : f.ty = 4) (hstr : f.str = 2) (hf : 0 ≤ f.max ∧ f.max ≤ 4611686018427387904) (hc : 0 ≤ i.cn ∧ i.cn ≤ maxOff) (ht : 0 ≤ tot ∧ tot ≤ maxOff) (hno : rstEP (vS i wn tot) i f.max ≠ 0 ∨ i.opn = false) (hn : dn i.recv = false) :
  Calls Tryz.prog 24 #[ptr a.sb,f.val] w fun e w'=>e = .returned (.int .i64 (rstEP (vS i wn tot) i f.max)) ∧ Mn W w' a (vS i wn tot) R:=by
 refine (mn_reset_no h f hv hty (x:=vX i) (i:=i) (q1:=[]) (q2:=[]) hstr CN rfl rfl (gvS i wn tot).1 (gvS i wn tot).2 hf hc ht hno).mono fun e w' hh=>⟨hh.1,?_⟩
 have h2:=hh.2
 rw [stl_vS _ _ hn] at h2
 exact h2
end
end
end
section
open Go.RowKit Go.Maps
structure Fin (n : Nat) (i : InP) : Prop where
 kn : i.R.kn = true
 fin : i.R.fin = n
 hi : i.R.hi = n
 at0 : i.R.at_ = 0
 hs : i.R.hs = List.replicate 500 false
 bl : i.R.bs.length = 500
 cn : i.cn = n
 ms : i.wn.most = 500
 st : i.stp = false
 rc : i.recv = 1 ∨ i.recv = 2
def fEnd (n : Int) : Fr:=fStr 2 n ByteArray.empty true
def fX (n : Int) : Fr:=fStr 2 n ⟨#[120]⟩ false
theorem vEnd {n : Int} (h0 : 0 ≤ n) (h1 : n ≤ 1000) : frm.FrV (fEnd n):=v_str (by decide) h0 (by show n + 0 ≤ _;omega) (by decide)
theorem vXx {n : Int} (h0 : 0 ≤ n) (h1 : n ≤ 1000) : frm.FrV (fX n):=v_str (by decide) h0 (by show n + 1 ≤ _;omega) (by decide)
theorem agF_nil (a : Int) (bs : List Int) (hs : List Bool) (off : Int) : rea.agF a bs hs off [] = true:=by
 unfold rea.agF
 rw [List.all_eq_true]
 intro x hx
 have:=(rea.ovl_mem hx).1
 simp at this
theorem hg_rep (k j : Nat) : rea.hg (List.replicate k false) j = false:=by
 unfold rea.hg
 rw [List.getElem?_replicate]
 split <;> rfl
theorem putH_nil (a off : Int) (hs : List Bool) : rea.putH a off 0 hs = hs:=by
 apply List.ext_getElem
 ·simp [rea.putH]
 ·intro k h1 h2
  simp [rea.putH,rea.hg,h2]
  omega
theorem end_le (n : Nat) : datEnd (fEnd n) = n:=by show (n : Int) + 0 = n;omega
section
variable {n : Nat} {i : InP} {wn : Rcr} {tot : Int}
theorem j0_end (hn : n ≤ 100) : datEP (vS j0 u0.wn 0) j0 (fEnd n) = 0:=by
 have e1 : excP (vS j0 u0.wn 0) j0 (n : Int) = false:=by
  unfold excP
  have h1 : decide (j0.wn.most < (n : Int)) = false:=decide_eq_false (by show ¬ (500 : Int) < n;omega)
  have h2 : decide ((vS j0 u0.wn 0).wn.most < (vS j0 u0.wn 0).tot + max ((n : Int) - j0.cn) 0) = false:=decide_eq_false (by show ¬ (1000 : Int) < 0 + max ((n : Int) - 0) 0;omega)
  rw [h1,h2];rfl
 have e2 : rea.putE j0.R n ByteArray.empty true = 0:=by
  unfold rea.putE
  rw [show rea.bytesOf ByteArray.empty = [] from rfl,agF_nil]
  have : rea.finB j0.R ((n : Int) + (ByteArray.empty.size : Nat)) true = true:=by
   unfold rea.finB
   rw [show ((n : Int) + (ByteArray.empty.size : Nat)) = n by show (n : Int) + 0 = n;omega]
   rw [show decide ((n : Int) < j0.R.hi) = false from decide_eq_false (by show ¬ (n : Int) < 0;omega)]
   rfl
  rw [this];rfl
 unfold datEP
 rw [end_le,e1]
 exact e2
theorem on6_ok {r : Int} (h : r = 0 ∨ r = 1 ∨ r = 2) : onR r 6 = 1 ∨ onR r 6 = 2:=by rcases h with rfl | rfl | rfl <;> decide
theorem on7_ok {r : Int} (h : r = 1 ∨ r = 2) : onR r 7 = 1 ∨ onR r 7 = 2:=by rcases h with rfl | rfl <;> decide
theorem fin_step (hc : i.cn ≤ n) (hh : i.R.hi ≤ n) (h0 : i.R.at_ = 0) (hs : i.R.hs = List.replicate 500 false) (hb : i.R.bs.length = 500) (hm : i.wn.most = 500) (hst : i.stp = false) (hr : i.recv = 0 ∨ i.recv = 1 ∨ i.recv = 2) : Fin n (datI i (fEnd n)):=by
 have hoff : (fEnd (n : Int)).off.toNat = n:=by show ((n : Int)).toNat = n;omega
 have hsz : (fEnd (n : Int)).s.size = 0:=rfl
 have base : Fin n (datF i (fEnd n)):=by
  unfold datF
  have hfin : (fEnd (n : Int)).fin = true:=rfl
  rw [if_pos hfin]
  unfold datP
  rw [end_le]
  have hcn : cntN { i with R:=i.R.put (fEnd (n : Int)).off.toNat (fEnd (n : Int)).s (fEnd (n : Int)).fin } (n : Int) = n:=by
   unfold cntN
   show (if i.cn < (n : Int) then (n : Int) else i.cn) = n
   split <;> omega
  refine ⟨?_,?_,?_,h0,?_,?_,hcn,hm,hst,on6_ok hr⟩
  ·show (i.R.kn || true) = true;simp
  ·show (if true = true then (((fEnd (n : Int)).off.toNat : Nat) : Int) + (0 : Nat) else i.R.fin) = n
   rw [hoff];simp
  ·show max i.R.hi ((((fEnd (n : Int)).off.toNat : Nat) : Int) + (0 : Nat)) = n
   rw [hoff];omega
  ·show rea.putH i.R.at_ ((fEnd (n : Int)).off.toNat : Nat) 0 i.R.hs = _
   have:=putH_nil i.R.at_ ((fEnd (n : Int)).off.toNat : Nat) i.R.hs
   rw [← hs];exact this
  ·show (rea.putB _ _ _ _ i.R.bs).length = 500
   rw [rea.putB_length,hb]
 unfold datI
 split
 ·exact ⟨base.kn,base.fin,base.hi,base.at0,base.hs,base.bl,base.cn,base.ms,base.st,on7_ok base.rc⟩
 ·exact base
theorem Fin.notR (h : Fin n i) : i.wasR = false:=by
 unfold InP.wasR
 rcases h.rc with e | e <;> rw [e] <;> rfl
theorem Fin.dn (h : Fin n i) : stm.dn i.recv = false:=by
 rcases h.rc with e | e <;> rw [e] <;> rfl
theorem Fin.exc (h : Fin n i) (hn : n ≤ 100) {m : Nat} (hm : m ≤ 400) (hw : wn.most = 1000) (ht : tot = n) : excP (vS i wn tot) i (m : Int) = false:=by
 unfold excP
 have h1 : decide (i.wn.most < (m : Int)) = false:=decide_eq_false (by rw [h.ms];omega)
 have h2 : decide ((vS i wn tot).wn.most < (vS i wn tot).tot + max ((m : Int) - i.cn) 0) = false:=decide_eq_false (by
  show ¬ wn.most < tot + max ((m : Int) - i.cn) 0
  rw [hw,ht,h.cn];omega)
 rw [h1,h2];rfl
theorem Fin.end (h : Fin n i) (hn : n ≤ 100) {m : Nat} (hm : m ≤ 199) (hw : wn.most = 1000) (ht : tot = n) : datEP (vS i wn tot) i (fEnd m) = if m = n then 0 else 161:=by
 unfold datEP
 rw [h.notR,end_le,h.exc hn (by omega) hw ht]
 show rea.putE i.R m ByteArray.empty true = _
 unfold rea.putE
 rw [show rea.bytesOf ByteArray.empty = [] from rfl,agF_nil]
 unfold rea.finB
 rw [show ((m : Int) + (ByteArray.empty.size : Nat)) = m by show (m : Int) + 0 = m;omega,h.kn,h.fin,h.hi]
 by_cases e : m = n
 ·subst e;simp
 ·have e2 : ¬ (m : Int) = n:=by omega
  simp [e,e2]
theorem Fin.x (h : Fin n i) (hn : n ≤ 100) (hw : wn.most = 1000) (ht : tot = n) : datEP (vS i wn tot) i (fX n) = 161:=by
 unfold datEP
 rw [h.notR,show datEnd (fX (n : Int)) = ((n + 1 : Nat) : Int) from rfl,h.exc hn (by omega) hw ht]
 show rea.putE i.R n ⟨#[120]⟩ false = _
 unfold rea.putE
 have e1 : rea.agF i.R.at_ i.R.bs i.R.hs n (rea.bytesOf ⟨#[120]⟩) = true:=by
  unfold rea.agF
  rw [List.all_eq_true]
  intro x hx
  unfold rea.agAt
  rw [h.hs,hg_rep]
  rfl
 rw [e1]
 unfold rea.finB
 rw [h.kn,h.fin,h.hi]
 have e2 : ¬ ((n : Int) + ((⟨#[120]⟩ : ByteArray).size : Nat) = n):=by show ¬ (n : Int) + 1 = n;omega
 have e3 : ¬ ((n : Int) + ((⟨#[120]⟩ : ByteArray).size : Nat) < n):=by show ¬ (n : Int) + 1 < n;omega
 simp [e2,e3]
theorem Fin.rst (h : Fin n i) {k : Nat} (hk : k ≠ n) : rstEP (vS i wn tot) i (k : Int) = 161:=by
 unfold rstEP rstK rstS
 rw [h.notR,h.kn,h.fin]
 have : ¬ ((k : Int) = n):=by omega
 simp [this]
structure Rs (n : Nat) (i : InP) : Prop where
 rc : i.recv = 3
 fl : i.fl = n
 cn : i.cn = n
 ms : i.wn.most = 500
 st : i.stp = false
 at0 : i.R.at_ = 0
def fRs (n : Int) : Fr:=fReset 2 5 n
theorem j0_rst (hn : n ≤ 100) : rstEP (vS j0 u0.wn 0) j0 (n : Int) = 0:=by
 have e1 : excP (vS j0 u0.wn 0) j0 (n : Int) = false:=by
  unfold excP
  have h1 : decide (j0.wn.most < (n : Int)) = false:=decide_eq_false (by show ¬ (500 : Int) < n;omega)
  have h2 : decide ((vS j0 u0.wn 0).wn.most < (vS j0 u0.wn 0).tot + max ((n : Int) - j0.cn) 0) = false:=decide_eq_false (by show ¬ (1000 : Int) < 0 + max ((n : Int) - 0) 0;omega)
  rw [h1,h2];rfl
 unfold rstEP
 rw [e1,show rstK j0 = false from rfl,show decide ((n : Int) < j0.cn) = false from decide_eq_false (by show ¬ (n : Int) < 0;omega)]
 rfl
theorem j0_rs : Rs n (rstI j0 n 5):=by
 unfold rstI
 rw [show j0.stp = false from rfl]
 refine ⟨rfl,rfl,?_,rfl,rfl,rfl⟩
 show (if (0 : Int) < n then (n : Int) else 0) = n
 split <;> omega
theorem Rs.was (h : Rs n i) : i.wasR = true:=by unfold InP.wasR;rw [h.rc];rfl
theorem Rs.dn (h : Rs n i) : stm.dn i.recv = false:=by rw [h.rc];rfl
theorem Rs.opn (h : Rs n i) : i.opn = false:=by unfold InP.opn;rw [h.rc];rfl
theorem Rs.end (h : Rs n i) {m : Nat} : datEP (vS i wn tot) i (fEnd m) = if m = n then 0 else 161:=by
 unfold datEP
 rw [h.was,end_le,h.fl,show (fEnd (m : Int)).fin = true from rfl]
 by_cases e : m = n
 ·subst e;simp
 ·have e2 : ¬ ((m : Int) = n):=by omega
  simp [e,e2]
theorem Rs.x (h : Rs n i) : datEP (vS i wn tot) i (fX n) = 161:=by
 unfold datEP
 rw [h.was,show datEnd (fX (n : Int)) = ((n + 1 : Nat) : Int) from rfl,h.fl]
 have : ((n : Int) < ((n + 1 : Nat) : Int)):=by omega
 rw [decide_eq_true this]
 rfl
theorem Rs.rst (h : Rs n i) {k : Nat} (hk : k ≠ n) : rstEP (vS i wn tot) i (k : Int) = 161:=by
 unfold rstEP rstK rstS
 rw [h.was,h.fl]
 have : ¬ ((k : Int) = n):=by omega
 simp [this]
theorem Rs.rst0 (h : Rs n i) (hn : n ≤ 100) (hw : wn.most = 1000) (ht : tot = n) : rstEP (vS i wn tot) i (n : Int) = 0:=by
 have e1 : excP (vS i wn tot) i (n : Int) = false:=by
  unfold excP
  have h1 : decide (i.wn.most < (n : Int)) = false:=decide_eq_false (by rw [h.ms];omega)
  have h2 : decide ((vS i wn tot).wn.most < (vS i wn tot).tot + max ((n : Int) - i.cn) 0) = false:=decide_eq_false (by
   show ¬ wn.most < tot + max ((n : Int) - i.cn) 0
   rw [hw,ht,h.cn];omega)
  rw [h1,h2];rfl
 unfold rstEP rstS
 rw [e1,h.was,h.fl,h.cn]
 simp
end
end
section
open Go.RowKit Go.Maps
def FsOk (n : Nat) (r : Bool) (W w : World) (a : SetA) (R : List (Nat × Obj)) : Prop:=∃ i wn,(match r with | true=>Rs n i | false=>Fin n i) ∧ wn.most = 1000 ∧ Mn W w a (vS i wn n) R
section
variable {W w w' : World} {a : SetA} {R : List (Nat × Obj)} {n m k : Nat} {r : Bool} {a0 a1 a2 a3 : Addr}
theorem FsOk.below (h : FsOk n r W w a R) : Below W.heap.size W w:=by
 obtain ⟨i,wn,h1,h2,h3⟩:=h
 exact h3.below
theorem Mn.lay {p : SetP} (h : Mn W w a p R) (hb : Below w.heap.size w w') {c : Nat} {o : Obj} (hc : w.heap.size ≤ c) (ho : w'.heap[c]? = some o) : Mn W w' a p ((c,o) :: R):=by
 obtain ⟨H,s,h1,h2,h3,h4⟩:=h
 have T:=To.new (g:=(· = c)) h1 hb (fun k hk=>by rw [hk];exact hc)
 obtain ⟨S1,_⟩:=h2.laid T
 refine ⟨_,s,T.mem,S1,h3,fun x hx=>?_⟩
 rcases List.mem_cons.mp hx with rfl | hx
 ·refine ⟨ovr_at rfl ho,fun hf=>?_⟩
  obtain ⟨o2,ho2⟩:=h2.dom hf
  have:=h1.lt ho2
  omega
 ·exact ⟨T.kp _ _ (h4 x hx).1 (fun f=>f),(h4 x hx).2⟩
theorem FsOk.row (h : FsOk n r W w a R) {x : Nat × Obj} (hx : x ∈ R) : w.heap[x.1]? = some x.2:=by
 obtain ⟨i,wn,h1,h2,h3⟩:=h
 exact h3.row hx
theorem szE (n : Int) : (fEnd n).s.size ≤ 8192:=by show 0 ≤ 8192;decide
theorem szX (n : Int) : (fX n).s.size ≤ 8192:=by show 1 ≤ 8192;decide
theorem mo (h : n ≤ 200) : (0 : Int) ≤ n ∧ (n : Int) ≤ maxOff:=⟨by omega,by unfold maxOff;omega⟩
theorem vRs {c : Int} (hn : n ≤ 1000) (hc : 0 ≤ c ∧ c ≤ 1000) : frm.FrV (fReset 2 c n):=v_reset (by decide) (by omega) (by omega)
theorem fs_first (h : Mn W w a u0 R) (hn : n ≤ 100) (hE : rea.Errs W a0 a1 a2 a3) (hA : rea.Apt W a0 a1) : ∀ r : Bool,Calls Tryz.prog 24 #[ptr a.sb,(match r with | true=>fRs n | false=>fEnd n : Fr).val] w fun e w'=>e = .returned (.int .i64 0) ∧ FsOk n r W w' a R
 | false=>by
  have F:=fin_step (n:=n) (i:=j0) (by show (0 : Int) ≤ n;omega) (by show (0 : Int) ≤ n;omega) rfl rfl rfl rfl rfl (.inl rfl)
  refine (u_data h cn_u0 (fEnd n) (vEnd (by omega) (by omega)) rfl rfl (by show (0 : Int) ≤ n;omega) (by show (n : Int) + 0 ≤ _;omega) (szE _) (by decide) (by decide) (by decide) (by decide) (by decide) (by decide) hE hA rfl rfl (j0_end hn) F.dn).mono fun e w' hh=>⟨hh.1,_,u0.wn.recH n,F,rfl,?_⟩
  ·have h2:=hh.2
   rw [end_le] at h2
   have e1 : (0 : Int) + (cntN j0 (n : Int) - j0.cn) = n:=by
    show (0 : Int) + ((if (0 : Int) < n then (n : Int) else 0) - 0) = n
    split <;> omega
   rw [e1] at h2
   exact h2
 | true=>by
  have F:=j0_rs (n:=n)
  refine (u_reset h cn_u0 (fRs n) (vRs (by omega) (by decide)) rfl rfl (by show (0 : Int) ≤ n ∧ (n : Int) ≤ _;omega) (by decide) (by decide) (j0_rst hn) rfl (by decide) F.dn).mono fun e w' hh=>⟨hh.1,_,(u0.wn.recH n).read n,F,?_,?_⟩
  ·unfold Rcr.read;split <;> rfl
  ·have h2:=hh.2
   have e1 : (0 : Int) + (cntN j0 (fRs (n : Int)).max - j0.cn) = n:=by
    show (0 : Int) + ((if (0 : Int) < n then (n : Int) else 0) - 0) = n
    split <;> omega
   rw [e1] at h2
   have e2 : (fRs (n : Int)).max - (j0.R.at_ : Int) = n:=by show (n : Int) - 0 = n;omega
   rw [e2] at h2
   exact h2
theorem fs_end (hn : n ≤ 100) (hm : m ≤ 199) (hE : rea.Errs W a0 a1 a2 a3) (hA : rea.Apt W a0 a1) : ∀ (r : Bool) (_ : FsOk n r W w a R),Calls Tryz.prog 24 #[ptr a.sb,(fEnd m).val] w fun e w'=>e = .returned (.int .i64 (if m = n then 0 else 161)) ∧ FsOk n r W w' a R
 | false,⟨i,wn,F,hw,h⟩=>by
  have hd:=F.end (wn:=wn) (tot:=n) hn hm hw rfl
  have b0 : (0 : Int) ≤ (fEnd (m : Int)).off:=by show (0 : Int) ≤ m;omega
  have b1 : (fEnd (m : Int)).off + ((fEnd (m : Int)).s.size : Nat) ≤ 1099511627776:=by show (m : Int) + 0 ≤ _;omega
  have b2 : 0 ≤ i.cn ∧ i.cn ≤ maxOff:=by rw [F.cn];exact mo (by omega)
  by_cases e : m = n
  ·subst e
   rw [if_pos rfl] at hd ⊢
   have F2:=fin_step (n:=m) (i:=i) (by rw [F.cn];omega) (by rw [F.hi];omega) F.at0 F.hs F.bl F.ms F.st (.inr F.rc)
   refine (u_data h (cn_vS _ _ _) (fEnd m) (vEnd (by omega) (by omega)) rfl rfl b0 b1 (szE _) b2 (mo (by omega)) (by rw [F.at0];decide) (by rw [F.cn,F.ms];omega) (by rw [hw];omega) (by rw [F.ms,F.at0,F.bl];decide) hE hA F.notR F.st hd F2.dn).mono fun e w' hh=>⟨hh.1,_,wn.recH m,F2,hw,?_⟩
   ·have h2:=hh.2
    rw [end_le] at h2
    have e1 : (m : Int) + (cntN i (m : Int) - i.cn) = m:=by
     unfold cntN
     rw [F.cn]
     split <;> omega
    rw [e1] at h2
    exact h2
  ·rw [if_neg e] at hd ⊢
   refine (u_data_no h (cn_vS _ _ _) (fEnd m) (vEnd (by omega) (by omega)) rfl rfl b0 b1 (szE _) b2 (mo (by omega)) (by rw [F.at0];decide) hE hA (.inr (by rw [hd];decide)) F.dn).mono fun e w' hh=>⟨by rw [hh.1,hd],i,wn,F,hw,hh.2⟩
 | true,⟨i,wn,F,hw,h⟩=>by
  have hd:=F.end (wn:=wn) (tot:=n) (m:=m)
  have b0 : (0 : Int) ≤ (fEnd (m : Int)).off:=by show (0 : Int) ≤ m;omega
  have b1 : (fEnd (m : Int)).off + ((fEnd (m : Int)).s.size : Nat) ≤ 1099511627776:=by show (m : Int) + 0 ≤ _;omega
  have b2 : 0 ≤ i.cn ∧ i.cn ≤ maxOff:=by rw [F.cn];exact mo (by omega)
  refine (u_data_no h (cn_vS _ _ _) (fEnd m) (vEnd (by omega) (by omega)) rfl rfl b0 b1 (szE _) b2 (mo (by omega)) (by rw [F.at0];decide) hE hA (.inl F.was) F.dn).mono fun e w' hh=>⟨by rw [hh.1,hd],i,wn,F,hw,hh.2⟩
theorem fs_x (hn : n ≤ 100) (hE : rea.Errs W a0 a1 a2 a3) (hA : rea.Apt W a0 a1) : ∀ (r : Bool) (_ : FsOk n r W w a R),Calls Tryz.prog 24 #[ptr a.sb,(fX n).val] w fun e w'=>e = .returned (.int .i64 161) ∧ FsOk n r W w' a R
 | false,⟨i,wn,F,hw,h⟩=>by
  have hd:=F.x (wn:=wn) (tot:=n) hn hw rfl
  refine (u_data_no h (cn_vS _ _ _) (fX n) (vXx (by omega) (by omega)) rfl rfl (by show (0 : Int) ≤ n;omega) (by show (n : Int) + 1 ≤ _;omega) (szX _) (by rw [F.cn];exact mo (by omega)) (mo (by omega)) (by rw [F.at0];decide) hE hA (.inr (by rw [hd];decide)) F.dn).mono fun e w' hh=>⟨by rw [hh.1,hd],i,wn,F,hw,hh.2⟩
 | true,⟨i,wn,F,hw,h⟩=>by
  have hd:=F.x (wn:=wn) (tot:=n)
  refine (u_data_no h (cn_vS _ _ _) (fX n) (vXx (by omega) (by omega)) rfl rfl (by show (0 : Int) ≤ n;omega) (by show (n : Int) + 1 ≤ _;omega) (szX _) (by rw [F.cn];exact mo (by omega)) (mo (by omega)) (by rw [F.at0];decide) hE hA (.inl F.was) F.dn).mono fun e w' hh=>⟨by rw [hh.1,hd],i,wn,F,hw,hh.2⟩
theorem fs_rst (hn : n ≤ 100) (hk : k ≠ n) (hk2 : k ≤ 1000) : ∀ (r : Bool) (_ : FsOk n r W w a R),Calls Tryz.prog 24 #[ptr a.sb,(fReset 2 6 k).val] w fun e w'=>e = .returned (.int .i64 161) ∧ FsOk n r W w' a R
 | false,⟨i,wn,F,hw,h⟩=>by
  have hd:=F.rst (wn:=wn) (tot:=n) hk
  refine (u_reset_no h (cn_vS _ _ _) (fReset 2 6 k) (vRs (by omega) (by decide)) rfl rfl (by show (0 : Int) ≤ k ∧ (k : Int) ≤ _;omega) (by rw [F.cn];exact mo (by omega)) (mo (by omega)) (.inl (by show rstEP _ i (k : Int) ≠ 0;rw [hd];decide)) F.dn).mono fun e w' hh=>⟨by rw [hh.1];show Ending.returned (.int .i64 (rstEP _ i (k : Int))) = _;rw [hd],i,wn,F,hw,hh.2⟩
 | true,⟨i,wn,F,hw,h⟩=>by
  have hd:=F.rst (wn:=wn) (tot:=n) hk
  refine (u_reset_no h (cn_vS _ _ _) (fReset 2 6 k) (vRs (by omega) (by decide)) rfl rfl (by show (0 : Int) ≤ k ∧ (k : Int) ≤ _;omega) (by rw [F.cn];exact mo (by omega)) (mo (by omega)) (.inr F.opn) F.dn).mono fun e w' hh=>⟨by rw [hh.1];show Ending.returned (.int .i64 (rstEP _ i (k : Int))) = _;rw [hd],i,wn,F,hw,hh.2⟩
theorem fs_again (hn : n ≤ 100) (hE : rea.Errs W a0 a1 a2 a3) (hA : rea.Apt W a0 a1) : ∀ (r : Bool) (_ : FsOk n r W w a R),Calls Tryz.prog 24 #[ptr a.sb,(match r with | true=>fRs n | false=>fEnd n : Fr).val] w fun e w'=>e = .returned (.int .i64 0) ∧ FsOk n r W w' a R
 | false,h=>by
  have:=fs_end hn (show n ≤ 199 by omega) hE hA false h
  rw [if_pos rfl] at this
  exact this
 | true,⟨i,wn,F,hw,h⟩=>by
  have hd:=F.rst0 (wn:=wn) (tot:=n) hn hw rfl
  refine (u_reset_no h (cn_vS _ _ _) (fRs n) (vRs (by omega) (by decide)) rfl rfl (by show (0 : Int) ≤ n ∧ (n : Int) ≤ _;omega) (by rw [F.cn];exact mo (by omega)) (mo (by omega)) (.inr F.opn) F.dn).mono fun e w' hh=>⟨by rw [hh.1];show Ending.returned (.int .i64 (rstEP _ i (n : Int))) = _;rw [hd],i,wn,F,hw,hh.2⟩
end
end
end Go.Proofs.YthckbmcmdcemkaaGreatDoor.stm
